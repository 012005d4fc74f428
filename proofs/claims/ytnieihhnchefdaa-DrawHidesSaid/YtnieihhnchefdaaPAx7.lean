-- printed by a program of this session (a copy of print.py that takes stubs) out of the translation; Lean checks it
import Derived.Test.YtnieihhnchefdaaPAx0
import Derived.Test.YtnieihhnchefdaaPAx5
import Derived.Test.YtnieihhnchefdaaPAx6
namespace Go.Proofs.Ytnieihhnchefdaa.PA
open Go.RowKit Go.Proofs.YtnieihhnchefdaaW.PrintWords Go.Proofs.YtnieihhnchefdaaW.PrintLast Go.Proofs.YtnieihhnchefdaaW.PrintMore
attribute [local go_sem] max2_int min2_int max_two min_two max_three min_three max_four min_four   -- for this text's walks alone
set_option linter.unusedVariables false
set_option linter.unusedSimpArgs false

/-! ### letterlocklaw5_DrawHides: function 10 -/
mutual
def letterlocklaw5_DrawHides.j0 : Nat → ByteArray → ByteArray → Int → ByteArray → ByteArray → Int → Bool → Bool → Option (Bool)
  | 0, _, _, _, _, _, _, _, _ => none
  | k + 1, x0, x1, x2, x3, x4, x5, x13, x42 => if x42 = true then (some x13) else (letterlocklaw5_DrawHides.l0 k x0 x1 x2 x3 x4 x5 0)
def letterlocklaw5_DrawHides.l0 : Nat → ByteArray → ByteArray → Int → ByteArray → ByteArray → Int → Int → Option (Bool)
  | 0, _, _, _, _, _, _, _ => none
  | k + 1, x0, x1, x2, x3, x4, x5, x14 => if x14 < (x0.size : Int) then (if 0 ≤ x14 then (if (bt x0 x14) = 58 then (some true) else (letterlocklaw5_DrawHides.l0 k x0 x1 x2 x3 x4 x5 (wrap64 (x14 + 1)))) else (none)) else (letterlocklaw5_DrawHides.l1 k x0 x1 x2 x3 x4 x5 0)
def letterlocklaw5_DrawHides.l1 : Nat → ByteArray → ByteArray → Int → ByteArray → ByteArray → Int → Int → Option (Bool)
  | 0, _, _, _, _, _, _, _ => none
  | k + 1, x0, x1, x2, x3, x4, x5, x15 => if x15 < (x3.size : Int) then (if 0 ≤ x15 then (if (bt x3 x15) = 58 then (some true) else (letterlocklaw5_DrawHides.l1 k x0 x1 x2 x3 x4 x5 (wrap64 (x15 + 1)))) else (none)) else ((draw_Secret.f k x0 x1 x2).bind fun bt283 => ((draw_Secret.f k x3 x4 x5).bind fun bt285 => (if bt283.2 = 0 then (if bt285.2 = 0 then (if x0.toList = x3.toList then (if x1.toList = x4.toList then (letterlocklaw5_DrawHides.j3 k x2 bt283.1 bt285.1 ((bt283.1.toList == bt285.1.toList) != (x2 == x5))) else (letterlocklaw5_DrawHides.j3 k x2 bt283.1 bt285.1 ((bt283.1.toList == bt285.1.toList) != false))) else (letterlocklaw5_DrawHides.j3 k x2 bt283.1 bt285.1 ((bt283.1.toList == bt285.1.toList) != false))) else (letterlocklaw5_DrawHides.j3 k x2 bt283.1 bt285.1 true)) else (letterlocklaw5_DrawHides.j3 k x2 bt283.1 bt285.1 true))))
def letterlocklaw5_DrawHides.j3 : Nat → Int → ByteArray → ByteArray → Bool → Option (Bool)
  | 0, _, _, _, _ => none
  | k + 1, x2, x16, x18, x102 => if x102 = true then (some false) else ((term_OfPublic.f x16).bind fun bt287 => ((closure_Derives.f (([bt287.1, x18] : List ByteArray)) x16).bind fun bt292 => ((term_OfAtom.f k x2).bind fun t294 => ((closure_Derives.f (([t294] : List ByteArray)) x16).bind fun bt298 => (if bt292.2 = 0 then (if bt298.2 = 0 then (if bt298.1 = true then (some (bt292.1 == (x16.toList == x18.toList))) else (some false)) else (some false)) else (some false))))))
end
def letterlocklaw5_DrawHides.f (k : Nat) (a0 : ByteArray) (a1 : ByteArray) (a2 : Int) (a3 : ByteArray) (a4 : ByteArray) (a5 : Int) : Option (Bool) := (law5_shown.f).bind fun t282 => (if t282 = true then (letterlocklaw5_DrawHides.j0 k a0 a1 a2 a3 a4 a5 t282 (decide ((wrap64 ((wrap64 ((wrap64 ((a0.size : Int) + (a1.size : Int))) + (a3.size : Int))) + (a4.size : Int))) > 1000))) else (letterlocklaw5_DrawHides.j0 k a0 a1 a2 a3 a4 a5 t282 true))
theorem letterlocklaw5_DrawHides.mono_l : ∀ k, (∀ y0 y1 y2 y3 y4 y5 y6 y7, LeO (letterlocklaw5_DrawHides.j0 k y0 y1 y2 y3 y4 y5 y6 y7) (letterlocklaw5_DrawHides.j0 (k + 1) y0 y1 y2 y3 y4 y5 y6 y7)) ∧ (∀ y0 y1 y2 y3 y4 y5 y6, LeO (letterlocklaw5_DrawHides.l0 k y0 y1 y2 y3 y4 y5 y6) (letterlocklaw5_DrawHides.l0 (k + 1) y0 y1 y2 y3 y4 y5 y6)) ∧ (∀ y0 y1 y2 y3 y4 y5 y6, LeO (letterlocklaw5_DrawHides.l1 k y0 y1 y2 y3 y4 y5 y6) (letterlocklaw5_DrawHides.l1 (k + 1) y0 y1 y2 y3 y4 y5 y6)) ∧ (∀ y0 y1 y2 y3, LeO (letterlocklaw5_DrawHides.j3 k y0 y1 y2 y3) (letterlocklaw5_DrawHides.j3 (k + 1) y0 y1 y2 y3))
  | 0 => ⟨fun _ _ _ _ _ _ _ _ r h => by simp [letterlocklaw5_DrawHides.j0] at h, fun _ _ _ _ _ _ _ r h => by simp [letterlocklaw5_DrawHides.l0] at h, fun _ _ _ _ _ _ _ r h => by simp [letterlocklaw5_DrawHides.l1] at h, fun _ _ _ _ r h => by simp [letterlocklaw5_DrawHides.j3] at h⟩
  | k + 1 => by
    obtain ⟨ih0, ih1, ih2, ih3⟩ := letterlocklaw5_DrawHides.mono_l k
    refine ⟨?_, ?_, ?_, ?_⟩
    · intro y0 y1 y2 y3 y4 y5 y6 y7
      unfold letterlocklaw5_DrawHides.j0
      repeat' first
      | (with_reducible exact ih0 _ _ _ _ _ _ _ _)
      | (with_reducible exact ih1 _ _ _ _ _ _ _)
      | (with_reducible exact ih2 _ _ _ _ _ _ _)
      | (with_reducible exact ih3 _ _ _ _)
      | (with_reducible exact draw_Secret.mono _ _ _ _)
      | (with_reducible exact term_OfAtom.mono _ _)
      | (with_reducible exact LeO.refl _)
      | (with_reducible exact LeO.none _)
      | (with_reducible refine LeO.ite ?_ ?_)
      | (with_reducible refine LeO.bind ?_ (fun _ => ?_))
      | exact ih0 _ _ _ _ _ _ _ _
      | exact ih1 _ _ _ _ _ _ _
      | exact ih2 _ _ _ _ _ _ _
      | exact ih3 _ _ _ _
      | exact draw_Secret.mono _ _ _ _
      | exact term_OfAtom.mono _ _
      | exact LeO.none _
      | refine LeO.ite ?_ ?_
      | refine LeO.bind ?_ (fun _ => ?_)
    · intro y0 y1 y2 y3 y4 y5 y6
      unfold letterlocklaw5_DrawHides.l0
      repeat' first
      | (with_reducible exact ih0 _ _ _ _ _ _ _ _)
      | (with_reducible exact ih1 _ _ _ _ _ _ _)
      | (with_reducible exact ih2 _ _ _ _ _ _ _)
      | (with_reducible exact ih3 _ _ _ _)
      | (with_reducible exact draw_Secret.mono _ _ _ _)
      | (with_reducible exact term_OfAtom.mono _ _)
      | (with_reducible exact LeO.refl _)
      | (with_reducible exact LeO.none _)
      | (with_reducible refine LeO.ite ?_ ?_)
      | (with_reducible refine LeO.bind ?_ (fun _ => ?_))
      | exact ih0 _ _ _ _ _ _ _ _
      | exact ih1 _ _ _ _ _ _ _
      | exact ih2 _ _ _ _ _ _ _
      | exact ih3 _ _ _ _
      | exact draw_Secret.mono _ _ _ _
      | exact term_OfAtom.mono _ _
      | exact LeO.none _
      | refine LeO.ite ?_ ?_
      | refine LeO.bind ?_ (fun _ => ?_)
    · intro y0 y1 y2 y3 y4 y5 y6
      unfold letterlocklaw5_DrawHides.l1
      repeat' first
      | (with_reducible exact ih0 _ _ _ _ _ _ _ _)
      | (with_reducible exact ih1 _ _ _ _ _ _ _)
      | (with_reducible exact ih2 _ _ _ _ _ _ _)
      | (with_reducible exact ih3 _ _ _ _)
      | (with_reducible exact draw_Secret.mono _ _ _ _)
      | (with_reducible exact term_OfAtom.mono _ _)
      | (with_reducible exact LeO.refl _)
      | (with_reducible exact LeO.none _)
      | (with_reducible refine LeO.ite ?_ ?_)
      | (with_reducible refine LeO.bind ?_ (fun _ => ?_))
      | exact ih0 _ _ _ _ _ _ _ _
      | exact ih1 _ _ _ _ _ _ _
      | exact ih2 _ _ _ _ _ _ _
      | exact ih3 _ _ _ _
      | exact draw_Secret.mono _ _ _ _
      | exact term_OfAtom.mono _ _
      | exact LeO.none _
      | refine LeO.ite ?_ ?_
      | refine LeO.bind ?_ (fun _ => ?_)
    · intro y0 y1 y2 y3
      unfold letterlocklaw5_DrawHides.j3
      repeat' first
      | (with_reducible exact ih0 _ _ _ _ _ _ _ _)
      | (with_reducible exact ih1 _ _ _ _ _ _ _)
      | (with_reducible exact ih2 _ _ _ _ _ _ _)
      | (with_reducible exact ih3 _ _ _ _)
      | (with_reducible exact draw_Secret.mono _ _ _ _)
      | (with_reducible exact term_OfAtom.mono _ _)
      | (with_reducible exact LeO.refl _)
      | (with_reducible exact LeO.none _)
      | (with_reducible refine LeO.ite ?_ ?_)
      | (with_reducible refine LeO.bind ?_ (fun _ => ?_))
      | exact ih0 _ _ _ _ _ _ _ _
      | exact ih1 _ _ _ _ _ _ _
      | exact ih2 _ _ _ _ _ _ _
      | exact ih3 _ _ _ _
      | exact draw_Secret.mono _ _ _ _
      | exact term_OfAtom.mono _ _
      | exact LeO.none _
      | refine LeO.ite ?_ ?_
      | refine LeO.bind ?_ (fun _ => ?_)
theorem letterlocklaw5_DrawHides.mono : ∀ a0 a1 a2 a3 a4 a5 k, LeO (letterlocklaw5_DrawHides.f k a0 a1 a2 a3 a4 a5) (letterlocklaw5_DrawHides.f (k + 1) a0 a1 a2 a3 a4 a5) := by
  intro a0 a1 a2 a3 a4 a5 k
  obtain ⟨ih0, ih1, ih2, ih3⟩ := letterlocklaw5_DrawHides.mono_l k
  unfold letterlocklaw5_DrawHides.f
  repeat' first
      | (with_reducible exact ih0 _ _ _ _ _ _ _ _)
      | (with_reducible exact ih1 _ _ _ _ _ _ _)
      | (with_reducible exact ih2 _ _ _ _ _ _ _)
      | (with_reducible exact ih3 _ _ _ _)
      | (with_reducible exact draw_Secret.mono _ _ _ _)
      | (with_reducible exact term_OfAtom.mono _ _)
      | (with_reducible exact LeO.refl _)
      | (with_reducible exact LeO.none _)
      | (with_reducible refine LeO.ite ?_ ?_)
      | (with_reducible refine LeO.bind ?_ (fun _ => ?_))
      | exact ih0 _ _ _ _ _ _ _ _
      | exact ih1 _ _ _ _ _ _ _
      | exact ih2 _ _ _ _ _ _ _
      | exact ih3 _ _ _ _
      | exact draw_Secret.mono _ _ _ _
      | exact term_OfAtom.mono _ _
      | exact LeO.none _
      | refine LeO.ite ?_ ?_
      | refine LeO.bind ?_ (fun _ => ?_)
set_option maxHeartbeats 8000000 in
set_option maxRecDepth 100000 in
theorem letterlocklaw5_DrawHides.calls (k : Nat) (a0 : ByteArray) (a1 : ByteArray) (a2 : Int) (a3 : ByteArray) (a4 : ByteArray) (a5 : Int) (r : Bool) (w : World) (h : letterlocklaw5_DrawHides.f k a0 a1 a2 a3 a4 a5 = some r) :
    Calls Try.prog 10 #[.string a0, .string a1, .int .u64 a2, .string a3, .string a4, .int .u64 a5] w fun e w' => e = .returned (.bool r) ∧ Below w.heap.size w w' := by
  have HB := Aside0.mk (Below.refl w.heap.size w)
  have H : ((law5_shown.f).bind fun t282 => (if t282 = true then (letterlocklaw5_DrawHides.j0 k a0 a1 a2 a3 a4 a5 t282 (decide ((wrap64 ((wrap64 ((wrap64 ((a0.size : Int) + (a1.size : Int))) + (a3.size : Int))) + (a4.size : Int))) > 1000))) else (letterlocklaw5_DrawHides.j0 k a0 a1 a2 a3 a4 a5 t282 true))) = some r := h
  clear h
  replace H := Option.bind_eq_some_iff.mp H
  obtain ⟨t282, A70, H⟩ := H
  replace H : (if t282 = true then (letterlocklaw5_DrawHides.j0 k a0 a1 a2 a3 a4 a5 t282 (decide ((wrap64 ((wrap64 ((wrap64 ((a0.size : Int) + (a1.size : Int))) + (a3.size : Int))) + (a4.size : Int))) > 1000))) else (letterlocklaw5_DrawHides.j0 k a0 a1 a2 a3 a4 a5 t282 true)) = some r := H
  have A7 := Aside0.mk A70
  clear A70
  have HC8 := Aside0.mk H
  clear H
  go_enter Try.func10, Try.ntmps10
  go_upto_region 2 with (first | ((with_reducible refine gate_callee (f := 33) rfl ?_); refine goesL_ (some 26) rfl rfl Try.func33 (by kernel_rfl) rfl #[] rfl (by (try simp only [List.map_toArray, List.map_cons, List.map_nil]); first | done | rfl | (simp only [List.length_drop, List.length_take]; rfl)) ?_; (with_reducible refine (law5_shown.calls  t282 _ A7.out).mono ?_); rintro e w9 ⟨rfl, hb⟩; refine ⟨_, rfl, ?_⟩; have n0_ := Aside0.mk (below_step (by repeat (first | (with_reducible first | exact HB.out | apply below_alloc | apply pw_below_drewN | apply below_drew1) | exact HB.out)) hb); clear HB; have HB := n0_; clear n0_; (try clear hb); (try clear hb2); (try clear hk); (try clear hi)))
  (try simp only [Act.put, List.setIfInBounds_toArray, List.set_cons_zero, List.set_cons_succ])
  go_cut [42] (fun v42 wc => ∃ (kq : Nat) (x42_7 : Bool), v42 = .bool x42_7 ∧ Aside0 (letterlocklaw5_DrawHides.j0 kq a0 a1 a2 a3 a4 a5 t282 x42_7 = some r) ∧ Aside0 (kq ≤ k) ∧ Aside0 (Below w.heap.size w wc))
  case first =>
    have H := HC8.out
    clear HC8
    by_cases c10 : t282 = true
    · subst c10
      have H1 : (letterlocklaw5_DrawHides.j0 k a0 a1 a2 a3 a4 a5 true (decide ((wrap64 ((wrap64 ((wrap64 ((a0.size : Int) + (a1.size : Int))) + (a3.size : Int))) + (a4.size : Int))) > 1000))) = some r := by rw [if_pos rfl] at H; exact H
      clear H
      have H := H1
      clear H1
      have H' := Aside0.mk H
      clear H
      go_wp2
      go_meet
      case rel => exact ⟨_, (decide ((wrap64 ((wrap64 ((wrap64 ((a0.size : Int) + (a1.size : Int))) + (a3.size : Int))) + (a4.size : Int))) > 1000)), (by first | rfl | (simp; done) | (simp [*]; done)), H', ⟨by first | omega | exact Nat.le_refl _⟩, ⟨by repeat (first | (with_reducible first | exact HB.out | apply below_alloc | apply pw_below_drewN | apply below_drew1) | exact HB.out)⟩⟩
    · replace c10 := Bool.eq_false_iff.mpr c10
      subst c10
      have H1 : (letterlocklaw5_DrawHides.j0 k a0 a1 a2 a3 a4 a5 false true) = some r := by rw [if_neg (show ¬ (false = true) by decide)] at H; exact H
      clear H
      have H := H1
      clear H1
      have H' := Aside0.mk H
      clear H
      go_wp2
      go_meet
      case rel => exact ⟨_, (true), (by first | rfl | (simp; done) | (simp [*]; done)), H', ⟨by first | omega | exact Nat.le_refl _⟩, ⟨by repeat (first | (with_reducible first | exact HB.out | apply below_alloc | apply pw_below_drewN | apply below_drew1) | exact HB.out)⟩⟩
  case rest =>
    clear HC8
    try clear c1
    try clear p2
    try clear c3
    try clear p6
    try clear c10
    obtain ⟨kq, x42_7, rfl, HA, HJ7, HB⟩ := hcut
    cases kq with
    | zero => exact absurd HA.out (by simp [letterlocklaw5_DrawHides.j0])
    | succ kj7 =>
      have H := HA.out
      clear HA
      simp only [letterlocklaw5_DrawHides.j0] at H
      by_cases c11 : x42_7 = true
      · subst c11
        have H1 : (some t282) = some r := by rw [if_pos rfl] at H; exact H
        clear H
        have H := H1
        clear H1
        obtain rfl := Option.some.inj H
        go_wp2
        go_ret
        exact ⟨by first | rfl | (simp [errW_none, errW_some] <;> rfl) | (simp [*, errW_none, errW_some] <;> rfl), by repeat (first | (with_reducible first | exact HB.out | apply below_alloc | apply pw_below_drewN | apply below_drew1) | exact HB.out)⟩
      · replace c11 := Bool.eq_false_iff.mpr c11
        subst c11
        have H1 : (letterlocklaw5_DrawHides.l0 kj7 a0 a1 a2 a3 a4 a5 0) = some r := by rw [if_neg (show ¬ (false = true) by decide)] at H; exact H
        clear H
        have H := H1
        clear H1
        have H' := Aside0.mk H
        clear H
        go_wp2
        go_loopg [14] kj7 (fun kq v14 w' => ∃ (x14_2 : Int), v14 = .int .i64 x14_2 ∧ Aside0 (letterlocklaw5_DrawHides.l0 kq a0 a1 a2 a3 a4 a5 x14_2 = some r) ∧ Aside0 (kq ≤ kj7) ∧ Aside0 (Below w.heap.size w w'))
        case atStart => exact ⟨(0), (by first | rfl | (simp; done) | (simp [*]; done)), H', ⟨Nat.le_refl _⟩, ⟨by repeat (first | (with_reducible first | exact HB.out | apply below_alloc | apply pw_below_drewN | apply below_drew1) | exact HB.out)⟩⟩
        case round =>
          clear H'
          try clear c1
          try clear p2
          try clear c3
          try clear p6
          try clear c10
          try clear c11
          try clear p2
          try clear p6
          obtain ⟨x14_2, rfl, HA, HK2, HB⟩ := hrel
          cases gk with
          | zero => exact absurd HA.out (by simp [letterlocklaw5_DrawHides.l0])
          | succ k2 =>
            have H := HA.out
            clear HA
            simp only [letterlocklaw5_DrawHides.l0] at H
            by_cases c12 : x14_2 < (a0.size : Int)
            · rw [if_pos c12] at H
              have c12b0 : decide (x14_2 < (a0.size : Int)) = true := decide_eq_true c12
              clear c12
              by_cases c13 : 0 ≤ x14_2
              · rw [if_pos c13] at H
                have c13b0 : decide (0 ≤ x14_2) = true := decide_eq_true c13
                clear c13
                by_cases c15 : (bt a0 x14_2) = 58
                · rw [if_pos c15] at H
                  have c15b0 : ((bt a0 x14_2) == 58) = true := beq_iff_eq.mpr c15
                  have c15b1 : ((bt a0 x14_2) != 58) = false := bne_eq_false_iff_eq.mpr c15
                  clear c15
                  obtain rfl := Option.some.inj H
                  have p14 : 0 ≤ (x14_2 : Int) := of_decide_eq_true (by first | (with_reducible assumption) | assumption)
                  have q14 : x14_2 < (a0.size : Int) := of_decide_eq_true (by first | (with_reducible assumption) | assumption)
                  have hx14 := bt_at a0 x14_2
                  replace p14 := eq_true p14
                  replace q14 := eq_true q14
                  go_wp2
                  go_ret
                  exact ⟨by first | rfl | (simp [errW_none, errW_some] <;> rfl) | (simp [*, errW_none, errW_some] <;> rfl), by repeat (first | (with_reducible first | exact HB.out | apply below_alloc | apply pw_below_drewN | apply below_drew1) | exact HB.out)⟩
                · rw [if_neg c15] at H
                  have c15b0 : ((bt a0 x14_2) == 58) = false := beq_eq_false_iff_ne.mpr c15
                  have c15b1 : ((bt a0 x14_2) != 58) = true := bne_iff_ne.mpr c15
                  have H' := Aside0.mk H
                  clear H
                  have p14 : 0 ≤ (x14_2 : Int) := of_decide_eq_true (by first | (with_reducible assumption) | assumption)
                  have q14 : x14_2 < (a0.size : Int) := of_decide_eq_true (by first | (with_reducible assumption) | assumption)
                  have hx14 := bt_at a0 x14_2
                  replace p14 := eq_true p14
                  replace q14 := eq_true q14
                  go_wp2
                  go_roundg k2
                  case measure => have := HJ7.out; have := HK2.out; omega
                  case rel => exact ⟨(wrap64 (x14_2 + 1)), (by first | rfl | (simp; done) | (simp [*]; done)), H', ⟨by have := HJ7.out; have := HK2.out; omega⟩, ⟨by repeat (first | (with_reducible first | exact HB.out | apply below_alloc | apply pw_below_drewN | apply below_drew1) | exact HB.out)⟩⟩
              · rw [if_neg c13] at H
                exact absurd H (by simp)
            · rw [if_neg c12] at H
              have c12b0 : decide (x14_2 < (a0.size : Int)) = false := decide_eq_false c12
              clear c12
              have H' := Aside0.mk H
              clear H
              go_wp2
              go_loopg [15] k2 (fun kq v15 w' => ∃ (x15_3 : Int), v15 = .int .i64 x15_3 ∧ Aside0 (letterlocklaw5_DrawHides.l1 kq a0 a1 a2 a3 a4 a5 x15_3 = some r) ∧ Aside0 (kq ≤ k2) ∧ Aside0 (Below w.heap.size w w'))
              case atStart => exact ⟨(0), (by first | rfl | (simp; done) | (simp [*]; done)), H', ⟨Nat.le_refl _⟩, ⟨by repeat (first | (with_reducible first | exact HB.out | apply below_alloc | apply pw_below_drewN | apply below_drew1) | exact HB.out)⟩⟩
              case round =>
                clear H'
                try clear c1
                try clear p1
                try clear q1
                try clear hx1
                try clear p2
                try clear c3
                try clear p6
                try clear c10
                try clear c11
                try clear c12
                try clear c12b0
                try clear c13
                try clear c13b0
                try clear p14
                try clear q14
                try clear hx14
                try clear c15
                try clear c15b0
                try clear c15b1
                try clear p14
                try clear p2
                try clear p6
                try clear q14
                obtain ⟨x15_3, rfl, HA, HK3, HB⟩ := hrel
                cases gk with
                | zero => exact absurd HA.out (by simp [letterlocklaw5_DrawHides.l1])
                | succ k3 =>
                  have H := HA.out
                  clear HA
                  simp only [letterlocklaw5_DrawHides.l1] at H
                  by_cases c16 : x15_3 < (a3.size : Int)
                  · rw [if_pos c16] at H
                    have c16b0 : decide (x15_3 < (a3.size : Int)) = true := decide_eq_true c16
                    clear c16
                    by_cases c17 : 0 ≤ x15_3
                    · rw [if_pos c17] at H
                      have c17b0 : decide (0 ≤ x15_3) = true := decide_eq_true c17
                      clear c17
                      by_cases c19 : (bt a3 x15_3) = 58
                      · rw [if_pos c19] at H
                        have c19b0 : ((bt a3 x15_3) == 58) = true := beq_iff_eq.mpr c19
                        have c19b1 : ((bt a3 x15_3) != 58) = false := bne_eq_false_iff_eq.mpr c19
                        clear c19
                        obtain rfl := Option.some.inj H
                        have p18 : 0 ≤ (x15_3 : Int) := of_decide_eq_true (by first | (with_reducible assumption) | assumption)
                        have q18 : x15_3 < (a3.size : Int) := of_decide_eq_true (by first | (with_reducible assumption) | assumption)
                        have hx18 := bt_at a3 x15_3
                        replace p18 := eq_true p18
                        replace q18 := eq_true q18
                        go_wp2
                        go_ret
                        exact ⟨by first | rfl | (simp [errW_none, errW_some] <;> rfl) | (simp [*, errW_none, errW_some] <;> rfl), by repeat (first | (with_reducible first | exact HB.out | apply below_alloc | apply pw_below_drewN | apply below_drew1) | exact HB.out)⟩
                      · rw [if_neg c19] at H
                        have c19b0 : ((bt a3 x15_3) == 58) = false := beq_eq_false_iff_ne.mpr c19
                        have c19b1 : ((bt a3 x15_3) != 58) = true := bne_iff_ne.mpr c19
                        have H' := Aside0.mk H
                        clear H
                        have p18 : 0 ≤ (x15_3 : Int) := of_decide_eq_true (by first | (with_reducible assumption) | assumption)
                        have q18 : x15_3 < (a3.size : Int) := of_decide_eq_true (by first | (with_reducible assumption) | assumption)
                        have hx18 := bt_at a3 x15_3
                        replace p18 := eq_true p18
                        replace q18 := eq_true q18
                        go_wp2
                        go_roundg k3
                        case measure => have := HJ7.out; have := HK2.out; have := HK3.out; omega
                        case rel => exact ⟨(wrap64 (x15_3 + 1)), (by first | rfl | (simp; done) | (simp [*]; done)), H', ⟨by have := HJ7.out; have := HK2.out; have := HK3.out; omega⟩, ⟨by repeat (first | (with_reducible first | exact HB.out | apply below_alloc | apply pw_below_drewN | apply below_drew1) | exact HB.out)⟩⟩
                    · rw [if_neg c17] at H
                      exact absurd H (by simp)
                  · rw [if_neg c16] at H
                    have c16b0 : decide (x15_3 < (a3.size : Int)) = false := decide_eq_false c16
                    clear c16
                    replace H := Option.bind_eq_some_iff.mp H
                    obtain ⟨⟨t283, t284⟩, A200, H⟩ := H
                    replace H : ((draw_Secret.f k3 a3 a4 a5).bind fun bt285 => (if t284 = 0 then (if bt285.2 = 0 then (if a0.toList = a3.toList then (if a1.toList = a4.toList then (letterlocklaw5_DrawHides.j3 k3 a2 t283 bt285.1 ((t283.toList == bt285.1.toList) != (a2 == a5))) else (letterlocklaw5_DrawHides.j3 k3 a2 t283 bt285.1 ((t283.toList == bt285.1.toList) != false))) else (letterlocklaw5_DrawHides.j3 k3 a2 t283 bt285.1 ((t283.toList == bt285.1.toList) != false))) else (letterlocklaw5_DrawHides.j3 k3 a2 t283 bt285.1 true)) else (letterlocklaw5_DrawHides.j3 k3 a2 t283 bt285.1 true))) = some r := H
                    have A20 := Aside0.mk A200
                    clear A200
                    replace H := Option.bind_eq_some_iff.mp H
                    obtain ⟨⟨t285, t286⟩, A210, H⟩ := H
                    replace H : (if t284 = 0 then (if t286 = 0 then (if a0.toList = a3.toList then (if a1.toList = a4.toList then (letterlocklaw5_DrawHides.j3 k3 a2 t283 t285 ((t283.toList == t285.toList) != (a2 == a5))) else (letterlocklaw5_DrawHides.j3 k3 a2 t283 t285 ((t283.toList == t285.toList) != false))) else (letterlocklaw5_DrawHides.j3 k3 a2 t283 t285 ((t283.toList == t285.toList) != false))) else (letterlocklaw5_DrawHides.j3 k3 a2 t283 t285 true)) else (letterlocklaw5_DrawHides.j3 k3 a2 t283 t285 true)) = some r := H
                    have A21 := Aside0.mk A210
                    clear A210
                    have HC22 := Aside0.mk H
                    clear H
                    go_upto_region 16 with (first | ((with_reducible refine gate_callee (f := 34) rfl ?_); refine goesL_ (some 68) rfl rfl Try.func34 (by kernel_rfl) rfl #[.string a0, .string a1, .int .u64 a2] rfl (by (try simp only [List.map_toArray, List.map_cons, List.map_nil]); first | done | rfl | (simp only [List.length_drop, List.length_take]; rfl)) ?_; (with_reducible refine (draw_Secret.calls k3 a0 a1 a2 t283 t284 _ A20.out).mono ?_); rintro e w23 ⟨rfl, hb⟩; refine ⟨_, rfl, ?_⟩; have n0_ := Aside0.mk (below_step (by repeat (first | (with_reducible first | exact HB.out | apply below_alloc | apply pw_below_drewN | apply below_drew1) | exact HB.out)) hb); clear HB; have HB := n0_; clear n0_; (try clear hb); (try clear hb2); (try clear hk); (try clear hi)) | ((with_reducible refine gate_callee (f := 34) rfl ?_); refine goesL_ (some 75) rfl rfl Try.func34 (by kernel_rfl) rfl #[.string a3, .string a4, .int .u64 a5] rfl (by (try simp only [List.map_toArray, List.map_cons, List.map_nil]); first | done | rfl | (simp only [List.length_drop, List.length_take]; rfl)) ?_; (with_reducible refine (draw_Secret.calls k3 a3 a4 a5 t285 t286 _ A21.out).mono ?_); rintro e w24 ⟨rfl, hb⟩; refine ⟨_, rfl, ?_⟩; have n0_ := Aside0.mk (below_step (by repeat (first | (with_reducible first | exact HB.out | apply below_alloc | apply pw_below_drewN | apply below_drew1) | exact HB.out)) hb); clear HB; have HB := n0_; clear n0_; (try clear hb); (try clear hb2); (try clear hk); (try clear hi)))
                    (try simp only [Act.put, List.setIfInBounds_toArray, List.set_cons_zero, List.set_cons_succ])
                    go_cut [102] (fun v102 wc => ∃ (kq : Nat) (x102_21 : Bool), v102 = .bool x102_21 ∧ Aside0 (letterlocklaw5_DrawHides.j3 kq a2 t283 t285 x102_21 = some r) ∧ Aside0 (kq ≤ k3) ∧ Aside0 (Below w.heap.size w wc))
                    case first =>
                      have H := HC22.out
                      clear HC22
                      by_cases c25 : t284 = 0
                      · rw [if_pos c25] at H
                        have c25b0 : (t284 == 0) = true := beq_iff_eq.mpr c25
                        have c25b1 : (t284 != 0) = false := bne_eq_false_iff_eq.mpr c25
                        clear c25
                        (first | rw [c25b0] | (simp only [i64_w, i32_w]; rw [c25b0]) | skip)
                        by_cases c26 : t286 = 0
                        · rw [if_pos c26] at H
                          have c26b0 : (t286 == 0) = true := beq_iff_eq.mpr c26
                          have c26b1 : (t286 != 0) = false := bne_eq_false_iff_eq.mpr c26
                          clear c26
                          by_cases c27 : a0.toList = a3.toList
                          · rw [if_pos c27] at H
                            have c27b0 : (a0.toList == a3.toList) = true := beq_iff_eq.mpr c27
                            have c27b1 : (a0.toList != a3.toList) = false := bne_eq_false_iff_eq.mpr c27
                            clear c27
                            by_cases c28 : a1.toList = a4.toList
                            · rw [if_pos c28] at H
                              have c28b0 : (a1.toList == a4.toList) = true := beq_iff_eq.mpr c28
                              have c28b1 : (a1.toList != a4.toList) = false := bne_eq_false_iff_eq.mpr c28
                              clear c28
                              have H' := Aside0.mk H
                              clear H
                              go_wp2
                              go_meet
                              case rel => exact ⟨_, (((t283.toList == t285.toList) != (a2 == a5))), (by first | rfl | (simp; done) | (simp [*]; done)), H', ⟨by have := HJ7.out; have := HK2.out; have := HK3.out; first | omega | exact Nat.le_refl _⟩, ⟨by repeat (first | (with_reducible first | exact HB.out | apply below_alloc | apply pw_below_drewN | apply below_drew1) | exact HB.out)⟩⟩
                            · rw [if_neg c28] at H
                              have c28b0 : (a1.toList == a4.toList) = false := beq_eq_false_iff_ne.mpr c28
                              have c28b1 : (a1.toList != a4.toList) = true := bne_iff_ne.mpr c28
                              have H' := Aside0.mk H
                              clear H
                              go_wp2
                              go_meet
                              case rel => exact ⟨_, (((t283.toList == t285.toList) != false)), (by first | rfl | (simp; done) | (simp [*]; done)), H', ⟨by have := HJ7.out; have := HK2.out; have := HK3.out; first | omega | exact Nat.le_refl _⟩, ⟨by repeat (first | (with_reducible first | exact HB.out | apply below_alloc | apply pw_below_drewN | apply below_drew1) | exact HB.out)⟩⟩
                          · rw [if_neg c27] at H
                            have c27b0 : (a0.toList == a3.toList) = false := beq_eq_false_iff_ne.mpr c27
                            have c27b1 : (a0.toList != a3.toList) = true := bne_iff_ne.mpr c27
                            have H' := Aside0.mk H
                            clear H
                            go_wp2
                            go_meet
                            case rel => exact ⟨_, (((t283.toList == t285.toList) != false)), (by first | rfl | (simp; done) | (simp [*]; done)), H', ⟨by have := HJ7.out; have := HK2.out; have := HK3.out; first | omega | exact Nat.le_refl _⟩, ⟨by repeat (first | (with_reducible first | exact HB.out | apply below_alloc | apply pw_below_drewN | apply below_drew1) | exact HB.out)⟩⟩
                        · rw [if_neg c26] at H
                          have c26b0 : (t286 == 0) = false := beq_eq_false_iff_ne.mpr c26
                          have c26b1 : (t286 != 0) = true := bne_iff_ne.mpr c26
                          have H' := Aside0.mk H
                          clear H
                          go_wp2
                          go_meet
                          case rel => exact ⟨_, (true), (by first | rfl | (simp; done) | (simp [*]; done)), H', ⟨by have := HJ7.out; have := HK2.out; have := HK3.out; first | omega | exact Nat.le_refl _⟩, ⟨by repeat (first | (with_reducible first | exact HB.out | apply below_alloc | apply pw_below_drewN | apply below_drew1) | exact HB.out)⟩⟩
                      · rw [if_neg c25] at H
                        have c25b0 : (t284 == 0) = false := beq_eq_false_iff_ne.mpr c25
                        have c25b1 : (t284 != 0) = true := bne_iff_ne.mpr c25
                        (first | rw [c25b0] | (simp only [i64_w, i32_w]; rw [c25b0]) | skip)
                        have H' := Aside0.mk H
                        clear H
                        go_wp2
                        go_meet
                        case rel => exact ⟨_, (true), (by first | rfl | (simp; done) | (simp [*]; done)), H', ⟨by have := HJ7.out; have := HK2.out; have := HK3.out; first | omega | exact Nat.le_refl _⟩, ⟨by repeat (first | (with_reducible first | exact HB.out | apply below_alloc | apply pw_below_drewN | apply below_drew1) | exact HB.out)⟩⟩
                    case rest =>
                      clear HC22
                      try clear c1
                      try clear p1
                      try clear q1
                      try clear hx1
                      try clear c2
                      try clear p2
                      try clear c3
                      try clear p6
                      try clear c10
                      try clear c11
                      try clear c12
                      try clear c12b0
                      try clear c13
                      try clear c13b0
                      try clear p14
                      try clear q14
                      try clear hx14
                      try clear c15
                      try clear c15b0
                      try clear c15b1
                      try clear c16
                      try clear c16b0
                      try clear c17
                      try clear c17b0
                      try clear p18
                      try clear q18
                      try clear hx18
                      try clear c19
                      try clear c19b0
                      try clear c19b1
                      try clear c25
                      try clear c25b0
                      try clear c25b1
                      try clear c26
                      try clear c26b0
                      try clear c26b1
                      try clear c27
                      try clear c27b0
                      try clear c27b1
                      try clear c28
                      try clear c28b0
                      try clear c28b1
                      try clear p1
                      try clear p14
                      try clear p18
                      try clear p2
                      try clear p6
                      try clear q1
                      try clear q14
                      try clear q18
                      obtain ⟨kq, x102_21, rfl, HA, HJ21, HB⟩ := hcut
                      cases kq with
                      | zero => exact absurd HA.out (by simp [letterlocklaw5_DrawHides.j3])
                      | succ kj21 =>
                        have H := HA.out
                        clear HA
                        simp only [letterlocklaw5_DrawHides.j3] at H
                        by_cases c29 : x102_21 = true
                        · subst c29
                          have H1 : (some false) = some r := by rw [if_pos rfl] at H; exact H
                          clear H
                          have H := H1
                          clear H1
                          obtain rfl := Option.some.inj H
                          go_wp2
                          go_ret
                          exact ⟨by first | rfl | (simp [errW_none, errW_some] <;> rfl) | (simp [*, errW_none, errW_some] <;> rfl), by repeat (first | (with_reducible first | exact HB.out | apply below_alloc | apply pw_below_drewN | apply below_drew1) | exact HB.out)⟩
                        · replace c29 := Bool.eq_false_iff.mpr c29
                          subst c29
                          have H1 : ((term_OfPublic.f t283).bind fun bt287 => ((closure_Derives.f (([bt287.1, t285] : List ByteArray)) t283).bind fun bt292 => ((term_OfAtom.f kj21 a2).bind fun t294 => ((closure_Derives.f (([t294] : List ByteArray)) t283).bind fun bt298 => (if bt292.2 = 0 then (if bt298.2 = 0 then (if bt298.1 = true then (some (bt292.1 == (t283.toList == t285.toList))) else (some false)) else (some false)) else (some false)))))) = some r := by rw [if_neg (show ¬ (false = true) by decide)] at H; exact H
                          clear H
                          have H := H1
                          clear H1
                          replace H := Option.bind_eq_some_iff.mp H
                          obtain ⟨⟨t287, t288⟩, A300, H⟩ := H
                          replace H : ((closure_Derives.f (([t287, t285] : List ByteArray)) t283).bind fun bt292 => ((term_OfAtom.f kj21 a2).bind fun t294 => ((closure_Derives.f (([t294] : List ByteArray)) t283).bind fun bt298 => (if bt292.2 = 0 then (if bt298.2 = 0 then (if bt298.1 = true then (some (bt292.1 == (t283.toList == t285.toList))) else (some false)) else (some false)) else (some false))))) = some r := H
                          have A30 := Aside0.mk A300
                          clear A300
                          obtain ⟨y289, hy289⟩ : ∃ y_ : List ByteArray, y_ = (([t287, t285] : List ByteArray)) := ⟨_, rfl⟩
                          replace H : ((closure_Derives.f y289 t283).bind fun bt292 => ((term_OfAtom.f kj21 a2).bind fun t294 => ((closure_Derives.f (([t294] : List ByteArray)) t283).bind fun bt298 => (if bt292.2 = 0 then (if bt298.2 = 0 then (if bt298.1 = true then (some (bt292.1 == (t283.toList == t285.toList))) else (some false)) else (some false)) else (some false))))) = some r := by first | (rw [hy289]; with_reducible exact H) | (have H2_ := (Option.bind_some _ _).symm.trans H; rw [hy289]; with_reducible exact H2_) | (have H2_ := (Option.bind_some _ _).symm.trans H; with_reducible exact H2_) | with_reducible exact H | (rw [hy289]; exact H) | exact H
                          have Ny289 := Aside0.mk hy289
                          clear hy289
                          replace H := Option.bind_eq_some_iff.mp H
                          obtain ⟨⟨t292, t293⟩, A310, H⟩ := H
                          replace H : ((term_OfAtom.f kj21 a2).bind fun t294 => ((closure_Derives.f (([t294] : List ByteArray)) t283).bind fun bt298 => (if t293 = 0 then (if bt298.2 = 0 then (if bt298.1 = true then (some (t292 == (t283.toList == t285.toList))) else (some false)) else (some false)) else (some false)))) = some r := H
                          have A31 := Aside0.mk A310
                          clear A310
                          replace H := Option.bind_eq_some_iff.mp H
                          obtain ⟨t294, A320, H⟩ := H
                          replace H : ((closure_Derives.f (([t294] : List ByteArray)) t283).bind fun bt298 => (if t293 = 0 then (if bt298.2 = 0 then (if bt298.1 = true then (some (t292 == (t283.toList == t285.toList))) else (some false)) else (some false)) else (some false))) = some r := H
                          have A32 := Aside0.mk A320
                          clear A320
                          obtain ⟨y295, hy295⟩ : ∃ y_ : List ByteArray, y_ = (([t294] : List ByteArray)) := ⟨_, rfl⟩
                          replace H : ((closure_Derives.f y295 t283).bind fun bt298 => (if t293 = 0 then (if bt298.2 = 0 then (if bt298.1 = true then (some (t292 == (t283.toList == t285.toList))) else (some false)) else (some false)) else (some false))) = some r := by first | (rw [hy295]; with_reducible exact H) | (have H2_ := (Option.bind_some _ _).symm.trans H; rw [hy295]; with_reducible exact H2_) | (have H2_ := (Option.bind_some _ _).symm.trans H; with_reducible exact H2_) | with_reducible exact H | (rw [hy295]; exact H) | exact H
                          have Ny295 := Aside0.mk hy295
                          clear hy295
                          replace H := Option.bind_eq_some_iff.mp H
                          obtain ⟨⟨t298, t299⟩, A330, H⟩ := H
                          replace H : (if t293 = 0 then (if t299 = 0 then (if t298 = true then (some (t292 == (t283.toList == t285.toList))) else (some false)) else (some false)) else (some false)) = some r := H
                          have A33 := Aside0.mk A330
                          clear A330
                          by_cases c34 : t293 = 0
                          · rw [if_pos c34] at H
                            have c34b0 : (t293 == 0) = true := beq_iff_eq.mpr c34
                            have c34b1 : (t293 != 0) = false := bne_eq_false_iff_eq.mpr c34
                            clear c34
                            by_cases c35 : t299 = 0
                            · rw [if_pos c35] at H
                              have c35b0 : (t299 == 0) = true := beq_iff_eq.mpr c35
                              have c35b1 : (t299 != 0) = false := bne_eq_false_iff_eq.mpr c35
                              clear c35
                              by_cases c36 : t298 = true
                              · subst c36
                                have H1 : (some (t292 == (t283.toList == t285.toList))) = some r := by rw [if_pos rfl] at H; exact H
                                clear H
                                have H := H1
                                clear H1
                                obtain rfl := Option.some.inj H
                                go_wp2_with (first | ((with_reducible refine gate_callee (f := 31) rfl ?_); refine goesL_ (some 105) rfl rfl Try.func31 (by kernel_rfl) rfl #[.string t283] rfl (by (try simp only [List.map_toArray, List.map_cons, List.map_nil]); first | done | rfl | (simp only [List.length_drop, List.length_take]; rfl)) ?_; (with_reducible refine (term_OfPublic.calls t283 t287 t288 _ A30.out).mono ?_); rintro e w37 ⟨rfl, hb⟩; refine ⟨_, rfl, ?_⟩; have n0_ := Aside0.mk (below_step (by repeat (first | (with_reducible first | exact HB.out | apply below_alloc | apply pw_below_drewN | apply below_drew1) | exact HB.out)) hb); clear HB; have HB := n0_; clear n0_; (try clear hb); (try clear hb2); (try clear hk); (try clear hi)) | ((with_reducible refine gate_dst (N := 111) rfl ?_); (try (refine gate_guard (by rfl) ?_; dsimp only)); refine Kd.R_lit Kd.string _ 9 ?hg (N := 111) ?hd (xs := ([t287, t285] : List ByteArray)) (inner := [.string t287, .string t285]) (ok := fun _ => True) (okp := fun _ => True) ?hr ?hp (fun _ hk => hk) trivial (Below.refl _ _) (Nat.le_refl _) (by simp) ?_; (case hd => rfl); (case hg => rfl); (case hr => first | (go_simp; done) | (go_simp; rfl)); (case hp => exact (Reps.one (show Kd.M Kd.string _ _ _ t287 [.string t287] from rfl) (Reps.one (show Kd.M Kd.string _ _ _ t285 [.string t285] from rfl) (Reps.none _ _)))); intro v290 w38 ho39 hb hg_ hnew_; clear hg_ hnew_; (first | rw [← Ny289.out] at ho39 | (simp only [Int.reduceToNat] at ho39; rw [← Ny289.out] at ho39)); have n0_ := Aside0.mk (Kd.R_lower ho39 (below_size (by repeat (first | (with_reducible first | exact HB.out | apply below_alloc | apply pw_below_drewN | apply below_drew1) | exact HB.out)))); have n1_ := Aside0.mk (below_step (by repeat (first | (with_reducible first | exact HB.out | apply below_alloc | apply pw_below_drewN | apply below_drew1) | exact HB.out)) hb); clear HB; have HO291 := n0_; have HB := n1_; clear n0_ n1_; clear hb ho39; obtain ⟨Ao40, co40, eo40⟩ := Kd.R_slice HO291.out; subst eo40) | ((with_reducible refine gate_callee (f := 17) rfl ?_); refine goesL_ (some 113) rfl rfl Try.func17 (by kernel_rfl) rfl #[.slice Ao40 y289.length co40, .string t283] rfl (by (try simp only [List.map_toArray, List.map_cons, List.map_nil]); first | done | rfl | (simp only [List.length_drop, List.length_take]; rfl)) ?_; (with_reducible refine (closure_Derives.calls _ _ y289 t283 t292 t293 _ ?side1 ?side2 A31.out).mono ?_); (case side1 => repeat (first | exact (Kd.R_reads' HO291.out).2.2 | (with_reducible refine Kd.C_alloc ?_ _) | (with_reducible refine Kd.C_drewN ?_ _) | (with_reducible refine Kd.C_drew ?_))); (case side2 => exact (Kd.R_reads' HO291.out).2.1); rintro e w41 ⟨rfl, hb⟩; refine ⟨_, rfl, ?_⟩; have n0_ := Aside0.mk (Kd.R_below (by (with_reducible repeat (first | apply Kd.R_alloc | apply Kd.R_drewN | apply Kd.R_drew)); exact HO291.out) hb); have n1_ := Aside0.mk (below_step (by repeat (first | (with_reducible first | exact HB.out | apply below_alloc | apply pw_below_drewN | apply below_drew1) | exact HB.out)) hb); clear HO291; clear HB; have HO291 := n0_; have HB := n1_; clear n0_ n1_; (try clear hb); (try clear hb2); (try clear hk); (try clear hi)) | ((with_reducible refine gate_callee (f := 30) rfl ?_); refine goesL_ (some 118) rfl rfl Try.func30 (by kernel_rfl) rfl #[.int .u64 a2] rfl (by (try simp only [List.map_toArray, List.map_cons, List.map_nil]); first | done | rfl | (simp only [List.length_drop, List.length_take]; rfl)) ?_; (with_reducible refine (term_OfAtom.calls kj21 a2 t294 _ A32.out).mono ?_); rintro e w42 ⟨rfl, hb⟩; refine ⟨_, rfl, ?_⟩; have n0_ := Aside0.mk (Kd.R_below (by (with_reducible repeat (first | apply Kd.R_alloc | apply Kd.R_drewN | apply Kd.R_drew)); exact HO291.out) hb); have n1_ := Aside0.mk (below_step (by repeat (first | (with_reducible first | exact HB.out | apply below_alloc | apply pw_below_drewN | apply below_drew1) | exact HB.out)) hb); clear HO291; clear HB; have HO291 := n0_; have HB := n1_; clear n0_ n1_; (try clear hb); (try clear hb2); (try clear hk); (try clear hi)) | ((with_reducible refine gate_dst (N := 119) rfl ?_); (try (refine gate_guard (by rfl) ?_; dsimp only)); refine Kd.R_lit Kd.string _ 9 ?hg (N := 119) ?hd (xs := ([t294] : List ByteArray)) (inner := [.string t294]) (ok := fun _ => True) (okp := fun _ => True) ?hr ?hp (fun _ hk => hk) trivial (Below.refl _ _) (Nat.le_refl _) (by simp) ?_; (case hd => rfl); (case hg => rfl); (case hr => first | (go_simp; done) | (go_simp; rfl)); (case hp => exact (Reps.one (show Kd.M Kd.string _ _ _ t294 [.string t294] from rfl) (Reps.none _ _))); intro v296 w43 ho44 hb hg_ hnew_; clear hg_ hnew_; (first | rw [← Ny295.out] at ho44 | (simp only [Int.reduceToNat] at ho44; rw [← Ny295.out] at ho44)); have n0_ := Aside0.mk (Kd.R_elder' (by (with_reducible repeat (first | apply Kd.R_alloc | apply Kd.R_drewN | apply Kd.R_drew)); exact HO291.out) (Kd.R_base ho44) hb); have n1_ := Aside0.mk (Kd.R_lower (Kd.R_new' ho44 (Kd.R_lt (by (with_reducible repeat (first | apply Kd.R_alloc | apply Kd.R_drewN | apply Kd.R_drew)); exact HO291.out))) (below_size (by repeat (first | (with_reducible first | exact HB.out | apply below_alloc | apply pw_below_drewN | apply below_drew1) | exact HB.out)))); have n2_ := Aside0.mk (below_step (by repeat (first | (with_reducible first | exact HB.out | apply below_alloc | apply pw_below_drewN | apply below_drew1) | exact HB.out)) hb); clear HO291; clear HB; have HO291 := n0_; have HO297 := n1_; have HB := n2_; clear n0_ n1_ n2_; clear hb ho44; obtain ⟨Ao45, co45, eo45⟩ := Kd.R_slice HO297.out; subst eo45) | ((with_reducible refine gate_callee (f := 17) rfl ?_); refine goesL_ (some 121) rfl rfl Try.func17 (by kernel_rfl) rfl #[.slice Ao45 y295.length co45, .string t283] rfl (by (try simp only [List.map_toArray, List.map_cons, List.map_nil]); first | done | rfl | (simp only [List.length_drop, List.length_take]; rfl)) ?_; (with_reducible refine (closure_Derives.calls _ _ y295 t283 true t299 _ ?side1 ?side2 A33.out).mono ?_); (case side1 => repeat (first | exact (Kd.R_reads' HO297.out).2.2 | (with_reducible refine Kd.C_alloc ?_ _) | (with_reducible refine Kd.C_drewN ?_ _) | (with_reducible refine Kd.C_drew ?_))); (case side2 => exact (Kd.R_reads' HO297.out).2.1); rintro e w46 ⟨rfl, hb⟩; refine ⟨_, rfl, ?_⟩; have n0_ := Aside0.mk (Kd.R_below (by (with_reducible repeat (first | apply Kd.R_alloc | apply Kd.R_drewN | apply Kd.R_drew)); exact HO291.out) hb); have n1_ := Aside0.mk (Kd.R_below (by (with_reducible repeat (first | apply Kd.R_alloc | apply Kd.R_drewN | apply Kd.R_drew)); exact HO297.out) hb); have n2_ := Aside0.mk (below_step (by repeat (first | (with_reducible first | exact HB.out | apply below_alloc | apply pw_below_drewN | apply below_drew1) | exact HB.out)) hb); clear HO291; clear HO297; clear HB; have HO291 := n0_; have HO297 := n1_; have HB := n2_; clear n0_ n1_ n2_; (try clear hb); (try clear hb2); (try clear hk); (try clear hi)))
                                go_ret
                                exact ⟨by first | rfl | (simp [errW_none, errW_some] <;> rfl) | (simp [*, errW_none, errW_some] <;> rfl), by repeat (first | (with_reducible first | exact HB.out | apply below_alloc | apply pw_below_drewN | apply below_drew1) | exact HB.out)⟩
                              · replace c36 := Bool.eq_false_iff.mpr c36
                                subst c36
                                have H1 : (some false) = some r := by rw [if_neg (show ¬ (false = true) by decide)] at H; exact H
                                clear H
                                have H := H1
                                clear H1
                                obtain rfl := Option.some.inj H
                                go_wp2_with (first | ((with_reducible refine gate_callee (f := 31) rfl ?_); refine goesL_ (some 105) rfl rfl Try.func31 (by kernel_rfl) rfl #[.string t283] rfl (by (try simp only [List.map_toArray, List.map_cons, List.map_nil]); first | done | rfl | (simp only [List.length_drop, List.length_take]; rfl)) ?_; (with_reducible refine (term_OfPublic.calls t283 t287 t288 _ A30.out).mono ?_); rintro e w47 ⟨rfl, hb⟩; refine ⟨_, rfl, ?_⟩; have n0_ := Aside0.mk (below_step (by repeat (first | (with_reducible first | exact HB.out | apply below_alloc | apply pw_below_drewN | apply below_drew1) | exact HB.out)) hb); clear HB; have HB := n0_; clear n0_; (try clear hb); (try clear hb2); (try clear hk); (try clear hi)) | ((with_reducible refine gate_dst (N := 111) rfl ?_); (try (refine gate_guard (by rfl) ?_; dsimp only)); refine Kd.R_lit Kd.string _ 9 ?hg (N := 111) ?hd (xs := ([t287, t285] : List ByteArray)) (inner := [.string t287, .string t285]) (ok := fun _ => True) (okp := fun _ => True) ?hr ?hp (fun _ hk => hk) trivial (Below.refl _ _) (Nat.le_refl _) (by simp) ?_; (case hd => rfl); (case hg => rfl); (case hr => first | (go_simp; done) | (go_simp; rfl)); (case hp => exact (Reps.one (show Kd.M Kd.string _ _ _ t287 [.string t287] from rfl) (Reps.one (show Kd.M Kd.string _ _ _ t285 [.string t285] from rfl) (Reps.none _ _)))); intro v290 w48 ho49 hb hg_ hnew_; clear hg_ hnew_; (first | rw [← Ny289.out] at ho49 | (simp only [Int.reduceToNat] at ho49; rw [← Ny289.out] at ho49)); have n0_ := Aside0.mk (Kd.R_lower ho49 (below_size (by repeat (first | (with_reducible first | exact HB.out | apply below_alloc | apply pw_below_drewN | apply below_drew1) | exact HB.out)))); have n1_ := Aside0.mk (below_step (by repeat (first | (with_reducible first | exact HB.out | apply below_alloc | apply pw_below_drewN | apply below_drew1) | exact HB.out)) hb); clear HB; have HO291 := n0_; have HB := n1_; clear n0_ n1_; clear hb ho49; obtain ⟨Ao50, co50, eo50⟩ := Kd.R_slice HO291.out; subst eo50) | ((with_reducible refine gate_callee (f := 17) rfl ?_); refine goesL_ (some 113) rfl rfl Try.func17 (by kernel_rfl) rfl #[.slice Ao50 y289.length co50, .string t283] rfl (by (try simp only [List.map_toArray, List.map_cons, List.map_nil]); first | done | rfl | (simp only [List.length_drop, List.length_take]; rfl)) ?_; (with_reducible refine (closure_Derives.calls _ _ y289 t283 t292 t293 _ ?side1 ?side2 A31.out).mono ?_); (case side1 => repeat (first | exact (Kd.R_reads' HO291.out).2.2 | (with_reducible refine Kd.C_alloc ?_ _) | (with_reducible refine Kd.C_drewN ?_ _) | (with_reducible refine Kd.C_drew ?_))); (case side2 => exact (Kd.R_reads' HO291.out).2.1); rintro e w51 ⟨rfl, hb⟩; refine ⟨_, rfl, ?_⟩; have n0_ := Aside0.mk (Kd.R_below (by (with_reducible repeat (first | apply Kd.R_alloc | apply Kd.R_drewN | apply Kd.R_drew)); exact HO291.out) hb); have n1_ := Aside0.mk (below_step (by repeat (first | (with_reducible first | exact HB.out | apply below_alloc | apply pw_below_drewN | apply below_drew1) | exact HB.out)) hb); clear HO291; clear HB; have HO291 := n0_; have HB := n1_; clear n0_ n1_; (try clear hb); (try clear hb2); (try clear hk); (try clear hi)) | ((with_reducible refine gate_callee (f := 30) rfl ?_); refine goesL_ (some 118) rfl rfl Try.func30 (by kernel_rfl) rfl #[.int .u64 a2] rfl (by (try simp only [List.map_toArray, List.map_cons, List.map_nil]); first | done | rfl | (simp only [List.length_drop, List.length_take]; rfl)) ?_; (with_reducible refine (term_OfAtom.calls kj21 a2 t294 _ A32.out).mono ?_); rintro e w52 ⟨rfl, hb⟩; refine ⟨_, rfl, ?_⟩; have n0_ := Aside0.mk (Kd.R_below (by (with_reducible repeat (first | apply Kd.R_alloc | apply Kd.R_drewN | apply Kd.R_drew)); exact HO291.out) hb); have n1_ := Aside0.mk (below_step (by repeat (first | (with_reducible first | exact HB.out | apply below_alloc | apply pw_below_drewN | apply below_drew1) | exact HB.out)) hb); clear HO291; clear HB; have HO291 := n0_; have HB := n1_; clear n0_ n1_; (try clear hb); (try clear hb2); (try clear hk); (try clear hi)) | ((with_reducible refine gate_dst (N := 119) rfl ?_); (try (refine gate_guard (by rfl) ?_; dsimp only)); refine Kd.R_lit Kd.string _ 9 ?hg (N := 119) ?hd (xs := ([t294] : List ByteArray)) (inner := [.string t294]) (ok := fun _ => True) (okp := fun _ => True) ?hr ?hp (fun _ hk => hk) trivial (Below.refl _ _) (Nat.le_refl _) (by simp) ?_; (case hd => rfl); (case hg => rfl); (case hr => first | (go_simp; done) | (go_simp; rfl)); (case hp => exact (Reps.one (show Kd.M Kd.string _ _ _ t294 [.string t294] from rfl) (Reps.none _ _))); intro v296 w53 ho54 hb hg_ hnew_; clear hg_ hnew_; (first | rw [← Ny295.out] at ho54 | (simp only [Int.reduceToNat] at ho54; rw [← Ny295.out] at ho54)); have n0_ := Aside0.mk (Kd.R_elder' (by (with_reducible repeat (first | apply Kd.R_alloc | apply Kd.R_drewN | apply Kd.R_drew)); exact HO291.out) (Kd.R_base ho54) hb); have n1_ := Aside0.mk (Kd.R_lower (Kd.R_new' ho54 (Kd.R_lt (by (with_reducible repeat (first | apply Kd.R_alloc | apply Kd.R_drewN | apply Kd.R_drew)); exact HO291.out))) (below_size (by repeat (first | (with_reducible first | exact HB.out | apply below_alloc | apply pw_below_drewN | apply below_drew1) | exact HB.out)))); have n2_ := Aside0.mk (below_step (by repeat (first | (with_reducible first | exact HB.out | apply below_alloc | apply pw_below_drewN | apply below_drew1) | exact HB.out)) hb); clear HO291; clear HB; have HO291 := n0_; have HO297 := n1_; have HB := n2_; clear n0_ n1_ n2_; clear hb ho54; obtain ⟨Ao55, co55, eo55⟩ := Kd.R_slice HO297.out; subst eo55) | ((with_reducible refine gate_callee (f := 17) rfl ?_); refine goesL_ (some 121) rfl rfl Try.func17 (by kernel_rfl) rfl #[.slice Ao55 y295.length co55, .string t283] rfl (by (try simp only [List.map_toArray, List.map_cons, List.map_nil]); first | done | rfl | (simp only [List.length_drop, List.length_take]; rfl)) ?_; (with_reducible refine (closure_Derives.calls _ _ y295 t283 false t299 _ ?side1 ?side2 A33.out).mono ?_); (case side1 => repeat (first | exact (Kd.R_reads' HO297.out).2.2 | (with_reducible refine Kd.C_alloc ?_ _) | (with_reducible refine Kd.C_drewN ?_ _) | (with_reducible refine Kd.C_drew ?_))); (case side2 => exact (Kd.R_reads' HO297.out).2.1); rintro e w56 ⟨rfl, hb⟩; refine ⟨_, rfl, ?_⟩; have n0_ := Aside0.mk (Kd.R_below (by (with_reducible repeat (first | apply Kd.R_alloc | apply Kd.R_drewN | apply Kd.R_drew)); exact HO291.out) hb); have n1_ := Aside0.mk (Kd.R_below (by (with_reducible repeat (first | apply Kd.R_alloc | apply Kd.R_drewN | apply Kd.R_drew)); exact HO297.out) hb); have n2_ := Aside0.mk (below_step (by repeat (first | (with_reducible first | exact HB.out | apply below_alloc | apply pw_below_drewN | apply below_drew1) | exact HB.out)) hb); clear HO291; clear HO297; clear HB; have HO291 := n0_; have HO297 := n1_; have HB := n2_; clear n0_ n1_ n2_; (try clear hb); (try clear hb2); (try clear hk); (try clear hi)))
                                go_ret
                                exact ⟨by first | rfl | (simp [errW_none, errW_some] <;> rfl) | (simp [*, errW_none, errW_some] <;> rfl), by repeat (first | (with_reducible first | exact HB.out | apply below_alloc | apply pw_below_drewN | apply below_drew1) | exact HB.out)⟩
                            · rw [if_neg c35] at H
                              have c35b0 : (t299 == 0) = false := beq_eq_false_iff_ne.mpr c35
                              have c35b1 : (t299 != 0) = true := bne_iff_ne.mpr c35
                              obtain rfl := Option.some.inj H
                              go_wp2_with (first | ((with_reducible refine gate_callee (f := 31) rfl ?_); refine goesL_ (some 105) rfl rfl Try.func31 (by kernel_rfl) rfl #[.string t283] rfl (by (try simp only [List.map_toArray, List.map_cons, List.map_nil]); first | done | rfl | (simp only [List.length_drop, List.length_take]; rfl)) ?_; (with_reducible refine (term_OfPublic.calls t283 t287 t288 _ A30.out).mono ?_); rintro e w57 ⟨rfl, hb⟩; refine ⟨_, rfl, ?_⟩; have n0_ := Aside0.mk (below_step (by repeat (first | (with_reducible first | exact HB.out | apply below_alloc | apply pw_below_drewN | apply below_drew1) | exact HB.out)) hb); clear HB; have HB := n0_; clear n0_; (try clear hb); (try clear hb2); (try clear hk); (try clear hi)) | ((with_reducible refine gate_dst (N := 111) rfl ?_); (try (refine gate_guard (by rfl) ?_; dsimp only)); refine Kd.R_lit Kd.string _ 9 ?hg (N := 111) ?hd (xs := ([t287, t285] : List ByteArray)) (inner := [.string t287, .string t285]) (ok := fun _ => True) (okp := fun _ => True) ?hr ?hp (fun _ hk => hk) trivial (Below.refl _ _) (Nat.le_refl _) (by simp) ?_; (case hd => rfl); (case hg => rfl); (case hr => first | (go_simp; done) | (go_simp; rfl)); (case hp => exact (Reps.one (show Kd.M Kd.string _ _ _ t287 [.string t287] from rfl) (Reps.one (show Kd.M Kd.string _ _ _ t285 [.string t285] from rfl) (Reps.none _ _)))); intro v290 w58 ho59 hb hg_ hnew_; clear hg_ hnew_; (first | rw [← Ny289.out] at ho59 | (simp only [Int.reduceToNat] at ho59; rw [← Ny289.out] at ho59)); have n0_ := Aside0.mk (Kd.R_lower ho59 (below_size (by repeat (first | (with_reducible first | exact HB.out | apply below_alloc | apply pw_below_drewN | apply below_drew1) | exact HB.out)))); have n1_ := Aside0.mk (below_step (by repeat (first | (with_reducible first | exact HB.out | apply below_alloc | apply pw_below_drewN | apply below_drew1) | exact HB.out)) hb); clear HB; have HO291 := n0_; have HB := n1_; clear n0_ n1_; clear hb ho59; obtain ⟨Ao60, co60, eo60⟩ := Kd.R_slice HO291.out; subst eo60) | ((with_reducible refine gate_callee (f := 17) rfl ?_); refine goesL_ (some 113) rfl rfl Try.func17 (by kernel_rfl) rfl #[.slice Ao60 y289.length co60, .string t283] rfl (by (try simp only [List.map_toArray, List.map_cons, List.map_nil]); first | done | rfl | (simp only [List.length_drop, List.length_take]; rfl)) ?_; (with_reducible refine (closure_Derives.calls _ _ y289 t283 t292 t293 _ ?side1 ?side2 A31.out).mono ?_); (case side1 => repeat (first | exact (Kd.R_reads' HO291.out).2.2 | (with_reducible refine Kd.C_alloc ?_ _) | (with_reducible refine Kd.C_drewN ?_ _) | (with_reducible refine Kd.C_drew ?_))); (case side2 => exact (Kd.R_reads' HO291.out).2.1); rintro e w61 ⟨rfl, hb⟩; refine ⟨_, rfl, ?_⟩; have n0_ := Aside0.mk (Kd.R_below (by (with_reducible repeat (first | apply Kd.R_alloc | apply Kd.R_drewN | apply Kd.R_drew)); exact HO291.out) hb); have n1_ := Aside0.mk (below_step (by repeat (first | (with_reducible first | exact HB.out | apply below_alloc | apply pw_below_drewN | apply below_drew1) | exact HB.out)) hb); clear HO291; clear HB; have HO291 := n0_; have HB := n1_; clear n0_ n1_; (try clear hb); (try clear hb2); (try clear hk); (try clear hi)) | ((with_reducible refine gate_callee (f := 30) rfl ?_); refine goesL_ (some 118) rfl rfl Try.func30 (by kernel_rfl) rfl #[.int .u64 a2] rfl (by (try simp only [List.map_toArray, List.map_cons, List.map_nil]); first | done | rfl | (simp only [List.length_drop, List.length_take]; rfl)) ?_; (with_reducible refine (term_OfAtom.calls kj21 a2 t294 _ A32.out).mono ?_); rintro e w62 ⟨rfl, hb⟩; refine ⟨_, rfl, ?_⟩; have n0_ := Aside0.mk (Kd.R_below (by (with_reducible repeat (first | apply Kd.R_alloc | apply Kd.R_drewN | apply Kd.R_drew)); exact HO291.out) hb); have n1_ := Aside0.mk (below_step (by repeat (first | (with_reducible first | exact HB.out | apply below_alloc | apply pw_below_drewN | apply below_drew1) | exact HB.out)) hb); clear HO291; clear HB; have HO291 := n0_; have HB := n1_; clear n0_ n1_; (try clear hb); (try clear hb2); (try clear hk); (try clear hi)) | ((with_reducible refine gate_dst (N := 119) rfl ?_); (try (refine gate_guard (by rfl) ?_; dsimp only)); refine Kd.R_lit Kd.string _ 9 ?hg (N := 119) ?hd (xs := ([t294] : List ByteArray)) (inner := [.string t294]) (ok := fun _ => True) (okp := fun _ => True) ?hr ?hp (fun _ hk => hk) trivial (Below.refl _ _) (Nat.le_refl _) (by simp) ?_; (case hd => rfl); (case hg => rfl); (case hr => first | (go_simp; done) | (go_simp; rfl)); (case hp => exact (Reps.one (show Kd.M Kd.string _ _ _ t294 [.string t294] from rfl) (Reps.none _ _))); intro v296 w63 ho64 hb hg_ hnew_; clear hg_ hnew_; (first | rw [← Ny295.out] at ho64 | (simp only [Int.reduceToNat] at ho64; rw [← Ny295.out] at ho64)); have n0_ := Aside0.mk (Kd.R_elder' (by (with_reducible repeat (first | apply Kd.R_alloc | apply Kd.R_drewN | apply Kd.R_drew)); exact HO291.out) (Kd.R_base ho64) hb); have n1_ := Aside0.mk (Kd.R_lower (Kd.R_new' ho64 (Kd.R_lt (by (with_reducible repeat (first | apply Kd.R_alloc | apply Kd.R_drewN | apply Kd.R_drew)); exact HO291.out))) (below_size (by repeat (first | (with_reducible first | exact HB.out | apply below_alloc | apply pw_below_drewN | apply below_drew1) | exact HB.out)))); have n2_ := Aside0.mk (below_step (by repeat (first | (with_reducible first | exact HB.out | apply below_alloc | apply pw_below_drewN | apply below_drew1) | exact HB.out)) hb); clear HO291; clear HB; have HO291 := n0_; have HO297 := n1_; have HB := n2_; clear n0_ n1_ n2_; clear hb ho64; obtain ⟨Ao65, co65, eo65⟩ := Kd.R_slice HO297.out; subst eo65) | ((with_reducible refine gate_callee (f := 17) rfl ?_); refine goesL_ (some 121) rfl rfl Try.func17 (by kernel_rfl) rfl #[.slice Ao65 y295.length co65, .string t283] rfl (by (try simp only [List.map_toArray, List.map_cons, List.map_nil]); first | done | rfl | (simp only [List.length_drop, List.length_take]; rfl)) ?_; (with_reducible refine (closure_Derives.calls _ _ y295 t283 t298 t299 _ ?side1 ?side2 A33.out).mono ?_); (case side1 => repeat (first | exact (Kd.R_reads' HO297.out).2.2 | (with_reducible refine Kd.C_alloc ?_ _) | (with_reducible refine Kd.C_drewN ?_ _) | (with_reducible refine Kd.C_drew ?_))); (case side2 => exact (Kd.R_reads' HO297.out).2.1); rintro e w66 ⟨rfl, hb⟩; refine ⟨_, rfl, ?_⟩; have n0_ := Aside0.mk (Kd.R_below (by (with_reducible repeat (first | apply Kd.R_alloc | apply Kd.R_drewN | apply Kd.R_drew)); exact HO291.out) hb); have n1_ := Aside0.mk (Kd.R_below (by (with_reducible repeat (first | apply Kd.R_alloc | apply Kd.R_drewN | apply Kd.R_drew)); exact HO297.out) hb); have n2_ := Aside0.mk (below_step (by repeat (first | (with_reducible first | exact HB.out | apply below_alloc | apply pw_below_drewN | apply below_drew1) | exact HB.out)) hb); clear HO291; clear HO297; clear HB; have HO291 := n0_; have HO297 := n1_; have HB := n2_; clear n0_ n1_ n2_; (try clear hb); (try clear hb2); (try clear hk); (try clear hi)))
                              go_ret
                              exact ⟨by first | rfl | (simp [errW_none, errW_some] <;> rfl) | (simp [*, errW_none, errW_some] <;> rfl), by repeat (first | (with_reducible first | exact HB.out | apply below_alloc | apply pw_below_drewN | apply below_drew1) | exact HB.out)⟩
                          · rw [if_neg c34] at H
                            have c34b0 : (t293 == 0) = false := beq_eq_false_iff_ne.mpr c34
                            have c34b1 : (t293 != 0) = true := bne_iff_ne.mpr c34
                            obtain rfl := Option.some.inj H
                            go_wp2_with (first | ((with_reducible refine gate_callee (f := 31) rfl ?_); refine goesL_ (some 105) rfl rfl Try.func31 (by kernel_rfl) rfl #[.string t283] rfl (by (try simp only [List.map_toArray, List.map_cons, List.map_nil]); first | done | rfl | (simp only [List.length_drop, List.length_take]; rfl)) ?_; (with_reducible refine (term_OfPublic.calls t283 t287 t288 _ A30.out).mono ?_); rintro e w67 ⟨rfl, hb⟩; refine ⟨_, rfl, ?_⟩; have n0_ := Aside0.mk (below_step (by repeat (first | (with_reducible first | exact HB.out | apply below_alloc | apply pw_below_drewN | apply below_drew1) | exact HB.out)) hb); clear HB; have HB := n0_; clear n0_; (try clear hb); (try clear hb2); (try clear hk); (try clear hi)) | ((with_reducible refine gate_dst (N := 111) rfl ?_); (try (refine gate_guard (by rfl) ?_; dsimp only)); refine Kd.R_lit Kd.string _ 9 ?hg (N := 111) ?hd (xs := ([t287, t285] : List ByteArray)) (inner := [.string t287, .string t285]) (ok := fun _ => True) (okp := fun _ => True) ?hr ?hp (fun _ hk => hk) trivial (Below.refl _ _) (Nat.le_refl _) (by simp) ?_; (case hd => rfl); (case hg => rfl); (case hr => first | (go_simp; done) | (go_simp; rfl)); (case hp => exact (Reps.one (show Kd.M Kd.string _ _ _ t287 [.string t287] from rfl) (Reps.one (show Kd.M Kd.string _ _ _ t285 [.string t285] from rfl) (Reps.none _ _)))); intro v290 w68 ho69 hb hg_ hnew_; clear hg_ hnew_; (first | rw [← Ny289.out] at ho69 | (simp only [Int.reduceToNat] at ho69; rw [← Ny289.out] at ho69)); have n0_ := Aside0.mk (Kd.R_lower ho69 (below_size (by repeat (first | (with_reducible first | exact HB.out | apply below_alloc | apply pw_below_drewN | apply below_drew1) | exact HB.out)))); have n1_ := Aside0.mk (below_step (by repeat (first | (with_reducible first | exact HB.out | apply below_alloc | apply pw_below_drewN | apply below_drew1) | exact HB.out)) hb); clear HB; have HO291 := n0_; have HB := n1_; clear n0_ n1_; clear hb ho69; obtain ⟨Ao70, co70, eo70⟩ := Kd.R_slice HO291.out; subst eo70) | ((with_reducible refine gate_callee (f := 17) rfl ?_); refine goesL_ (some 113) rfl rfl Try.func17 (by kernel_rfl) rfl #[.slice Ao70 y289.length co70, .string t283] rfl (by (try simp only [List.map_toArray, List.map_cons, List.map_nil]); first | done | rfl | (simp only [List.length_drop, List.length_take]; rfl)) ?_; (with_reducible refine (closure_Derives.calls _ _ y289 t283 t292 t293 _ ?side1 ?side2 A31.out).mono ?_); (case side1 => repeat (first | exact (Kd.R_reads' HO291.out).2.2 | (with_reducible refine Kd.C_alloc ?_ _) | (with_reducible refine Kd.C_drewN ?_ _) | (with_reducible refine Kd.C_drew ?_))); (case side2 => exact (Kd.R_reads' HO291.out).2.1); rintro e w71 ⟨rfl, hb⟩; refine ⟨_, rfl, ?_⟩; have n0_ := Aside0.mk (Kd.R_below (by (with_reducible repeat (first | apply Kd.R_alloc | apply Kd.R_drewN | apply Kd.R_drew)); exact HO291.out) hb); have n1_ := Aside0.mk (below_step (by repeat (first | (with_reducible first | exact HB.out | apply below_alloc | apply pw_below_drewN | apply below_drew1) | exact HB.out)) hb); clear HO291; clear HB; have HO291 := n0_; have HB := n1_; clear n0_ n1_; (try clear hb); (try clear hb2); (try clear hk); (try clear hi)) | ((with_reducible refine gate_callee (f := 30) rfl ?_); refine goesL_ (some 118) rfl rfl Try.func30 (by kernel_rfl) rfl #[.int .u64 a2] rfl (by (try simp only [List.map_toArray, List.map_cons, List.map_nil]); first | done | rfl | (simp only [List.length_drop, List.length_take]; rfl)) ?_; (with_reducible refine (term_OfAtom.calls kj21 a2 t294 _ A32.out).mono ?_); rintro e w72 ⟨rfl, hb⟩; refine ⟨_, rfl, ?_⟩; have n0_ := Aside0.mk (Kd.R_below (by (with_reducible repeat (first | apply Kd.R_alloc | apply Kd.R_drewN | apply Kd.R_drew)); exact HO291.out) hb); have n1_ := Aside0.mk (below_step (by repeat (first | (with_reducible first | exact HB.out | apply below_alloc | apply pw_below_drewN | apply below_drew1) | exact HB.out)) hb); clear HO291; clear HB; have HO291 := n0_; have HB := n1_; clear n0_ n1_; (try clear hb); (try clear hb2); (try clear hk); (try clear hi)) | ((with_reducible refine gate_dst (N := 119) rfl ?_); (try (refine gate_guard (by rfl) ?_; dsimp only)); refine Kd.R_lit Kd.string _ 9 ?hg (N := 119) ?hd (xs := ([t294] : List ByteArray)) (inner := [.string t294]) (ok := fun _ => True) (okp := fun _ => True) ?hr ?hp (fun _ hk => hk) trivial (Below.refl _ _) (Nat.le_refl _) (by simp) ?_; (case hd => rfl); (case hg => rfl); (case hr => first | (go_simp; done) | (go_simp; rfl)); (case hp => exact (Reps.one (show Kd.M Kd.string _ _ _ t294 [.string t294] from rfl) (Reps.none _ _))); intro v296 w73 ho74 hb hg_ hnew_; clear hg_ hnew_; (first | rw [← Ny295.out] at ho74 | (simp only [Int.reduceToNat] at ho74; rw [← Ny295.out] at ho74)); have n0_ := Aside0.mk (Kd.R_elder' (by (with_reducible repeat (first | apply Kd.R_alloc | apply Kd.R_drewN | apply Kd.R_drew)); exact HO291.out) (Kd.R_base ho74) hb); have n1_ := Aside0.mk (Kd.R_lower (Kd.R_new' ho74 (Kd.R_lt (by (with_reducible repeat (first | apply Kd.R_alloc | apply Kd.R_drewN | apply Kd.R_drew)); exact HO291.out))) (below_size (by repeat (first | (with_reducible first | exact HB.out | apply below_alloc | apply pw_below_drewN | apply below_drew1) | exact HB.out)))); have n2_ := Aside0.mk (below_step (by repeat (first | (with_reducible first | exact HB.out | apply below_alloc | apply pw_below_drewN | apply below_drew1) | exact HB.out)) hb); clear HO291; clear HB; have HO291 := n0_; have HO297 := n1_; have HB := n2_; clear n0_ n1_ n2_; clear hb ho74; obtain ⟨Ao75, co75, eo75⟩ := Kd.R_slice HO297.out; subst eo75) | ((with_reducible refine gate_callee (f := 17) rfl ?_); refine goesL_ (some 121) rfl rfl Try.func17 (by kernel_rfl) rfl #[.slice Ao75 y295.length co75, .string t283] rfl (by (try simp only [List.map_toArray, List.map_cons, List.map_nil]); first | done | rfl | (simp only [List.length_drop, List.length_take]; rfl)) ?_; (with_reducible refine (closure_Derives.calls _ _ y295 t283 t298 t299 _ ?side1 ?side2 A33.out).mono ?_); (case side1 => repeat (first | exact (Kd.R_reads' HO297.out).2.2 | (with_reducible refine Kd.C_alloc ?_ _) | (with_reducible refine Kd.C_drewN ?_ _) | (with_reducible refine Kd.C_drew ?_))); (case side2 => exact (Kd.R_reads' HO297.out).2.1); rintro e w76 ⟨rfl, hb⟩; refine ⟨_, rfl, ?_⟩; have n0_ := Aside0.mk (Kd.R_below (by (with_reducible repeat (first | apply Kd.R_alloc | apply Kd.R_drewN | apply Kd.R_drew)); exact HO291.out) hb); have n1_ := Aside0.mk (Kd.R_below (by (with_reducible repeat (first | apply Kd.R_alloc | apply Kd.R_drewN | apply Kd.R_drew)); exact HO297.out) hb); have n2_ := Aside0.mk (below_step (by repeat (first | (with_reducible first | exact HB.out | apply below_alloc | apply pw_below_drewN | apply below_drew1) | exact HB.out)) hb); clear HO291; clear HO297; clear HB; have HO291 := n0_; have HO297 := n1_; have HB := n2_; clear n0_ n1_ n2_; (try clear hb); (try clear hb2); (try clear hk); (try clear hi)))
                            go_ret
                            exact ⟨by first | rfl | (simp [errW_none, errW_some] <;> rfl) | (simp [*, errW_none, errW_some] <;> rfl), by repeat (first | (with_reducible first | exact HB.out | apply below_alloc | apply pw_below_drewN | apply below_drew1) | exact HB.out)⟩

/-- THE ONE PURE STATEMENT of letterlocklaw5_DrawHides: yours. -/
def letterlocklaw5_DrawHides.Pure : Prop := ∀ (a0 : ByteArray) (a1 : ByteArray) (a2 : Int) (a3 : ByteArray) (a4 : ByteArray) (a5 : Int), a0.size ≤ 140737488351232 → a1.size ≤ 140737488351232 → (Lit.int .u64 a2).wf = true → a3.size ≤ 140737488351232 → a4.size ≤ 140737488351232 → (Lit.int .u64 a5).wf = true → ∃ k, letterlocklaw5_DrawHides.f k a0 a1 a2 a3 a4 a5 = some true
theorem letterlocklaw5_DrawHides.walk (P : letterlocklaw5_DrawHides.Pure) (a0 : ByteArray) (a1 : ByteArray) (a2 : Int) (a3 : ByteArray) (a4 : ByteArray) (a5 : Int) (w : World) (w0 : a0.size ≤ 140737488351232) (w1 : a1.size ≤ 140737488351232) (w2 : (Lit.int .u64 a2).wf = true) (w3 : a3.size ≤ 140737488351232) (w4 : a4.size ≤ 140737488351232) (w5 : (Lit.int .u64 a5).wf = true) :
    Calls Try.prog 10 #[.string a0, .string a1, .int .u64 a2, .string a3, .string a4, .int .u64 a5] w fun e w' => e = .returned (.bool true) ∧ Below w.heap.size w w' := by
  obtain ⟨k, h⟩ := P a0 a1 a2 a3 a4 a5 w0 w1 w2 w3 w4 w5
  refine (letterlocklaw5_DrawHides.calls k a0 a1 a2 a3 a4 a5 true w h).mono ?_
  rintro e w' ⟨rfl, hd⟩
  exact ⟨rfl, hd⟩

/-! ### letterlocklaw6_RegressHides: function 11 -/
def letterlocklaw6_RegressHides.j0 : Nat → Int → Int → Int → ByteArray → ByteArray → ByteArray → Bool → Option (Bool)
  | 0, _, _, _, _, _, _, _ => none
  | k + 1, x0, x10, x11, x12, x14, x16, x65 => if x65 = true then (some false) else ((term_OfAtom.f k (IntKind.u64.wrap (x0 + 1))).bind fun t311 => ((some (([x12, t311] : List ByteArray) : List ByteArray)).bind fun y312 => ((closure_Derives.f y312 x14).bind fun bt315 => ((closure_Derives.f y312 x16).bind fun bt317 => ((regress_Key.f k x12).bind fun bt319 => ((closure_Derives.f (([bt319.1] : List ByteArray)) x12).bind fun bt324 => (if bt315.2 = 0 then (if bt317.2 = 0 then (if bt324.2 = 0 then (if (bt315.1 == (decide (x11 ≤ x10))) = true then (if (bt317.1 == (decide (x11 ≤ x10))) = true then (some (!bt324.1)) else (some false)) else (some false)) else (some false)) else (some false)) else (some false))))))))
def letterlocklaw6_RegressHides.f (k : Nat) (a0 : Int) (a1 : Int) (a2 : Int) : Option (Bool) := (letterlocklaw6_shown.f k).bind fun t300 => (if t300 = true then ((draw_Secret.f k (⟨#[114, 111, 111, 116]⟩ : ByteArray) (⟨#[120]⟩ : ByteArray) a0).bind fun bt301 => ((letterlocklaw6_pick.f a1 8).bind fun t303 => ((letterlocklaw6_pick.f a2 8).bind fun t304 => ((regress_State.f k bt301.1 t303).bind fun bt305 => ((regress_State.f k bt301.1 t304).bind fun bt307 => ((regress_Key.f k bt307.1).bind fun bt309 => (if bt305.2 = 0 then (if bt307.2 = 0 then (letterlocklaw6_RegressHides.j0 k a0 t303 t304 bt305.1 bt307.1 bt309.1 (bt309.2 != 0)) else (letterlocklaw6_RegressHides.j0 k a0 t303 t304 bt305.1 bt307.1 bt309.1 true)) else (letterlocklaw6_RegressHides.j0 k a0 t303 t304 bt305.1 bt307.1 bt309.1 true)))))))) else (some false))
theorem letterlocklaw6_RegressHides.mono_l : ∀ k, (∀ y0 y1 y2 y3 y4 y5 y6, LeO (letterlocklaw6_RegressHides.j0 k y0 y1 y2 y3 y4 y5 y6) (letterlocklaw6_RegressHides.j0 (k + 1) y0 y1 y2 y3 y4 y5 y6))
  | 0 => fun _ _ _ _ _ _ _ r h => by simp [letterlocklaw6_RegressHides.j0] at h
  | k + 1 => by
    have ih0 := letterlocklaw6_RegressHides.mono_l k
    · intro y0 y1 y2 y3 y4 y5 y6
      unfold letterlocklaw6_RegressHides.j0
      repeat' first
      | (with_reducible exact ih0 _ _ _ _ _ _ _)
      | (with_reducible exact draw_Secret.mono _ _ _ _)
      | (with_reducible exact letterlocklaw6_shown.mono _)
      | (with_reducible exact regress_Key.mono _ _)
      | (with_reducible exact regress_State.mono _ _ _)
      | (with_reducible exact term_OfAtom.mono _ _)
      | (with_reducible exact LeO.refl _)
      | (with_reducible exact LeO.none _)
      | (with_reducible refine LeO.ite ?_ ?_)
      | (with_reducible refine LeO.bind ?_ (fun _ => ?_))
      | exact ih0 _ _ _ _ _ _ _
      | exact draw_Secret.mono _ _ _ _
      | exact letterlocklaw6_shown.mono _
      | exact regress_Key.mono _ _
      | exact regress_State.mono _ _ _
      | exact term_OfAtom.mono _ _
      | exact LeO.none _
      | refine LeO.ite ?_ ?_
      | refine LeO.bind ?_ (fun _ => ?_)
theorem letterlocklaw6_RegressHides.mono : ∀ a0 a1 a2 k, LeO (letterlocklaw6_RegressHides.f k a0 a1 a2) (letterlocklaw6_RegressHides.f (k + 1) a0 a1 a2) := by
  intro a0 a1 a2 k
  have ih0 := letterlocklaw6_RegressHides.mono_l k
  unfold letterlocklaw6_RegressHides.f
  repeat' first
      | (with_reducible exact ih0 _ _ _ _ _ _ _)
      | (with_reducible exact draw_Secret.mono _ _ _ _)
      | (with_reducible exact letterlocklaw6_shown.mono _)
      | (with_reducible exact regress_Key.mono _ _)
      | (with_reducible exact regress_State.mono _ _ _)
      | (with_reducible exact term_OfAtom.mono _ _)
      | (with_reducible exact LeO.refl _)
      | (with_reducible exact LeO.none _)
      | (with_reducible refine LeO.ite ?_ ?_)
      | (with_reducible refine LeO.bind ?_ (fun _ => ?_))
      | exact ih0 _ _ _ _ _ _ _
      | exact draw_Secret.mono _ _ _ _
      | exact letterlocklaw6_shown.mono _
      | exact regress_Key.mono _ _
      | exact regress_State.mono _ _ _
      | exact term_OfAtom.mono _ _
      | exact LeO.none _
      | refine LeO.ite ?_ ?_
      | refine LeO.bind ?_ (fun _ => ?_)
set_option maxHeartbeats 8000000 in
set_option maxRecDepth 100000 in
theorem letterlocklaw6_RegressHides.calls (k : Nat) (a0 : Int) (a1 : Int) (a2 : Int) (r : Bool) (w : World) (h : letterlocklaw6_RegressHides.f k a0 a1 a2 = some r) :
    Calls Try.prog 11 #[.int .u64 a0, .int .i64 a1, .int .i64 a2] w fun e w' => e = .returned (.bool r) ∧ Below w.heap.size w w' := by
  have HB := Aside0.mk (Below.refl w.heap.size w)
  have H : ((letterlocklaw6_shown.f k).bind fun t300 => (if t300 = true then ((draw_Secret.f k (⟨#[114, 111, 111, 116]⟩ : ByteArray) (⟨#[120]⟩ : ByteArray) a0).bind fun bt301 => ((letterlocklaw6_pick.f a1 8).bind fun t303 => ((letterlocklaw6_pick.f a2 8).bind fun t304 => ((regress_State.f k bt301.1 t303).bind fun bt305 => ((regress_State.f k bt301.1 t304).bind fun bt307 => ((regress_Key.f k bt307.1).bind fun bt309 => (if bt305.2 = 0 then (if bt307.2 = 0 then (letterlocklaw6_RegressHides.j0 k a0 t303 t304 bt305.1 bt307.1 bt309.1 (bt309.2 != 0)) else (letterlocklaw6_RegressHides.j0 k a0 t303 t304 bt305.1 bt307.1 bt309.1 true)) else (letterlocklaw6_RegressHides.j0 k a0 t303 t304 bt305.1 bt307.1 bt309.1 true)))))))) else (some false))) = some r := h
  clear h
  replace H := Option.bind_eq_some_iff.mp H
  obtain ⟨t300, A40, H⟩ := H
  replace H : (if t300 = true then ((draw_Secret.f k (⟨#[114, 111, 111, 116]⟩ : ByteArray) (⟨#[120]⟩ : ByteArray) a0).bind fun bt301 => ((letterlocklaw6_pick.f a1 8).bind fun t303 => ((letterlocklaw6_pick.f a2 8).bind fun t304 => ((regress_State.f k bt301.1 t303).bind fun bt305 => ((regress_State.f k bt301.1 t304).bind fun bt307 => ((regress_Key.f k bt307.1).bind fun bt309 => (if bt305.2 = 0 then (if bt307.2 = 0 then (letterlocklaw6_RegressHides.j0 k a0 t303 t304 bt305.1 bt307.1 bt309.1 (bt309.2 != 0)) else (letterlocklaw6_RegressHides.j0 k a0 t303 t304 bt305.1 bt307.1 bt309.1 true)) else (letterlocklaw6_RegressHides.j0 k a0 t303 t304 bt305.1 bt307.1 bt309.1 true)))))))) else (some false)) = some r := H
  have A4 := Aside0.mk A40
  clear A40
  by_cases c5 : t300 = true
  · subst c5
    have H1 : ((draw_Secret.f k (⟨#[114, 111, 111, 116]⟩ : ByteArray) (⟨#[120]⟩ : ByteArray) a0).bind fun bt301 => ((letterlocklaw6_pick.f a1 8).bind fun t303 => ((letterlocklaw6_pick.f a2 8).bind fun t304 => ((regress_State.f k bt301.1 t303).bind fun bt305 => ((regress_State.f k bt301.1 t304).bind fun bt307 => ((regress_Key.f k bt307.1).bind fun bt309 => (if bt305.2 = 0 then (if bt307.2 = 0 then (letterlocklaw6_RegressHides.j0 k a0 t303 t304 bt305.1 bt307.1 bt309.1 (bt309.2 != 0)) else (letterlocklaw6_RegressHides.j0 k a0 t303 t304 bt305.1 bt307.1 bt309.1 true)) else (letterlocklaw6_RegressHides.j0 k a0 t303 t304 bt305.1 bt307.1 bt309.1 true)))))))) = some r := by rw [if_pos rfl] at H; exact H
    clear H
    have H := H1
    clear H1
    replace H := Option.bind_eq_some_iff.mp H
    obtain ⟨⟨t301, t302⟩, A60, H⟩ := H
    replace H : ((letterlocklaw6_pick.f a1 8).bind fun t303 => ((letterlocklaw6_pick.f a2 8).bind fun t304 => ((regress_State.f k t301 t303).bind fun bt305 => ((regress_State.f k t301 t304).bind fun bt307 => ((regress_Key.f k bt307.1).bind fun bt309 => (if bt305.2 = 0 then (if bt307.2 = 0 then (letterlocklaw6_RegressHides.j0 k a0 t303 t304 bt305.1 bt307.1 bt309.1 (bt309.2 != 0)) else (letterlocklaw6_RegressHides.j0 k a0 t303 t304 bt305.1 bt307.1 bt309.1 true)) else (letterlocklaw6_RegressHides.j0 k a0 t303 t304 bt305.1 bt307.1 bt309.1 true))))))) = some r := H
    have A6 := Aside0.mk A60
    clear A60
    replace H := Option.bind_eq_some_iff.mp H
    obtain ⟨t303, A70, H⟩ := H
    replace H : ((letterlocklaw6_pick.f a2 8).bind fun t304 => ((regress_State.f k t301 t303).bind fun bt305 => ((regress_State.f k t301 t304).bind fun bt307 => ((regress_Key.f k bt307.1).bind fun bt309 => (if bt305.2 = 0 then (if bt307.2 = 0 then (letterlocklaw6_RegressHides.j0 k a0 t303 t304 bt305.1 bt307.1 bt309.1 (bt309.2 != 0)) else (letterlocklaw6_RegressHides.j0 k a0 t303 t304 bt305.1 bt307.1 bt309.1 true)) else (letterlocklaw6_RegressHides.j0 k a0 t303 t304 bt305.1 bt307.1 bt309.1 true)))))) = some r := H
    have A7 := Aside0.mk A70
    clear A70
    replace H := Option.bind_eq_some_iff.mp H
    obtain ⟨t304, A80, H⟩ := H
    replace H : ((regress_State.f k t301 t303).bind fun bt305 => ((regress_State.f k t301 t304).bind fun bt307 => ((regress_Key.f k bt307.1).bind fun bt309 => (if bt305.2 = 0 then (if bt307.2 = 0 then (letterlocklaw6_RegressHides.j0 k a0 t303 t304 bt305.1 bt307.1 bt309.1 (bt309.2 != 0)) else (letterlocklaw6_RegressHides.j0 k a0 t303 t304 bt305.1 bt307.1 bt309.1 true)) else (letterlocklaw6_RegressHides.j0 k a0 t303 t304 bt305.1 bt307.1 bt309.1 true))))) = some r := H
    have A8 := Aside0.mk A80
    clear A80
    replace H := Option.bind_eq_some_iff.mp H
    obtain ⟨⟨t305, t306⟩, A90, H⟩ := H
    replace H : ((regress_State.f k t301 t304).bind fun bt307 => ((regress_Key.f k bt307.1).bind fun bt309 => (if t306 = 0 then (if bt307.2 = 0 then (letterlocklaw6_RegressHides.j0 k a0 t303 t304 t305 bt307.1 bt309.1 (bt309.2 != 0)) else (letterlocklaw6_RegressHides.j0 k a0 t303 t304 t305 bt307.1 bt309.1 true)) else (letterlocklaw6_RegressHides.j0 k a0 t303 t304 t305 bt307.1 bt309.1 true)))) = some r := H
    have A9 := Aside0.mk A90
    clear A90
    replace H := Option.bind_eq_some_iff.mp H
    obtain ⟨⟨t307, t308⟩, A100, H⟩ := H
    replace H : ((regress_Key.f k t307).bind fun bt309 => (if t306 = 0 then (if t308 = 0 then (letterlocklaw6_RegressHides.j0 k a0 t303 t304 t305 t307 bt309.1 (bt309.2 != 0)) else (letterlocklaw6_RegressHides.j0 k a0 t303 t304 t305 t307 bt309.1 true)) else (letterlocklaw6_RegressHides.j0 k a0 t303 t304 t305 t307 bt309.1 true))) = some r := H
    have A10 := Aside0.mk A100
    clear A100
    replace H := Option.bind_eq_some_iff.mp H
    obtain ⟨⟨t309, t310⟩, A110, H⟩ := H
    replace H : (if t306 = 0 then (if t308 = 0 then (letterlocklaw6_RegressHides.j0 k a0 t303 t304 t305 t307 t309 (t310 != 0)) else (letterlocklaw6_RegressHides.j0 k a0 t303 t304 t305 t307 t309 true)) else (letterlocklaw6_RegressHides.j0 k a0 t303 t304 t305 t307 t309 true)) = some r := H
    have A11 := Aside0.mk A110
    clear A110
    have HC12 := Aside0.mk H
    clear H
    go_enter Try.func11, Try.ntmps11
    go_upto_region 10 with (first | ((with_reducible refine gate_callee (f := 35) rfl ?_); refine goesL_ (some 27) rfl rfl Try.func35 (by kernel_rfl) rfl #[] rfl (by (try simp only [List.map_toArray, List.map_cons, List.map_nil]); first | done | rfl | (simp only [List.length_drop, List.length_take]; rfl)) ?_; (with_reducible refine (letterlocklaw6_shown.calls k  true _ A4.out).mono ?_); rintro e w13 ⟨rfl, hb⟩; refine ⟨_, rfl, ?_⟩; have n0_ := Aside0.mk (below_step (by repeat (first | (with_reducible first | exact HB.out | apply below_alloc | apply pw_below_drewN | apply below_drew1) | exact HB.out)) hb); clear HB; have HB := n0_; clear n0_; (try clear hb); (try clear hb2); (try clear hk); (try clear hi)) | ((with_reducible refine gate_callee (f := 34) rfl ?_); refine goesL_ (some 32) rfl rfl Try.func34 (by kernel_rfl) rfl #[.string (⟨#[114, 111, 111, 116]⟩ : ByteArray), .string (⟨#[120]⟩ : ByteArray), .int .u64 a0] rfl (by (try simp only [List.map_toArray, List.map_cons, List.map_nil]); first | done | rfl | (simp only [List.length_drop, List.length_take]; rfl)) ?_; (with_reducible refine (draw_Secret.calls k (⟨#[114, 111, 111, 116]⟩ : ByteArray) (⟨#[120]⟩ : ByteArray) a0 t301 t302 _ A6.out).mono ?_); rintro e w14 ⟨rfl, hb⟩; refine ⟨_, rfl, ?_⟩; have n0_ := Aside0.mk (below_step (by repeat (first | (with_reducible first | exact HB.out | apply below_alloc | apply pw_below_drewN | apply below_drew1) | exact HB.out)) hb); clear HB; have HB := n0_; clear n0_; (try clear hb); (try clear hb2); (try clear hk); (try clear hi)) | ((with_reducible refine gate_callee (f := 36) rfl ?_); refine goesL_ (some 36) rfl rfl Try.func36 (by kernel_rfl) rfl #[.int .i64 a1, .int .i64 8] rfl (by (try simp only [List.map_toArray, List.map_cons, List.map_nil]); first | done | rfl | (simp only [List.length_drop, List.length_take]; rfl)) ?_; (with_reducible refine (letterlocklaw6_pick.calls a1 8 t303 _ A7.out).mono ?_); rintro e w' ⟨rfl, ⟨nd, rfl⟩⟩; refine ⟨_, rfl, ?_⟩) | ((with_reducible refine gate_callee (f := 36) rfl ?_); refine goesL_ (some 38) rfl rfl Try.func36 (by kernel_rfl) rfl #[.int .i64 a2, .int .i64 8] rfl (by (try simp only [List.map_toArray, List.map_cons, List.map_nil]); first | done | rfl | (simp only [List.length_drop, List.length_take]; rfl)) ?_; (with_reducible refine (letterlocklaw6_pick.calls a2 8 t304 _ A8.out).mono ?_); rintro e w' ⟨rfl, ⟨nd, rfl⟩⟩; refine ⟨_, rfl, ?_⟩) | ((with_reducible refine gate_callee (f := 37) rfl ?_); refine goesL_ (some 42) rfl rfl Try.func37 (by kernel_rfl) rfl #[.string t301, .int .i64 t303] rfl (by (try simp only [List.map_toArray, List.map_cons, List.map_nil]); first | done | rfl | (simp only [List.length_drop, List.length_take]; rfl)) ?_; (with_reducible refine (regress_State.calls k t301 t303 t305 t306 _ A9.out).mono ?_); rintro e w15 ⟨rfl, hb⟩; refine ⟨_, rfl, ?_⟩; have n0_ := Aside0.mk (below_step (by repeat (first | (with_reducible first | exact HB.out | apply below_alloc | apply pw_below_drewN | apply below_drew1) | exact HB.out)) hb); clear HB; have HB := n0_; clear n0_; (try clear hb); (try clear hb2); (try clear hk); (try clear hi)) | ((with_reducible refine gate_callee (f := 37) rfl ?_); refine goesL_ (some 48) rfl rfl Try.func37 (by kernel_rfl) rfl #[.string t301, .int .i64 t304] rfl (by (try simp only [List.map_toArray, List.map_cons, List.map_nil]); first | done | rfl | (simp only [List.length_drop, List.length_take]; rfl)) ?_; (with_reducible refine (regress_State.calls k t301 t304 t307 t308 _ A10.out).mono ?_); rintro e w16 ⟨rfl, hb⟩; refine ⟨_, rfl, ?_⟩; have n0_ := Aside0.mk (below_step (by repeat (first | (with_reducible first | exact HB.out | apply below_alloc | apply pw_below_drewN | apply below_drew1) | exact HB.out)) hb); clear HB; have HB := n0_; clear n0_; (try clear hb); (try clear hb2); (try clear hk); (try clear hi)) | ((with_reducible refine gate_callee (f := 38) rfl ?_); refine goesL_ (some 53) rfl rfl Try.func38 (by kernel_rfl) rfl #[.string t307] rfl (by (try simp only [List.map_toArray, List.map_cons, List.map_nil]); first | done | rfl | (simp only [List.length_drop, List.length_take]; rfl)) ?_; (with_reducible refine (regress_Key.calls k t307 t309 t310 _ A11.out).mono ?_); rintro e w17 ⟨rfl, hb⟩; refine ⟨_, rfl, ?_⟩; have n0_ := Aside0.mk (below_step (by repeat (first | (with_reducible first | exact HB.out | apply below_alloc | apply pw_below_drewN | apply below_drew1) | exact HB.out)) hb); clear HB; have HB := n0_; clear n0_; (try clear hb); (try clear hb2); (try clear hk); (try clear hi)))
    (try simp only [Act.put, List.setIfInBounds_toArray, List.set_cons_zero, List.set_cons_succ])
    go_cut [65] (fun v65 wc => ∃ (kq : Nat) (x65_11 : Bool), v65 = .bool x65_11 ∧ Aside0 (letterlocklaw6_RegressHides.j0 kq a0 t303 t304 t305 t307 t309 x65_11 = some r) ∧ Aside0 (kq ≤ k) ∧ Aside0 (Below w.heap.size w wc))
    case first =>
      have H := HC12.out
      clear HC12
      by_cases c18 : t306 = 0
      · rw [if_pos c18] at H
        have c18b0 : (t306 == 0) = true := beq_iff_eq.mpr c18
        have c18b1 : (t306 != 0) = false := bne_eq_false_iff_eq.mpr c18
        clear c18
        (first | rw [c18b0] | (simp only [i64_w, i32_w]; rw [c18b0]) | skip)
        by_cases c19 : t308 = 0
        · rw [if_pos c19] at H
          have c19b0 : (t308 == 0) = true := beq_iff_eq.mpr c19
          have c19b1 : (t308 != 0) = false := bne_eq_false_iff_eq.mpr c19
          clear c19
          have H' := Aside0.mk H
          clear H
          go_wp2
          go_meet
          case rel => exact ⟨_, ((t310 != 0)), (by first | rfl | (simp; done) | (simp [*]; done)), H', ⟨by first | omega | exact Nat.le_refl _⟩, ⟨by repeat (first | (with_reducible first | exact HB.out | apply below_alloc | apply pw_below_drewN | apply below_drew1) | exact HB.out)⟩⟩
        · rw [if_neg c19] at H
          have c19b0 : (t308 == 0) = false := beq_eq_false_iff_ne.mpr c19
          have c19b1 : (t308 != 0) = true := bne_iff_ne.mpr c19
          have H' := Aside0.mk H
          clear H
          go_wp2
          go_meet
          case rel => exact ⟨_, (true), (by first | rfl | (simp; done) | (simp [*]; done)), H', ⟨by first | omega | exact Nat.le_refl _⟩, ⟨by repeat (first | (with_reducible first | exact HB.out | apply below_alloc | apply pw_below_drewN | apply below_drew1) | exact HB.out)⟩⟩
      · rw [if_neg c18] at H
        have c18b0 : (t306 == 0) = false := beq_eq_false_iff_ne.mpr c18
        have c18b1 : (t306 != 0) = true := bne_iff_ne.mpr c18
        (first | rw [c18b0] | (simp only [i64_w, i32_w]; rw [c18b0]) | skip)
        have H' := Aside0.mk H
        clear H
        go_wp2
        go_meet
        case rel => exact ⟨_, (true), (by first | rfl | (simp; done) | (simp [*]; done)), H', ⟨by first | omega | exact Nat.le_refl _⟩, ⟨by repeat (first | (with_reducible first | exact HB.out | apply below_alloc | apply pw_below_drewN | apply below_drew1) | exact HB.out)⟩⟩
    case rest =>
      clear HC12
      try clear c1
      try clear p2
      try clear c3
      try clear c5
      try clear c11
      try clear c18
      try clear c18b0
      try clear c18b1
      try clear c19
      try clear c19b0
      try clear c19b1
      obtain ⟨kq, x65_11, rfl, HA, HJ11, HB⟩ := hcut
      cases kq with
      | zero => exact absurd HA.out (by simp [letterlocklaw6_RegressHides.j0])
      | succ kj11 =>
        have H := HA.out
        clear HA
        simp only [letterlocklaw6_RegressHides.j0] at H
        by_cases c20 : x65_11 = true
        · subst c20
          have H1 : (some false) = some r := by rw [if_pos rfl] at H; exact H
          clear H
          have H := H1
          clear H1
          obtain rfl := Option.some.inj H
          go_wp2
          go_ret
          exact ⟨by first | rfl | (simp [errW_none, errW_some] <;> rfl) | (simp [*, errW_none, errW_some] <;> rfl), by repeat (first | (with_reducible first | exact HB.out | apply below_alloc | apply pw_below_drewN | apply below_drew1) | exact HB.out)⟩
        · replace c20 := Bool.eq_false_iff.mpr c20
          subst c20
          have H1 : ((term_OfAtom.f kj11 (IntKind.u64.wrap (a0 + 1))).bind fun t311 => ((some (([t305, t311] : List ByteArray) : List ByteArray)).bind fun y312 => ((closure_Derives.f y312 t307).bind fun bt315 => ((closure_Derives.f y312 t309).bind fun bt317 => ((regress_Key.f kj11 t305).bind fun bt319 => ((closure_Derives.f (([bt319.1] : List ByteArray)) t305).bind fun bt324 => (if bt315.2 = 0 then (if bt317.2 = 0 then (if bt324.2 = 0 then (if (bt315.1 == (decide (t304 ≤ t303))) = true then (if (bt317.1 == (decide (t304 ≤ t303))) = true then (some (!bt324.1)) else (some false)) else (some false)) else (some false)) else (some false)) else (some false)))))))) = some r := by rw [if_neg (show ¬ (false = true) by decide)] at H; exact H
          clear H
          have H := H1
          clear H1
          replace H := Option.bind_eq_some_iff.mp H
          obtain ⟨t311, A210, H⟩ := H
          replace H : ((some (([t305, t311] : List ByteArray) : List ByteArray)).bind fun y312 => ((closure_Derives.f y312 t307).bind fun bt315 => ((closure_Derives.f y312 t309).bind fun bt317 => ((regress_Key.f kj11 t305).bind fun bt319 => ((closure_Derives.f (([bt319.1] : List ByteArray)) t305).bind fun bt324 => (if bt315.2 = 0 then (if bt317.2 = 0 then (if bt324.2 = 0 then (if (bt315.1 == (decide (t304 ≤ t303))) = true then (if (bt317.1 == (decide (t304 ≤ t303))) = true then (some (!bt324.1)) else (some false)) else (some false)) else (some false)) else (some false)) else (some false))))))) = some r := H
          have A21 := Aside0.mk A210
          clear A210
          obtain ⟨y312, hy312⟩ : ∃ y_ : List ByteArray, y_ = (([t305, t311] : List ByteArray)) := ⟨_, rfl⟩
          replace H : ((closure_Derives.f y312 t307).bind fun bt315 => ((closure_Derives.f y312 t309).bind fun bt317 => ((regress_Key.f kj11 t305).bind fun bt319 => ((closure_Derives.f (([bt319.1] : List ByteArray)) t305).bind fun bt324 => (if bt315.2 = 0 then (if bt317.2 = 0 then (if bt324.2 = 0 then (if (bt315.1 == (decide (t304 ≤ t303))) = true then (if (bt317.1 == (decide (t304 ≤ t303))) = true then (some (!bt324.1)) else (some false)) else (some false)) else (some false)) else (some false)) else (some false)))))) = some r := by first | (rw [hy312]; with_reducible exact H) | (have H2_ := (Option.bind_some _ _).symm.trans H; rw [hy312]; with_reducible exact H2_) | (have H2_ := (Option.bind_some _ _).symm.trans H; with_reducible exact H2_) | with_reducible exact H | (rw [hy312]; exact H) | exact H
          have Ny312 := Aside0.mk hy312
          clear hy312
          replace H := Option.bind_eq_some_iff.mp H
          obtain ⟨⟨t315, t316⟩, A220, H⟩ := H
          replace H : ((closure_Derives.f y312 t309).bind fun bt317 => ((regress_Key.f kj11 t305).bind fun bt319 => ((closure_Derives.f (([bt319.1] : List ByteArray)) t305).bind fun bt324 => (if t316 = 0 then (if bt317.2 = 0 then (if bt324.2 = 0 then (if (t315 == (decide (t304 ≤ t303))) = true then (if (bt317.1 == (decide (t304 ≤ t303))) = true then (some (!bt324.1)) else (some false)) else (some false)) else (some false)) else (some false)) else (some false))))) = some r := H
          have A22 := Aside0.mk A220
          clear A220
          replace H := Option.bind_eq_some_iff.mp H
          obtain ⟨⟨t317, t318⟩, A230, H⟩ := H
          replace H : ((regress_Key.f kj11 t305).bind fun bt319 => ((closure_Derives.f (([bt319.1] : List ByteArray)) t305).bind fun bt324 => (if t316 = 0 then (if t318 = 0 then (if bt324.2 = 0 then (if (t315 == (decide (t304 ≤ t303))) = true then (if (t317 == (decide (t304 ≤ t303))) = true then (some (!bt324.1)) else (some false)) else (some false)) else (some false)) else (some false)) else (some false)))) = some r := H
          have A23 := Aside0.mk A230
          clear A230
          replace H := Option.bind_eq_some_iff.mp H
          obtain ⟨⟨t319, t320⟩, A240, H⟩ := H
          replace H : ((closure_Derives.f (([t319] : List ByteArray)) t305).bind fun bt324 => (if t316 = 0 then (if t318 = 0 then (if bt324.2 = 0 then (if (t315 == (decide (t304 ≤ t303))) = true then (if (t317 == (decide (t304 ≤ t303))) = true then (some (!bt324.1)) else (some false)) else (some false)) else (some false)) else (some false)) else (some false))) = some r := H
          have A24 := Aside0.mk A240
          clear A240
          obtain ⟨y321, hy321⟩ : ∃ y_ : List ByteArray, y_ = (([t319] : List ByteArray)) := ⟨_, rfl⟩
          replace H : ((closure_Derives.f y321 t305).bind fun bt324 => (if t316 = 0 then (if t318 = 0 then (if bt324.2 = 0 then (if (t315 == (decide (t304 ≤ t303))) = true then (if (t317 == (decide (t304 ≤ t303))) = true then (some (!bt324.1)) else (some false)) else (some false)) else (some false)) else (some false)) else (some false))) = some r := by first | (rw [hy321]; with_reducible exact H) | (have H2_ := (Option.bind_some _ _).symm.trans H; rw [hy321]; with_reducible exact H2_) | (have H2_ := (Option.bind_some _ _).symm.trans H; with_reducible exact H2_) | with_reducible exact H | (rw [hy321]; exact H) | exact H
          have Ny321 := Aside0.mk hy321
          clear hy321
          replace H := Option.bind_eq_some_iff.mp H
          obtain ⟨⟨t324, t325⟩, A250, H⟩ := H
          replace H : (if t316 = 0 then (if t318 = 0 then (if t325 = 0 then (if (t315 == (decide (t304 ≤ t303))) = true then (if (t317 == (decide (t304 ≤ t303))) = true then (some (!t324)) else (some false)) else (some false)) else (some false)) else (some false)) else (some false)) = some r := H
          have A25 := Aside0.mk A250
          clear A250
          by_cases c26 : t316 = 0
          · rw [if_pos c26] at H
            have c26b0 : (t316 == 0) = true := beq_iff_eq.mpr c26
            have c26b1 : (t316 != 0) = false := bne_eq_false_iff_eq.mpr c26
            clear c26
            by_cases c27 : t318 = 0
            · rw [if_pos c27] at H
              have c27b0 : (t318 == 0) = true := beq_iff_eq.mpr c27
              have c27b1 : (t318 != 0) = false := bne_eq_false_iff_eq.mpr c27
              clear c27
              by_cases c28 : t325 = 0
              · rw [if_pos c28] at H
                have c28b0 : (t325 == 0) = true := beq_iff_eq.mpr c28
                have c28b1 : (t325 != 0) = false := bne_eq_false_iff_eq.mpr c28
                clear c28
                by_cases c29 : (t315 == (decide (t304 ≤ t303))) = true
                · rw [if_pos c29] at H
                  have c29b0 : (t315 == (decide (t304 ≤ t303))) = true := c29
                  (try (have c29b1 : decide (t315 = (decide (t304 ≤ t303))) = true := by simpa using c29))
                  (try (have c29b2 : (t315 == (decide (t304 ≤ t303))) = true := by simpa using c29))
                  clear c29
                  by_cases c30 : (t317 == (decide (t304 ≤ t303))) = true
                  · rw [if_pos c30] at H
                    have c30b0 : (t317 == (decide (t304 ≤ t303))) = true := c30
                    (try (have c30b1 : decide (t317 = (decide (t304 ≤ t303))) = true := by simpa using c30))
                    (try (have c30b2 : (t317 == (decide (t304 ≤ t303))) = true := by simpa using c30))
                    clear c30
                    obtain rfl := Option.some.inj H
                    go_wp2_with (first | ((with_reducible refine gate_callee (f := 30) rfl ?_); refine goesL_ (some 69) rfl rfl Try.func30 (by kernel_rfl) rfl #[.int .u64 (IntKind.u64.wrap (a0 + 1))] rfl (by (try simp only [List.map_toArray, List.map_cons, List.map_nil]); first | done | rfl | (simp only [List.length_drop, List.length_take]; rfl)) ?_; (with_reducible refine (term_OfAtom.calls kj11 (IntKind.u64.wrap (a0 + 1)) t311 _ A21.out).mono ?_); rintro e w31 ⟨rfl, hb⟩; refine ⟨_, rfl, ?_⟩; have n0_ := Aside0.mk (below_step (by repeat (first | (with_reducible first | exact HB.out | apply below_alloc | apply pw_below_drewN | apply below_drew1) | exact HB.out)) hb); clear HB; have HB := n0_; clear n0_; (try clear hb); (try clear hb2); (try clear hk); (try clear hi)) | ((with_reducible refine gate_dst (N := 70) rfl ?_); refine Kd.R_lit Kd.string _ 9 ?hg (N := 70) ?hd (xs := ([t305, t311] : List ByteArray)) (inner := [.string t305, .string t311]) (ok := fun _ => True) (okp := fun _ => True) ?hr ?hp (fun _ hk => hk) trivial (Below.refl _ _) (Nat.le_refl _) (by simp) ?_; (case hd => rfl); (case hg => rfl); (case hr => first | (go_simp; done) | (go_simp; rfl)); (case hp => exact (Reps.one (show Kd.M Kd.string _ _ _ t305 [.string t305] from rfl) (Reps.one (show Kd.M Kd.string _ _ _ t311 [.string t311] from rfl) (Reps.none _ _)))); intro v313 w32 ho33 hb hg_ hnew_; clear hg_ hnew_; (first | rw [← Ny312.out] at ho33 | (simp only [Int.reduceToNat] at ho33; rw [← Ny312.out] at ho33)); have n0_ := Aside0.mk (Kd.R_lower ho33 (below_size (by repeat (first | (with_reducible first | exact HB.out | apply below_alloc | apply pw_below_drewN | apply below_drew1) | exact HB.out)))); have n1_ := Aside0.mk (below_step (by repeat (first | (with_reducible first | exact HB.out | apply below_alloc | apply pw_below_drewN | apply below_drew1) | exact HB.out)) hb); clear HB; have HO314 := n0_; have HB := n1_; clear n0_ n1_; clear hb ho33; obtain ⟨Ao34, co34, eo34⟩ := Kd.R_slice HO314.out; subst eo34) | ((with_reducible refine gate_callee (f := 17) rfl ?_); refine goesL_ (some 74) rfl rfl Try.func17 (by kernel_rfl) rfl #[.slice Ao34 y312.length co34, .string t307] rfl (by (try simp only [List.map_toArray, List.map_cons, List.map_nil]); first | done | rfl | (simp only [List.length_drop, List.length_take]; rfl)) ?_; (with_reducible refine (closure_Derives.calls _ _ y312 t307 t315 t316 _ ?side1 ?side2 A22.out).mono ?_); (case side1 => repeat (first | exact (Kd.R_reads' HO314.out).2.2 | (with_reducible refine Kd.C_alloc ?_ _) | (with_reducible refine Kd.C_drewN ?_ _) | (with_reducible refine Kd.C_drew ?_))); (case side2 => exact (Kd.R_reads' HO314.out).2.1); rintro e w35 ⟨rfl, hb⟩; refine ⟨_, rfl, ?_⟩; have n0_ := Aside0.mk (Kd.R_below (by (with_reducible repeat (first | apply Kd.R_alloc | apply Kd.R_drewN | apply Kd.R_drew)); exact HO314.out) hb); have n1_ := Aside0.mk (below_step (by repeat (first | (with_reducible first | exact HB.out | apply below_alloc | apply pw_below_drewN | apply below_drew1) | exact HB.out)) hb); clear HO314; clear HB; have HO314 := n0_; have HB := n1_; clear n0_ n1_; (try clear hb); (try clear hb2); (try clear hk); (try clear hi)) | ((with_reducible refine gate_callee (f := 17) rfl ?_); refine goesL_ (some 80) rfl rfl Try.func17 (by kernel_rfl) rfl #[.slice Ao34 y312.length co34, .string t309] rfl (by (try simp only [List.map_toArray, List.map_cons, List.map_nil]); first | done | rfl | (simp only [List.length_drop, List.length_take]; rfl)) ?_; (with_reducible refine (closure_Derives.calls _ _ y312 t309 t317 t318 _ ?side1 ?side2 A23.out).mono ?_); (case side1 => repeat (first | exact (Kd.R_reads' HO314.out).2.2 | (with_reducible refine Kd.C_alloc ?_ _) | (with_reducible refine Kd.C_drewN ?_ _) | (with_reducible refine Kd.C_drew ?_))); (case side2 => exact (Kd.R_reads' HO314.out).2.1); rintro e w36 ⟨rfl, hb⟩; refine ⟨_, rfl, ?_⟩; have n0_ := Aside0.mk (Kd.R_below (by (with_reducible repeat (first | apply Kd.R_alloc | apply Kd.R_drewN | apply Kd.R_drew)); exact HO314.out) hb); have n1_ := Aside0.mk (below_step (by repeat (first | (with_reducible first | exact HB.out | apply below_alloc | apply pw_below_drewN | apply below_drew1) | exact HB.out)) hb); clear HO314; clear HB; have HO314 := n0_; have HB := n1_; clear n0_ n1_; (try clear hb); (try clear hb2); (try clear hk); (try clear hi)) | ((with_reducible refine gate_callee (f := 38) rfl ?_); refine goesL_ (some 85) rfl rfl Try.func38 (by kernel_rfl) rfl #[.string t305] rfl (by (try simp only [List.map_toArray, List.map_cons, List.map_nil]); first | done | rfl | (simp only [List.length_drop, List.length_take]; rfl)) ?_; (with_reducible refine (regress_Key.calls kj11 t305 t319 t320 _ A24.out).mono ?_); rintro e w37 ⟨rfl, hb⟩; refine ⟨_, rfl, ?_⟩; have n0_ := Aside0.mk (Kd.R_below (by (with_reducible repeat (first | apply Kd.R_alloc | apply Kd.R_drewN | apply Kd.R_drew)); exact HO314.out) hb); have n1_ := Aside0.mk (below_step (by repeat (first | (with_reducible first | exact HB.out | apply below_alloc | apply pw_below_drewN | apply below_drew1) | exact HB.out)) hb); clear HO314; clear HB; have HO314 := n0_; have HB := n1_; clear n0_ n1_; (try clear hb); (try clear hb2); (try clear hk); (try clear hi)) | ((with_reducible refine gate_dst (N := 90) rfl ?_); refine Kd.R_lit Kd.string _ 9 ?hg (N := 90) ?hd (xs := ([t319] : List ByteArray)) (inner := [.string t319]) (ok := fun _ => True) (okp := fun _ => True) ?hr ?hp (fun _ hk => hk) trivial (Below.refl _ _) (Nat.le_refl _) (by simp) ?_; (case hd => rfl); (case hg => rfl); (case hr => first | (go_simp; done) | (go_simp; rfl)); (case hp => exact (Reps.one (show Kd.M Kd.string _ _ _ t319 [.string t319] from rfl) (Reps.none _ _))); intro v322 w38 ho39 hb hg_ hnew_; clear hg_ hnew_; (first | rw [← Ny321.out] at ho39 | (simp only [Int.reduceToNat] at ho39; rw [← Ny321.out] at ho39)); have n0_ := Aside0.mk (Kd.R_elder' (by (with_reducible repeat (first | apply Kd.R_alloc | apply Kd.R_drewN | apply Kd.R_drew)); exact HO314.out) (Kd.R_base ho39) hb); have n1_ := Aside0.mk (Kd.R_lower (Kd.R_new' ho39 (Kd.R_lt (by (with_reducible repeat (first | apply Kd.R_alloc | apply Kd.R_drewN | apply Kd.R_drew)); exact HO314.out))) (below_size (by repeat (first | (with_reducible first | exact HB.out | apply below_alloc | apply pw_below_drewN | apply below_drew1) | exact HB.out)))); have n2_ := Aside0.mk (below_step (by repeat (first | (with_reducible first | exact HB.out | apply below_alloc | apply pw_below_drewN | apply below_drew1) | exact HB.out)) hb); clear HO314; clear HB; have HO314 := n0_; have HO323 := n1_; have HB := n2_; clear n0_ n1_ n2_; clear hb ho39; obtain ⟨Ao40, co40, eo40⟩ := Kd.R_slice HO323.out; subst eo40) | ((with_reducible refine gate_callee (f := 17) rfl ?_); refine goesL_ (some 92) rfl rfl Try.func17 (by kernel_rfl) rfl #[.slice Ao40 y321.length co40, .string t305] rfl (by (try simp only [List.map_toArray, List.map_cons, List.map_nil]); first | done | rfl | (simp only [List.length_drop, List.length_take]; rfl)) ?_; (with_reducible refine (closure_Derives.calls _ _ y321 t305 t324 t325 _ ?side1 ?side2 A25.out).mono ?_); (case side1 => repeat (first | exact (Kd.R_reads' HO323.out).2.2 | (with_reducible refine Kd.C_alloc ?_ _) | (with_reducible refine Kd.C_drewN ?_ _) | (with_reducible refine Kd.C_drew ?_))); (case side2 => exact (Kd.R_reads' HO323.out).2.1); rintro e w41 ⟨rfl, hb⟩; refine ⟨_, rfl, ?_⟩; have n0_ := Aside0.mk (Kd.R_below (by (with_reducible repeat (first | apply Kd.R_alloc | apply Kd.R_drewN | apply Kd.R_drew)); exact HO314.out) hb); have n1_ := Aside0.mk (Kd.R_below (by (with_reducible repeat (first | apply Kd.R_alloc | apply Kd.R_drewN | apply Kd.R_drew)); exact HO323.out) hb); have n2_ := Aside0.mk (below_step (by repeat (first | (with_reducible first | exact HB.out | apply below_alloc | apply pw_below_drewN | apply below_drew1) | exact HB.out)) hb); clear HO314; clear HO323; clear HB; have HO314 := n0_; have HO323 := n1_; have HB := n2_; clear n0_ n1_ n2_; (try clear hb); (try clear hb2); (try clear hk); (try clear hi)))
                    go_ret
                    exact ⟨by first | rfl | (simp [errW_none, errW_some] <;> rfl) | (simp [*, errW_none, errW_some] <;> rfl), by repeat (first | (with_reducible first | exact HB.out | apply below_alloc | apply pw_below_drewN | apply below_drew1) | exact HB.out)⟩
                  · rw [if_neg c30] at H
                    have c30b0 : (t317 == (decide (t304 ≤ t303))) = false := by simpa using c30
                    (try (have c30b1 : decide (t317 = (decide (t304 ≤ t303))) = false := by simpa using c30))
                    (try (have c30b2 : (t317 == (decide (t304 ≤ t303))) = false := by simpa using c30))
                    (try (have c30b3 : ¬ (t317 = (decide (t304 ≤ t303))) := by simpa using c30))
                    clear c30
                    obtain rfl := Option.some.inj H
                    go_wp2_with (first | ((with_reducible refine gate_callee (f := 30) rfl ?_); refine goesL_ (some 69) rfl rfl Try.func30 (by kernel_rfl) rfl #[.int .u64 (IntKind.u64.wrap (a0 + 1))] rfl (by (try simp only [List.map_toArray, List.map_cons, List.map_nil]); first | done | rfl | (simp only [List.length_drop, List.length_take]; rfl)) ?_; (with_reducible refine (term_OfAtom.calls kj11 (IntKind.u64.wrap (a0 + 1)) t311 _ A21.out).mono ?_); rintro e w42 ⟨rfl, hb⟩; refine ⟨_, rfl, ?_⟩; have n0_ := Aside0.mk (below_step (by repeat (first | (with_reducible first | exact HB.out | apply below_alloc | apply pw_below_drewN | apply below_drew1) | exact HB.out)) hb); clear HB; have HB := n0_; clear n0_; (try clear hb); (try clear hb2); (try clear hk); (try clear hi)) | ((with_reducible refine gate_dst (N := 70) rfl ?_); refine Kd.R_lit Kd.string _ 9 ?hg (N := 70) ?hd (xs := ([t305, t311] : List ByteArray)) (inner := [.string t305, .string t311]) (ok := fun _ => True) (okp := fun _ => True) ?hr ?hp (fun _ hk => hk) trivial (Below.refl _ _) (Nat.le_refl _) (by simp) ?_; (case hd => rfl); (case hg => rfl); (case hr => first | (go_simp; done) | (go_simp; rfl)); (case hp => exact (Reps.one (show Kd.M Kd.string _ _ _ t305 [.string t305] from rfl) (Reps.one (show Kd.M Kd.string _ _ _ t311 [.string t311] from rfl) (Reps.none _ _)))); intro v313 w43 ho44 hb hg_ hnew_; clear hg_ hnew_; (first | rw [← Ny312.out] at ho44 | (simp only [Int.reduceToNat] at ho44; rw [← Ny312.out] at ho44)); have n0_ := Aside0.mk (Kd.R_lower ho44 (below_size (by repeat (first | (with_reducible first | exact HB.out | apply below_alloc | apply pw_below_drewN | apply below_drew1) | exact HB.out)))); have n1_ := Aside0.mk (below_step (by repeat (first | (with_reducible first | exact HB.out | apply below_alloc | apply pw_below_drewN | apply below_drew1) | exact HB.out)) hb); clear HB; have HO314 := n0_; have HB := n1_; clear n0_ n1_; clear hb ho44; obtain ⟨Ao45, co45, eo45⟩ := Kd.R_slice HO314.out; subst eo45) | ((with_reducible refine gate_callee (f := 17) rfl ?_); refine goesL_ (some 74) rfl rfl Try.func17 (by kernel_rfl) rfl #[.slice Ao45 y312.length co45, .string t307] rfl (by (try simp only [List.map_toArray, List.map_cons, List.map_nil]); first | done | rfl | (simp only [List.length_drop, List.length_take]; rfl)) ?_; (with_reducible refine (closure_Derives.calls _ _ y312 t307 t315 t316 _ ?side1 ?side2 A22.out).mono ?_); (case side1 => repeat (first | exact (Kd.R_reads' HO314.out).2.2 | (with_reducible refine Kd.C_alloc ?_ _) | (with_reducible refine Kd.C_drewN ?_ _) | (with_reducible refine Kd.C_drew ?_))); (case side2 => exact (Kd.R_reads' HO314.out).2.1); rintro e w46 ⟨rfl, hb⟩; refine ⟨_, rfl, ?_⟩; have n0_ := Aside0.mk (Kd.R_below (by (with_reducible repeat (first | apply Kd.R_alloc | apply Kd.R_drewN | apply Kd.R_drew)); exact HO314.out) hb); have n1_ := Aside0.mk (below_step (by repeat (first | (with_reducible first | exact HB.out | apply below_alloc | apply pw_below_drewN | apply below_drew1) | exact HB.out)) hb); clear HO314; clear HB; have HO314 := n0_; have HB := n1_; clear n0_ n1_; (try clear hb); (try clear hb2); (try clear hk); (try clear hi)) | ((with_reducible refine gate_callee (f := 17) rfl ?_); refine goesL_ (some 80) rfl rfl Try.func17 (by kernel_rfl) rfl #[.slice Ao45 y312.length co45, .string t309] rfl (by (try simp only [List.map_toArray, List.map_cons, List.map_nil]); first | done | rfl | (simp only [List.length_drop, List.length_take]; rfl)) ?_; (with_reducible refine (closure_Derives.calls _ _ y312 t309 t317 t318 _ ?side1 ?side2 A23.out).mono ?_); (case side1 => repeat (first | exact (Kd.R_reads' HO314.out).2.2 | (with_reducible refine Kd.C_alloc ?_ _) | (with_reducible refine Kd.C_drewN ?_ _) | (with_reducible refine Kd.C_drew ?_))); (case side2 => exact (Kd.R_reads' HO314.out).2.1); rintro e w47 ⟨rfl, hb⟩; refine ⟨_, rfl, ?_⟩; have n0_ := Aside0.mk (Kd.R_below (by (with_reducible repeat (first | apply Kd.R_alloc | apply Kd.R_drewN | apply Kd.R_drew)); exact HO314.out) hb); have n1_ := Aside0.mk (below_step (by repeat (first | (with_reducible first | exact HB.out | apply below_alloc | apply pw_below_drewN | apply below_drew1) | exact HB.out)) hb); clear HO314; clear HB; have HO314 := n0_; have HB := n1_; clear n0_ n1_; (try clear hb); (try clear hb2); (try clear hk); (try clear hi)) | ((with_reducible refine gate_callee (f := 38) rfl ?_); refine goesL_ (some 85) rfl rfl Try.func38 (by kernel_rfl) rfl #[.string t305] rfl (by (try simp only [List.map_toArray, List.map_cons, List.map_nil]); first | done | rfl | (simp only [List.length_drop, List.length_take]; rfl)) ?_; (with_reducible refine (regress_Key.calls kj11 t305 t319 t320 _ A24.out).mono ?_); rintro e w48 ⟨rfl, hb⟩; refine ⟨_, rfl, ?_⟩; have n0_ := Aside0.mk (Kd.R_below (by (with_reducible repeat (first | apply Kd.R_alloc | apply Kd.R_drewN | apply Kd.R_drew)); exact HO314.out) hb); have n1_ := Aside0.mk (below_step (by repeat (first | (with_reducible first | exact HB.out | apply below_alloc | apply pw_below_drewN | apply below_drew1) | exact HB.out)) hb); clear HO314; clear HB; have HO314 := n0_; have HB := n1_; clear n0_ n1_; (try clear hb); (try clear hb2); (try clear hk); (try clear hi)) | ((with_reducible refine gate_dst (N := 90) rfl ?_); refine Kd.R_lit Kd.string _ 9 ?hg (N := 90) ?hd (xs := ([t319] : List ByteArray)) (inner := [.string t319]) (ok := fun _ => True) (okp := fun _ => True) ?hr ?hp (fun _ hk => hk) trivial (Below.refl _ _) (Nat.le_refl _) (by simp) ?_; (case hd => rfl); (case hg => rfl); (case hr => first | (go_simp; done) | (go_simp; rfl)); (case hp => exact (Reps.one (show Kd.M Kd.string _ _ _ t319 [.string t319] from rfl) (Reps.none _ _))); intro v322 w49 ho50 hb hg_ hnew_; clear hg_ hnew_; (first | rw [← Ny321.out] at ho50 | (simp only [Int.reduceToNat] at ho50; rw [← Ny321.out] at ho50)); have n0_ := Aside0.mk (Kd.R_elder' (by (with_reducible repeat (first | apply Kd.R_alloc | apply Kd.R_drewN | apply Kd.R_drew)); exact HO314.out) (Kd.R_base ho50) hb); have n1_ := Aside0.mk (Kd.R_lower (Kd.R_new' ho50 (Kd.R_lt (by (with_reducible repeat (first | apply Kd.R_alloc | apply Kd.R_drewN | apply Kd.R_drew)); exact HO314.out))) (below_size (by repeat (first | (with_reducible first | exact HB.out | apply below_alloc | apply pw_below_drewN | apply below_drew1) | exact HB.out)))); have n2_ := Aside0.mk (below_step (by repeat (first | (with_reducible first | exact HB.out | apply below_alloc | apply pw_below_drewN | apply below_drew1) | exact HB.out)) hb); clear HO314; clear HB; have HO314 := n0_; have HO323 := n1_; have HB := n2_; clear n0_ n1_ n2_; clear hb ho50; obtain ⟨Ao51, co51, eo51⟩ := Kd.R_slice HO323.out; subst eo51) | ((with_reducible refine gate_callee (f := 17) rfl ?_); refine goesL_ (some 92) rfl rfl Try.func17 (by kernel_rfl) rfl #[.slice Ao51 y321.length co51, .string t305] rfl (by (try simp only [List.map_toArray, List.map_cons, List.map_nil]); first | done | rfl | (simp only [List.length_drop, List.length_take]; rfl)) ?_; (with_reducible refine (closure_Derives.calls _ _ y321 t305 t324 t325 _ ?side1 ?side2 A25.out).mono ?_); (case side1 => repeat (first | exact (Kd.R_reads' HO323.out).2.2 | (with_reducible refine Kd.C_alloc ?_ _) | (with_reducible refine Kd.C_drewN ?_ _) | (with_reducible refine Kd.C_drew ?_))); (case side2 => exact (Kd.R_reads' HO323.out).2.1); rintro e w52 ⟨rfl, hb⟩; refine ⟨_, rfl, ?_⟩; have n0_ := Aside0.mk (Kd.R_below (by (with_reducible repeat (first | apply Kd.R_alloc | apply Kd.R_drewN | apply Kd.R_drew)); exact HO314.out) hb); have n1_ := Aside0.mk (Kd.R_below (by (with_reducible repeat (first | apply Kd.R_alloc | apply Kd.R_drewN | apply Kd.R_drew)); exact HO323.out) hb); have n2_ := Aside0.mk (below_step (by repeat (first | (with_reducible first | exact HB.out | apply below_alloc | apply pw_below_drewN | apply below_drew1) | exact HB.out)) hb); clear HO314; clear HO323; clear HB; have HO314 := n0_; have HO323 := n1_; have HB := n2_; clear n0_ n1_ n2_; (try clear hb); (try clear hb2); (try clear hk); (try clear hi)))
                    go_ret
                    exact ⟨by first | rfl | (simp [errW_none, errW_some] <;> rfl) | (simp [*, errW_none, errW_some] <;> rfl), by repeat (first | (with_reducible first | exact HB.out | apply below_alloc | apply pw_below_drewN | apply below_drew1) | exact HB.out)⟩
                · rw [if_neg c29] at H
                  have c29b0 : (t315 == (decide (t304 ≤ t303))) = false := by simpa using c29
                  (try (have c29b1 : decide (t315 = (decide (t304 ≤ t303))) = false := by simpa using c29))
                  (try (have c29b2 : (t315 == (decide (t304 ≤ t303))) = false := by simpa using c29))
                  (try (have c29b3 : ¬ (t315 = (decide (t304 ≤ t303))) := by simpa using c29))
                  clear c29
                  obtain rfl := Option.some.inj H
                  go_wp2_with (first | ((with_reducible refine gate_callee (f := 30) rfl ?_); refine goesL_ (some 69) rfl rfl Try.func30 (by kernel_rfl) rfl #[.int .u64 (IntKind.u64.wrap (a0 + 1))] rfl (by (try simp only [List.map_toArray, List.map_cons, List.map_nil]); first | done | rfl | (simp only [List.length_drop, List.length_take]; rfl)) ?_; (with_reducible refine (term_OfAtom.calls kj11 (IntKind.u64.wrap (a0 + 1)) t311 _ A21.out).mono ?_); rintro e w53 ⟨rfl, hb⟩; refine ⟨_, rfl, ?_⟩; have n0_ := Aside0.mk (below_step (by repeat (first | (with_reducible first | exact HB.out | apply below_alloc | apply pw_below_drewN | apply below_drew1) | exact HB.out)) hb); clear HB; have HB := n0_; clear n0_; (try clear hb); (try clear hb2); (try clear hk); (try clear hi)) | ((with_reducible refine gate_dst (N := 70) rfl ?_); refine Kd.R_lit Kd.string _ 9 ?hg (N := 70) ?hd (xs := ([t305, t311] : List ByteArray)) (inner := [.string t305, .string t311]) (ok := fun _ => True) (okp := fun _ => True) ?hr ?hp (fun _ hk => hk) trivial (Below.refl _ _) (Nat.le_refl _) (by simp) ?_; (case hd => rfl); (case hg => rfl); (case hr => first | (go_simp; done) | (go_simp; rfl)); (case hp => exact (Reps.one (show Kd.M Kd.string _ _ _ t305 [.string t305] from rfl) (Reps.one (show Kd.M Kd.string _ _ _ t311 [.string t311] from rfl) (Reps.none _ _)))); intro v313 w54 ho55 hb hg_ hnew_; clear hg_ hnew_; (first | rw [← Ny312.out] at ho55 | (simp only [Int.reduceToNat] at ho55; rw [← Ny312.out] at ho55)); have n0_ := Aside0.mk (Kd.R_lower ho55 (below_size (by repeat (first | (with_reducible first | exact HB.out | apply below_alloc | apply pw_below_drewN | apply below_drew1) | exact HB.out)))); have n1_ := Aside0.mk (below_step (by repeat (first | (with_reducible first | exact HB.out | apply below_alloc | apply pw_below_drewN | apply below_drew1) | exact HB.out)) hb); clear HB; have HO314 := n0_; have HB := n1_; clear n0_ n1_; clear hb ho55; obtain ⟨Ao56, co56, eo56⟩ := Kd.R_slice HO314.out; subst eo56) | ((with_reducible refine gate_callee (f := 17) rfl ?_); refine goesL_ (some 74) rfl rfl Try.func17 (by kernel_rfl) rfl #[.slice Ao56 y312.length co56, .string t307] rfl (by (try simp only [List.map_toArray, List.map_cons, List.map_nil]); first | done | rfl | (simp only [List.length_drop, List.length_take]; rfl)) ?_; (with_reducible refine (closure_Derives.calls _ _ y312 t307 t315 t316 _ ?side1 ?side2 A22.out).mono ?_); (case side1 => repeat (first | exact (Kd.R_reads' HO314.out).2.2 | (with_reducible refine Kd.C_alloc ?_ _) | (with_reducible refine Kd.C_drewN ?_ _) | (with_reducible refine Kd.C_drew ?_))); (case side2 => exact (Kd.R_reads' HO314.out).2.1); rintro e w57 ⟨rfl, hb⟩; refine ⟨_, rfl, ?_⟩; have n0_ := Aside0.mk (Kd.R_below (by (with_reducible repeat (first | apply Kd.R_alloc | apply Kd.R_drewN | apply Kd.R_drew)); exact HO314.out) hb); have n1_ := Aside0.mk (below_step (by repeat (first | (with_reducible first | exact HB.out | apply below_alloc | apply pw_below_drewN | apply below_drew1) | exact HB.out)) hb); clear HO314; clear HB; have HO314 := n0_; have HB := n1_; clear n0_ n1_; (try clear hb); (try clear hb2); (try clear hk); (try clear hi)) | ((with_reducible refine gate_callee (f := 17) rfl ?_); refine goesL_ (some 80) rfl rfl Try.func17 (by kernel_rfl) rfl #[.slice Ao56 y312.length co56, .string t309] rfl (by (try simp only [List.map_toArray, List.map_cons, List.map_nil]); first | done | rfl | (simp only [List.length_drop, List.length_take]; rfl)) ?_; (with_reducible refine (closure_Derives.calls _ _ y312 t309 t317 t318 _ ?side1 ?side2 A23.out).mono ?_); (case side1 => repeat (first | exact (Kd.R_reads' HO314.out).2.2 | (with_reducible refine Kd.C_alloc ?_ _) | (with_reducible refine Kd.C_drewN ?_ _) | (with_reducible refine Kd.C_drew ?_))); (case side2 => exact (Kd.R_reads' HO314.out).2.1); rintro e w58 ⟨rfl, hb⟩; refine ⟨_, rfl, ?_⟩; have n0_ := Aside0.mk (Kd.R_below (by (with_reducible repeat (first | apply Kd.R_alloc | apply Kd.R_drewN | apply Kd.R_drew)); exact HO314.out) hb); have n1_ := Aside0.mk (below_step (by repeat (first | (with_reducible first | exact HB.out | apply below_alloc | apply pw_below_drewN | apply below_drew1) | exact HB.out)) hb); clear HO314; clear HB; have HO314 := n0_; have HB := n1_; clear n0_ n1_; (try clear hb); (try clear hb2); (try clear hk); (try clear hi)) | ((with_reducible refine gate_callee (f := 38) rfl ?_); refine goesL_ (some 85) rfl rfl Try.func38 (by kernel_rfl) rfl #[.string t305] rfl (by (try simp only [List.map_toArray, List.map_cons, List.map_nil]); first | done | rfl | (simp only [List.length_drop, List.length_take]; rfl)) ?_; (with_reducible refine (regress_Key.calls kj11 t305 t319 t320 _ A24.out).mono ?_); rintro e w59 ⟨rfl, hb⟩; refine ⟨_, rfl, ?_⟩; have n0_ := Aside0.mk (Kd.R_below (by (with_reducible repeat (first | apply Kd.R_alloc | apply Kd.R_drewN | apply Kd.R_drew)); exact HO314.out) hb); have n1_ := Aside0.mk (below_step (by repeat (first | (with_reducible first | exact HB.out | apply below_alloc | apply pw_below_drewN | apply below_drew1) | exact HB.out)) hb); clear HO314; clear HB; have HO314 := n0_; have HB := n1_; clear n0_ n1_; (try clear hb); (try clear hb2); (try clear hk); (try clear hi)) | ((with_reducible refine gate_dst (N := 90) rfl ?_); refine Kd.R_lit Kd.string _ 9 ?hg (N := 90) ?hd (xs := ([t319] : List ByteArray)) (inner := [.string t319]) (ok := fun _ => True) (okp := fun _ => True) ?hr ?hp (fun _ hk => hk) trivial (Below.refl _ _) (Nat.le_refl _) (by simp) ?_; (case hd => rfl); (case hg => rfl); (case hr => first | (go_simp; done) | (go_simp; rfl)); (case hp => exact (Reps.one (show Kd.M Kd.string _ _ _ t319 [.string t319] from rfl) (Reps.none _ _))); intro v322 w60 ho61 hb hg_ hnew_; clear hg_ hnew_; (first | rw [← Ny321.out] at ho61 | (simp only [Int.reduceToNat] at ho61; rw [← Ny321.out] at ho61)); have n0_ := Aside0.mk (Kd.R_elder' (by (with_reducible repeat (first | apply Kd.R_alloc | apply Kd.R_drewN | apply Kd.R_drew)); exact HO314.out) (Kd.R_base ho61) hb); have n1_ := Aside0.mk (Kd.R_lower (Kd.R_new' ho61 (Kd.R_lt (by (with_reducible repeat (first | apply Kd.R_alloc | apply Kd.R_drewN | apply Kd.R_drew)); exact HO314.out))) (below_size (by repeat (first | (with_reducible first | exact HB.out | apply below_alloc | apply pw_below_drewN | apply below_drew1) | exact HB.out)))); have n2_ := Aside0.mk (below_step (by repeat (first | (with_reducible first | exact HB.out | apply below_alloc | apply pw_below_drewN | apply below_drew1) | exact HB.out)) hb); clear HO314; clear HB; have HO314 := n0_; have HO323 := n1_; have HB := n2_; clear n0_ n1_ n2_; clear hb ho61; obtain ⟨Ao62, co62, eo62⟩ := Kd.R_slice HO323.out; subst eo62) | ((with_reducible refine gate_callee (f := 17) rfl ?_); refine goesL_ (some 92) rfl rfl Try.func17 (by kernel_rfl) rfl #[.slice Ao62 y321.length co62, .string t305] rfl (by (try simp only [List.map_toArray, List.map_cons, List.map_nil]); first | done | rfl | (simp only [List.length_drop, List.length_take]; rfl)) ?_; (with_reducible refine (closure_Derives.calls _ _ y321 t305 t324 t325 _ ?side1 ?side2 A25.out).mono ?_); (case side1 => repeat (first | exact (Kd.R_reads' HO323.out).2.2 | (with_reducible refine Kd.C_alloc ?_ _) | (with_reducible refine Kd.C_drewN ?_ _) | (with_reducible refine Kd.C_drew ?_))); (case side2 => exact (Kd.R_reads' HO323.out).2.1); rintro e w63 ⟨rfl, hb⟩; refine ⟨_, rfl, ?_⟩; have n0_ := Aside0.mk (Kd.R_below (by (with_reducible repeat (first | apply Kd.R_alloc | apply Kd.R_drewN | apply Kd.R_drew)); exact HO314.out) hb); have n1_ := Aside0.mk (Kd.R_below (by (with_reducible repeat (first | apply Kd.R_alloc | apply Kd.R_drewN | apply Kd.R_drew)); exact HO323.out) hb); have n2_ := Aside0.mk (below_step (by repeat (first | (with_reducible first | exact HB.out | apply below_alloc | apply pw_below_drewN | apply below_drew1) | exact HB.out)) hb); clear HO314; clear HO323; clear HB; have HO314 := n0_; have HO323 := n1_; have HB := n2_; clear n0_ n1_ n2_; (try clear hb); (try clear hb2); (try clear hk); (try clear hi)))
                  go_ret
                  exact ⟨by first | rfl | (simp [errW_none, errW_some] <;> rfl) | (simp [*, errW_none, errW_some] <;> rfl), by repeat (first | (with_reducible first | exact HB.out | apply below_alloc | apply pw_below_drewN | apply below_drew1) | exact HB.out)⟩
              · rw [if_neg c28] at H
                have c28b0 : (t325 == 0) = false := beq_eq_false_iff_ne.mpr c28
                have c28b1 : (t325 != 0) = true := bne_iff_ne.mpr c28
                obtain rfl := Option.some.inj H
                go_wp2_with (first | ((with_reducible refine gate_callee (f := 30) rfl ?_); refine goesL_ (some 69) rfl rfl Try.func30 (by kernel_rfl) rfl #[.int .u64 (IntKind.u64.wrap (a0 + 1))] rfl (by (try simp only [List.map_toArray, List.map_cons, List.map_nil]); first | done | rfl | (simp only [List.length_drop, List.length_take]; rfl)) ?_; (with_reducible refine (term_OfAtom.calls kj11 (IntKind.u64.wrap (a0 + 1)) t311 _ A21.out).mono ?_); rintro e w64 ⟨rfl, hb⟩; refine ⟨_, rfl, ?_⟩; have n0_ := Aside0.mk (below_step (by repeat (first | (with_reducible first | exact HB.out | apply below_alloc | apply pw_below_drewN | apply below_drew1) | exact HB.out)) hb); clear HB; have HB := n0_; clear n0_; (try clear hb); (try clear hb2); (try clear hk); (try clear hi)) | ((with_reducible refine gate_dst (N := 70) rfl ?_); refine Kd.R_lit Kd.string _ 9 ?hg (N := 70) ?hd (xs := ([t305, t311] : List ByteArray)) (inner := [.string t305, .string t311]) (ok := fun _ => True) (okp := fun _ => True) ?hr ?hp (fun _ hk => hk) trivial (Below.refl _ _) (Nat.le_refl _) (by simp) ?_; (case hd => rfl); (case hg => rfl); (case hr => first | (go_simp; done) | (go_simp; rfl)); (case hp => exact (Reps.one (show Kd.M Kd.string _ _ _ t305 [.string t305] from rfl) (Reps.one (show Kd.M Kd.string _ _ _ t311 [.string t311] from rfl) (Reps.none _ _)))); intro v313 w65 ho66 hb hg_ hnew_; clear hg_ hnew_; (first | rw [← Ny312.out] at ho66 | (simp only [Int.reduceToNat] at ho66; rw [← Ny312.out] at ho66)); have n0_ := Aside0.mk (Kd.R_lower ho66 (below_size (by repeat (first | (with_reducible first | exact HB.out | apply below_alloc | apply pw_below_drewN | apply below_drew1) | exact HB.out)))); have n1_ := Aside0.mk (below_step (by repeat (first | (with_reducible first | exact HB.out | apply below_alloc | apply pw_below_drewN | apply below_drew1) | exact HB.out)) hb); clear HB; have HO314 := n0_; have HB := n1_; clear n0_ n1_; clear hb ho66; obtain ⟨Ao67, co67, eo67⟩ := Kd.R_slice HO314.out; subst eo67) | ((with_reducible refine gate_callee (f := 17) rfl ?_); refine goesL_ (some 74) rfl rfl Try.func17 (by kernel_rfl) rfl #[.slice Ao67 y312.length co67, .string t307] rfl (by (try simp only [List.map_toArray, List.map_cons, List.map_nil]); first | done | rfl | (simp only [List.length_drop, List.length_take]; rfl)) ?_; (with_reducible refine (closure_Derives.calls _ _ y312 t307 t315 t316 _ ?side1 ?side2 A22.out).mono ?_); (case side1 => repeat (first | exact (Kd.R_reads' HO314.out).2.2 | (with_reducible refine Kd.C_alloc ?_ _) | (with_reducible refine Kd.C_drewN ?_ _) | (with_reducible refine Kd.C_drew ?_))); (case side2 => exact (Kd.R_reads' HO314.out).2.1); rintro e w68 ⟨rfl, hb⟩; refine ⟨_, rfl, ?_⟩; have n0_ := Aside0.mk (Kd.R_below (by (with_reducible repeat (first | apply Kd.R_alloc | apply Kd.R_drewN | apply Kd.R_drew)); exact HO314.out) hb); have n1_ := Aside0.mk (below_step (by repeat (first | (with_reducible first | exact HB.out | apply below_alloc | apply pw_below_drewN | apply below_drew1) | exact HB.out)) hb); clear HO314; clear HB; have HO314 := n0_; have HB := n1_; clear n0_ n1_; (try clear hb); (try clear hb2); (try clear hk); (try clear hi)) | ((with_reducible refine gate_callee (f := 17) rfl ?_); refine goesL_ (some 80) rfl rfl Try.func17 (by kernel_rfl) rfl #[.slice Ao67 y312.length co67, .string t309] rfl (by (try simp only [List.map_toArray, List.map_cons, List.map_nil]); first | done | rfl | (simp only [List.length_drop, List.length_take]; rfl)) ?_; (with_reducible refine (closure_Derives.calls _ _ y312 t309 t317 t318 _ ?side1 ?side2 A23.out).mono ?_); (case side1 => repeat (first | exact (Kd.R_reads' HO314.out).2.2 | (with_reducible refine Kd.C_alloc ?_ _) | (with_reducible refine Kd.C_drewN ?_ _) | (with_reducible refine Kd.C_drew ?_))); (case side2 => exact (Kd.R_reads' HO314.out).2.1); rintro e w69 ⟨rfl, hb⟩; refine ⟨_, rfl, ?_⟩; have n0_ := Aside0.mk (Kd.R_below (by (with_reducible repeat (first | apply Kd.R_alloc | apply Kd.R_drewN | apply Kd.R_drew)); exact HO314.out) hb); have n1_ := Aside0.mk (below_step (by repeat (first | (with_reducible first | exact HB.out | apply below_alloc | apply pw_below_drewN | apply below_drew1) | exact HB.out)) hb); clear HO314; clear HB; have HO314 := n0_; have HB := n1_; clear n0_ n1_; (try clear hb); (try clear hb2); (try clear hk); (try clear hi)) | ((with_reducible refine gate_callee (f := 38) rfl ?_); refine goesL_ (some 85) rfl rfl Try.func38 (by kernel_rfl) rfl #[.string t305] rfl (by (try simp only [List.map_toArray, List.map_cons, List.map_nil]); first | done | rfl | (simp only [List.length_drop, List.length_take]; rfl)) ?_; (with_reducible refine (regress_Key.calls kj11 t305 t319 t320 _ A24.out).mono ?_); rintro e w70 ⟨rfl, hb⟩; refine ⟨_, rfl, ?_⟩; have n0_ := Aside0.mk (Kd.R_below (by (with_reducible repeat (first | apply Kd.R_alloc | apply Kd.R_drewN | apply Kd.R_drew)); exact HO314.out) hb); have n1_ := Aside0.mk (below_step (by repeat (first | (with_reducible first | exact HB.out | apply below_alloc | apply pw_below_drewN | apply below_drew1) | exact HB.out)) hb); clear HO314; clear HB; have HO314 := n0_; have HB := n1_; clear n0_ n1_; (try clear hb); (try clear hb2); (try clear hk); (try clear hi)) | ((with_reducible refine gate_dst (N := 90) rfl ?_); refine Kd.R_lit Kd.string _ 9 ?hg (N := 90) ?hd (xs := ([t319] : List ByteArray)) (inner := [.string t319]) (ok := fun _ => True) (okp := fun _ => True) ?hr ?hp (fun _ hk => hk) trivial (Below.refl _ _) (Nat.le_refl _) (by simp) ?_; (case hd => rfl); (case hg => rfl); (case hr => first | (go_simp; done) | (go_simp; rfl)); (case hp => exact (Reps.one (show Kd.M Kd.string _ _ _ t319 [.string t319] from rfl) (Reps.none _ _))); intro v322 w71 ho72 hb hg_ hnew_; clear hg_ hnew_; (first | rw [← Ny321.out] at ho72 | (simp only [Int.reduceToNat] at ho72; rw [← Ny321.out] at ho72)); have n0_ := Aside0.mk (Kd.R_elder' (by (with_reducible repeat (first | apply Kd.R_alloc | apply Kd.R_drewN | apply Kd.R_drew)); exact HO314.out) (Kd.R_base ho72) hb); have n1_ := Aside0.mk (Kd.R_lower (Kd.R_new' ho72 (Kd.R_lt (by (with_reducible repeat (first | apply Kd.R_alloc | apply Kd.R_drewN | apply Kd.R_drew)); exact HO314.out))) (below_size (by repeat (first | (with_reducible first | exact HB.out | apply below_alloc | apply pw_below_drewN | apply below_drew1) | exact HB.out)))); have n2_ := Aside0.mk (below_step (by repeat (first | (with_reducible first | exact HB.out | apply below_alloc | apply pw_below_drewN | apply below_drew1) | exact HB.out)) hb); clear HO314; clear HB; have HO314 := n0_; have HO323 := n1_; have HB := n2_; clear n0_ n1_ n2_; clear hb ho72; obtain ⟨Ao73, co73, eo73⟩ := Kd.R_slice HO323.out; subst eo73) | ((with_reducible refine gate_callee (f := 17) rfl ?_); refine goesL_ (some 92) rfl rfl Try.func17 (by kernel_rfl) rfl #[.slice Ao73 y321.length co73, .string t305] rfl (by (try simp only [List.map_toArray, List.map_cons, List.map_nil]); first | done | rfl | (simp only [List.length_drop, List.length_take]; rfl)) ?_; (with_reducible refine (closure_Derives.calls _ _ y321 t305 t324 t325 _ ?side1 ?side2 A25.out).mono ?_); (case side1 => repeat (first | exact (Kd.R_reads' HO323.out).2.2 | (with_reducible refine Kd.C_alloc ?_ _) | (with_reducible refine Kd.C_drewN ?_ _) | (with_reducible refine Kd.C_drew ?_))); (case side2 => exact (Kd.R_reads' HO323.out).2.1); rintro e w74 ⟨rfl, hb⟩; refine ⟨_, rfl, ?_⟩; have n0_ := Aside0.mk (Kd.R_below (by (with_reducible repeat (first | apply Kd.R_alloc | apply Kd.R_drewN | apply Kd.R_drew)); exact HO314.out) hb); have n1_ := Aside0.mk (Kd.R_below (by (with_reducible repeat (first | apply Kd.R_alloc | apply Kd.R_drewN | apply Kd.R_drew)); exact HO323.out) hb); have n2_ := Aside0.mk (below_step (by repeat (first | (with_reducible first | exact HB.out | apply below_alloc | apply pw_below_drewN | apply below_drew1) | exact HB.out)) hb); clear HO314; clear HO323; clear HB; have HO314 := n0_; have HO323 := n1_; have HB := n2_; clear n0_ n1_ n2_; (try clear hb); (try clear hb2); (try clear hk); (try clear hi)))
                go_ret
                exact ⟨by first | rfl | (simp [errW_none, errW_some] <;> rfl) | (simp [*, errW_none, errW_some] <;> rfl), by repeat (first | (with_reducible first | exact HB.out | apply below_alloc | apply pw_below_drewN | apply below_drew1) | exact HB.out)⟩
            · rw [if_neg c27] at H
              have c27b0 : (t318 == 0) = false := beq_eq_false_iff_ne.mpr c27
              have c27b1 : (t318 != 0) = true := bne_iff_ne.mpr c27
              obtain rfl := Option.some.inj H
              go_wp2_with (first | ((with_reducible refine gate_callee (f := 30) rfl ?_); refine goesL_ (some 69) rfl rfl Try.func30 (by kernel_rfl) rfl #[.int .u64 (IntKind.u64.wrap (a0 + 1))] rfl (by (try simp only [List.map_toArray, List.map_cons, List.map_nil]); first | done | rfl | (simp only [List.length_drop, List.length_take]; rfl)) ?_; (with_reducible refine (term_OfAtom.calls kj11 (IntKind.u64.wrap (a0 + 1)) t311 _ A21.out).mono ?_); rintro e w75 ⟨rfl, hb⟩; refine ⟨_, rfl, ?_⟩; have n0_ := Aside0.mk (below_step (by repeat (first | (with_reducible first | exact HB.out | apply below_alloc | apply pw_below_drewN | apply below_drew1) | exact HB.out)) hb); clear HB; have HB := n0_; clear n0_; (try clear hb); (try clear hb2); (try clear hk); (try clear hi)) | ((with_reducible refine gate_dst (N := 70) rfl ?_); refine Kd.R_lit Kd.string _ 9 ?hg (N := 70) ?hd (xs := ([t305, t311] : List ByteArray)) (inner := [.string t305, .string t311]) (ok := fun _ => True) (okp := fun _ => True) ?hr ?hp (fun _ hk => hk) trivial (Below.refl _ _) (Nat.le_refl _) (by simp) ?_; (case hd => rfl); (case hg => rfl); (case hr => first | (go_simp; done) | (go_simp; rfl)); (case hp => exact (Reps.one (show Kd.M Kd.string _ _ _ t305 [.string t305] from rfl) (Reps.one (show Kd.M Kd.string _ _ _ t311 [.string t311] from rfl) (Reps.none _ _)))); intro v313 w76 ho77 hb hg_ hnew_; clear hg_ hnew_; (first | rw [← Ny312.out] at ho77 | (simp only [Int.reduceToNat] at ho77; rw [← Ny312.out] at ho77)); have n0_ := Aside0.mk (Kd.R_lower ho77 (below_size (by repeat (first | (with_reducible first | exact HB.out | apply below_alloc | apply pw_below_drewN | apply below_drew1) | exact HB.out)))); have n1_ := Aside0.mk (below_step (by repeat (first | (with_reducible first | exact HB.out | apply below_alloc | apply pw_below_drewN | apply below_drew1) | exact HB.out)) hb); clear HB; have HO314 := n0_; have HB := n1_; clear n0_ n1_; clear hb ho77; obtain ⟨Ao78, co78, eo78⟩ := Kd.R_slice HO314.out; subst eo78) | ((with_reducible refine gate_callee (f := 17) rfl ?_); refine goesL_ (some 74) rfl rfl Try.func17 (by kernel_rfl) rfl #[.slice Ao78 y312.length co78, .string t307] rfl (by (try simp only [List.map_toArray, List.map_cons, List.map_nil]); first | done | rfl | (simp only [List.length_drop, List.length_take]; rfl)) ?_; (with_reducible refine (closure_Derives.calls _ _ y312 t307 t315 t316 _ ?side1 ?side2 A22.out).mono ?_); (case side1 => repeat (first | exact (Kd.R_reads' HO314.out).2.2 | (with_reducible refine Kd.C_alloc ?_ _) | (with_reducible refine Kd.C_drewN ?_ _) | (with_reducible refine Kd.C_drew ?_))); (case side2 => exact (Kd.R_reads' HO314.out).2.1); rintro e w79 ⟨rfl, hb⟩; refine ⟨_, rfl, ?_⟩; have n0_ := Aside0.mk (Kd.R_below (by (with_reducible repeat (first | apply Kd.R_alloc | apply Kd.R_drewN | apply Kd.R_drew)); exact HO314.out) hb); have n1_ := Aside0.mk (below_step (by repeat (first | (with_reducible first | exact HB.out | apply below_alloc | apply pw_below_drewN | apply below_drew1) | exact HB.out)) hb); clear HO314; clear HB; have HO314 := n0_; have HB := n1_; clear n0_ n1_; (try clear hb); (try clear hb2); (try clear hk); (try clear hi)) | ((with_reducible refine gate_callee (f := 17) rfl ?_); refine goesL_ (some 80) rfl rfl Try.func17 (by kernel_rfl) rfl #[.slice Ao78 y312.length co78, .string t309] rfl (by (try simp only [List.map_toArray, List.map_cons, List.map_nil]); first | done | rfl | (simp only [List.length_drop, List.length_take]; rfl)) ?_; (with_reducible refine (closure_Derives.calls _ _ y312 t309 t317 t318 _ ?side1 ?side2 A23.out).mono ?_); (case side1 => repeat (first | exact (Kd.R_reads' HO314.out).2.2 | (with_reducible refine Kd.C_alloc ?_ _) | (with_reducible refine Kd.C_drewN ?_ _) | (with_reducible refine Kd.C_drew ?_))); (case side2 => exact (Kd.R_reads' HO314.out).2.1); rintro e w80 ⟨rfl, hb⟩; refine ⟨_, rfl, ?_⟩; have n0_ := Aside0.mk (Kd.R_below (by (with_reducible repeat (first | apply Kd.R_alloc | apply Kd.R_drewN | apply Kd.R_drew)); exact HO314.out) hb); have n1_ := Aside0.mk (below_step (by repeat (first | (with_reducible first | exact HB.out | apply below_alloc | apply pw_below_drewN | apply below_drew1) | exact HB.out)) hb); clear HO314; clear HB; have HO314 := n0_; have HB := n1_; clear n0_ n1_; (try clear hb); (try clear hb2); (try clear hk); (try clear hi)) | ((with_reducible refine gate_callee (f := 38) rfl ?_); refine goesL_ (some 85) rfl rfl Try.func38 (by kernel_rfl) rfl #[.string t305] rfl (by (try simp only [List.map_toArray, List.map_cons, List.map_nil]); first | done | rfl | (simp only [List.length_drop, List.length_take]; rfl)) ?_; (with_reducible refine (regress_Key.calls kj11 t305 t319 t320 _ A24.out).mono ?_); rintro e w81 ⟨rfl, hb⟩; refine ⟨_, rfl, ?_⟩; have n0_ := Aside0.mk (Kd.R_below (by (with_reducible repeat (first | apply Kd.R_alloc | apply Kd.R_drewN | apply Kd.R_drew)); exact HO314.out) hb); have n1_ := Aside0.mk (below_step (by repeat (first | (with_reducible first | exact HB.out | apply below_alloc | apply pw_below_drewN | apply below_drew1) | exact HB.out)) hb); clear HO314; clear HB; have HO314 := n0_; have HB := n1_; clear n0_ n1_; (try clear hb); (try clear hb2); (try clear hk); (try clear hi)) | ((with_reducible refine gate_dst (N := 90) rfl ?_); refine Kd.R_lit Kd.string _ 9 ?hg (N := 90) ?hd (xs := ([t319] : List ByteArray)) (inner := [.string t319]) (ok := fun _ => True) (okp := fun _ => True) ?hr ?hp (fun _ hk => hk) trivial (Below.refl _ _) (Nat.le_refl _) (by simp) ?_; (case hd => rfl); (case hg => rfl); (case hr => first | (go_simp; done) | (go_simp; rfl)); (case hp => exact (Reps.one (show Kd.M Kd.string _ _ _ t319 [.string t319] from rfl) (Reps.none _ _))); intro v322 w82 ho83 hb hg_ hnew_; clear hg_ hnew_; (first | rw [← Ny321.out] at ho83 | (simp only [Int.reduceToNat] at ho83; rw [← Ny321.out] at ho83)); have n0_ := Aside0.mk (Kd.R_elder' (by (with_reducible repeat (first | apply Kd.R_alloc | apply Kd.R_drewN | apply Kd.R_drew)); exact HO314.out) (Kd.R_base ho83) hb); have n1_ := Aside0.mk (Kd.R_lower (Kd.R_new' ho83 (Kd.R_lt (by (with_reducible repeat (first | apply Kd.R_alloc | apply Kd.R_drewN | apply Kd.R_drew)); exact HO314.out))) (below_size (by repeat (first | (with_reducible first | exact HB.out | apply below_alloc | apply pw_below_drewN | apply below_drew1) | exact HB.out)))); have n2_ := Aside0.mk (below_step (by repeat (first | (with_reducible first | exact HB.out | apply below_alloc | apply pw_below_drewN | apply below_drew1) | exact HB.out)) hb); clear HO314; clear HB; have HO314 := n0_; have HO323 := n1_; have HB := n2_; clear n0_ n1_ n2_; clear hb ho83; obtain ⟨Ao84, co84, eo84⟩ := Kd.R_slice HO323.out; subst eo84) | ((with_reducible refine gate_callee (f := 17) rfl ?_); refine goesL_ (some 92) rfl rfl Try.func17 (by kernel_rfl) rfl #[.slice Ao84 y321.length co84, .string t305] rfl (by (try simp only [List.map_toArray, List.map_cons, List.map_nil]); first | done | rfl | (simp only [List.length_drop, List.length_take]; rfl)) ?_; (with_reducible refine (closure_Derives.calls _ _ y321 t305 t324 t325 _ ?side1 ?side2 A25.out).mono ?_); (case side1 => repeat (first | exact (Kd.R_reads' HO323.out).2.2 | (with_reducible refine Kd.C_alloc ?_ _) | (with_reducible refine Kd.C_drewN ?_ _) | (with_reducible refine Kd.C_drew ?_))); (case side2 => exact (Kd.R_reads' HO323.out).2.1); rintro e w85 ⟨rfl, hb⟩; refine ⟨_, rfl, ?_⟩; have n0_ := Aside0.mk (Kd.R_below (by (with_reducible repeat (first | apply Kd.R_alloc | apply Kd.R_drewN | apply Kd.R_drew)); exact HO314.out) hb); have n1_ := Aside0.mk (Kd.R_below (by (with_reducible repeat (first | apply Kd.R_alloc | apply Kd.R_drewN | apply Kd.R_drew)); exact HO323.out) hb); have n2_ := Aside0.mk (below_step (by repeat (first | (with_reducible first | exact HB.out | apply below_alloc | apply pw_below_drewN | apply below_drew1) | exact HB.out)) hb); clear HO314; clear HO323; clear HB; have HO314 := n0_; have HO323 := n1_; have HB := n2_; clear n0_ n1_ n2_; (try clear hb); (try clear hb2); (try clear hk); (try clear hi)))
              go_ret
              exact ⟨by first | rfl | (simp [errW_none, errW_some] <;> rfl) | (simp [*, errW_none, errW_some] <;> rfl), by repeat (first | (with_reducible first | exact HB.out | apply below_alloc | apply pw_below_drewN | apply below_drew1) | exact HB.out)⟩
          · rw [if_neg c26] at H
            have c26b0 : (t316 == 0) = false := beq_eq_false_iff_ne.mpr c26
            have c26b1 : (t316 != 0) = true := bne_iff_ne.mpr c26
            obtain rfl := Option.some.inj H
            go_wp2_with (first | ((with_reducible refine gate_callee (f := 30) rfl ?_); refine goesL_ (some 69) rfl rfl Try.func30 (by kernel_rfl) rfl #[.int .u64 (IntKind.u64.wrap (a0 + 1))] rfl (by (try simp only [List.map_toArray, List.map_cons, List.map_nil]); first | done | rfl | (simp only [List.length_drop, List.length_take]; rfl)) ?_; (with_reducible refine (term_OfAtom.calls kj11 (IntKind.u64.wrap (a0 + 1)) t311 _ A21.out).mono ?_); rintro e w86 ⟨rfl, hb⟩; refine ⟨_, rfl, ?_⟩; have n0_ := Aside0.mk (below_step (by repeat (first | (with_reducible first | exact HB.out | apply below_alloc | apply pw_below_drewN | apply below_drew1) | exact HB.out)) hb); clear HB; have HB := n0_; clear n0_; (try clear hb); (try clear hb2); (try clear hk); (try clear hi)) | ((with_reducible refine gate_dst (N := 70) rfl ?_); refine Kd.R_lit Kd.string _ 9 ?hg (N := 70) ?hd (xs := ([t305, t311] : List ByteArray)) (inner := [.string t305, .string t311]) (ok := fun _ => True) (okp := fun _ => True) ?hr ?hp (fun _ hk => hk) trivial (Below.refl _ _) (Nat.le_refl _) (by simp) ?_; (case hd => rfl); (case hg => rfl); (case hr => first | (go_simp; done) | (go_simp; rfl)); (case hp => exact (Reps.one (show Kd.M Kd.string _ _ _ t305 [.string t305] from rfl) (Reps.one (show Kd.M Kd.string _ _ _ t311 [.string t311] from rfl) (Reps.none _ _)))); intro v313 w87 ho88 hb hg_ hnew_; clear hg_ hnew_; (first | rw [← Ny312.out] at ho88 | (simp only [Int.reduceToNat] at ho88; rw [← Ny312.out] at ho88)); have n0_ := Aside0.mk (Kd.R_lower ho88 (below_size (by repeat (first | (with_reducible first | exact HB.out | apply below_alloc | apply pw_below_drewN | apply below_drew1) | exact HB.out)))); have n1_ := Aside0.mk (below_step (by repeat (first | (with_reducible first | exact HB.out | apply below_alloc | apply pw_below_drewN | apply below_drew1) | exact HB.out)) hb); clear HB; have HO314 := n0_; have HB := n1_; clear n0_ n1_; clear hb ho88; obtain ⟨Ao89, co89, eo89⟩ := Kd.R_slice HO314.out; subst eo89) | ((with_reducible refine gate_callee (f := 17) rfl ?_); refine goesL_ (some 74) rfl rfl Try.func17 (by kernel_rfl) rfl #[.slice Ao89 y312.length co89, .string t307] rfl (by (try simp only [List.map_toArray, List.map_cons, List.map_nil]); first | done | rfl | (simp only [List.length_drop, List.length_take]; rfl)) ?_; (with_reducible refine (closure_Derives.calls _ _ y312 t307 t315 t316 _ ?side1 ?side2 A22.out).mono ?_); (case side1 => repeat (first | exact (Kd.R_reads' HO314.out).2.2 | (with_reducible refine Kd.C_alloc ?_ _) | (with_reducible refine Kd.C_drewN ?_ _) | (with_reducible refine Kd.C_drew ?_))); (case side2 => exact (Kd.R_reads' HO314.out).2.1); rintro e w90 ⟨rfl, hb⟩; refine ⟨_, rfl, ?_⟩; have n0_ := Aside0.mk (Kd.R_below (by (with_reducible repeat (first | apply Kd.R_alloc | apply Kd.R_drewN | apply Kd.R_drew)); exact HO314.out) hb); have n1_ := Aside0.mk (below_step (by repeat (first | (with_reducible first | exact HB.out | apply below_alloc | apply pw_below_drewN | apply below_drew1) | exact HB.out)) hb); clear HO314; clear HB; have HO314 := n0_; have HB := n1_; clear n0_ n1_; (try clear hb); (try clear hb2); (try clear hk); (try clear hi)) | ((with_reducible refine gate_callee (f := 17) rfl ?_); refine goesL_ (some 80) rfl rfl Try.func17 (by kernel_rfl) rfl #[.slice Ao89 y312.length co89, .string t309] rfl (by (try simp only [List.map_toArray, List.map_cons, List.map_nil]); first | done | rfl | (simp only [List.length_drop, List.length_take]; rfl)) ?_; (with_reducible refine (closure_Derives.calls _ _ y312 t309 t317 t318 _ ?side1 ?side2 A23.out).mono ?_); (case side1 => repeat (first | exact (Kd.R_reads' HO314.out).2.2 | (with_reducible refine Kd.C_alloc ?_ _) | (with_reducible refine Kd.C_drewN ?_ _) | (with_reducible refine Kd.C_drew ?_))); (case side2 => exact (Kd.R_reads' HO314.out).2.1); rintro e w91 ⟨rfl, hb⟩; refine ⟨_, rfl, ?_⟩; have n0_ := Aside0.mk (Kd.R_below (by (with_reducible repeat (first | apply Kd.R_alloc | apply Kd.R_drewN | apply Kd.R_drew)); exact HO314.out) hb); have n1_ := Aside0.mk (below_step (by repeat (first | (with_reducible first | exact HB.out | apply below_alloc | apply pw_below_drewN | apply below_drew1) | exact HB.out)) hb); clear HO314; clear HB; have HO314 := n0_; have HB := n1_; clear n0_ n1_; (try clear hb); (try clear hb2); (try clear hk); (try clear hi)) | ((with_reducible refine gate_callee (f := 38) rfl ?_); refine goesL_ (some 85) rfl rfl Try.func38 (by kernel_rfl) rfl #[.string t305] rfl (by (try simp only [List.map_toArray, List.map_cons, List.map_nil]); first | done | rfl | (simp only [List.length_drop, List.length_take]; rfl)) ?_; (with_reducible refine (regress_Key.calls kj11 t305 t319 t320 _ A24.out).mono ?_); rintro e w92 ⟨rfl, hb⟩; refine ⟨_, rfl, ?_⟩; have n0_ := Aside0.mk (Kd.R_below (by (with_reducible repeat (first | apply Kd.R_alloc | apply Kd.R_drewN | apply Kd.R_drew)); exact HO314.out) hb); have n1_ := Aside0.mk (below_step (by repeat (first | (with_reducible first | exact HB.out | apply below_alloc | apply pw_below_drewN | apply below_drew1) | exact HB.out)) hb); clear HO314; clear HB; have HO314 := n0_; have HB := n1_; clear n0_ n1_; (try clear hb); (try clear hb2); (try clear hk); (try clear hi)) | ((with_reducible refine gate_dst (N := 90) rfl ?_); refine Kd.R_lit Kd.string _ 9 ?hg (N := 90) ?hd (xs := ([t319] : List ByteArray)) (inner := [.string t319]) (ok := fun _ => True) (okp := fun _ => True) ?hr ?hp (fun _ hk => hk) trivial (Below.refl _ _) (Nat.le_refl _) (by simp) ?_; (case hd => rfl); (case hg => rfl); (case hr => first | (go_simp; done) | (go_simp; rfl)); (case hp => exact (Reps.one (show Kd.M Kd.string _ _ _ t319 [.string t319] from rfl) (Reps.none _ _))); intro v322 w93 ho94 hb hg_ hnew_; clear hg_ hnew_; (first | rw [← Ny321.out] at ho94 | (simp only [Int.reduceToNat] at ho94; rw [← Ny321.out] at ho94)); have n0_ := Aside0.mk (Kd.R_elder' (by (with_reducible repeat (first | apply Kd.R_alloc | apply Kd.R_drewN | apply Kd.R_drew)); exact HO314.out) (Kd.R_base ho94) hb); have n1_ := Aside0.mk (Kd.R_lower (Kd.R_new' ho94 (Kd.R_lt (by (with_reducible repeat (first | apply Kd.R_alloc | apply Kd.R_drewN | apply Kd.R_drew)); exact HO314.out))) (below_size (by repeat (first | (with_reducible first | exact HB.out | apply below_alloc | apply pw_below_drewN | apply below_drew1) | exact HB.out)))); have n2_ := Aside0.mk (below_step (by repeat (first | (with_reducible first | exact HB.out | apply below_alloc | apply pw_below_drewN | apply below_drew1) | exact HB.out)) hb); clear HO314; clear HB; have HO314 := n0_; have HO323 := n1_; have HB := n2_; clear n0_ n1_ n2_; clear hb ho94; obtain ⟨Ao95, co95, eo95⟩ := Kd.R_slice HO323.out; subst eo95) | ((with_reducible refine gate_callee (f := 17) rfl ?_); refine goesL_ (some 92) rfl rfl Try.func17 (by kernel_rfl) rfl #[.slice Ao95 y321.length co95, .string t305] rfl (by (try simp only [List.map_toArray, List.map_cons, List.map_nil]); first | done | rfl | (simp only [List.length_drop, List.length_take]; rfl)) ?_; (with_reducible refine (closure_Derives.calls _ _ y321 t305 t324 t325 _ ?side1 ?side2 A25.out).mono ?_); (case side1 => repeat (first | exact (Kd.R_reads' HO323.out).2.2 | (with_reducible refine Kd.C_alloc ?_ _) | (with_reducible refine Kd.C_drewN ?_ _) | (with_reducible refine Kd.C_drew ?_))); (case side2 => exact (Kd.R_reads' HO323.out).2.1); rintro e w96 ⟨rfl, hb⟩; refine ⟨_, rfl, ?_⟩; have n0_ := Aside0.mk (Kd.R_below (by (with_reducible repeat (first | apply Kd.R_alloc | apply Kd.R_drewN | apply Kd.R_drew)); exact HO314.out) hb); have n1_ := Aside0.mk (Kd.R_below (by (with_reducible repeat (first | apply Kd.R_alloc | apply Kd.R_drewN | apply Kd.R_drew)); exact HO323.out) hb); have n2_ := Aside0.mk (below_step (by repeat (first | (with_reducible first | exact HB.out | apply below_alloc | apply pw_below_drewN | apply below_drew1) | exact HB.out)) hb); clear HO314; clear HO323; clear HB; have HO314 := n0_; have HO323 := n1_; have HB := n2_; clear n0_ n1_ n2_; (try clear hb); (try clear hb2); (try clear hk); (try clear hi)))
            go_ret
            exact ⟨by first | rfl | (simp [errW_none, errW_some] <;> rfl) | (simp [*, errW_none, errW_some] <;> rfl), by repeat (first | (with_reducible first | exact HB.out | apply below_alloc | apply pw_below_drewN | apply below_drew1) | exact HB.out)⟩
  · replace c5 := Bool.eq_false_iff.mpr c5
    subst c5
    have H1 : (some false) = some r := by rw [if_neg (show ¬ (false = true) by decide)] at H; exact H
    clear H
    have H := H1
    clear H1
    obtain rfl := Option.some.inj H
    go_enter Try.func11, Try.ntmps11
    go_wp2_with (first | ((with_reducible refine gate_callee (f := 35) rfl ?_); refine goesL_ (some 27) rfl rfl Try.func35 (by kernel_rfl) rfl #[] rfl (by (try simp only [List.map_toArray, List.map_cons, List.map_nil]); first | done | rfl | (simp only [List.length_drop, List.length_take]; rfl)) ?_; (with_reducible refine (letterlocklaw6_shown.calls k  false _ A4.out).mono ?_); rintro e w97 ⟨rfl, hb⟩; refine ⟨_, rfl, ?_⟩; have n0_ := Aside0.mk (below_step (by repeat (first | (with_reducible first | exact HB.out | apply below_alloc | apply pw_below_drewN | apply below_drew1) | exact HB.out)) hb); clear HB; have HB := n0_; clear n0_; (try clear hb); (try clear hb2); (try clear hk); (try clear hi)))
    go_ret
    exact ⟨by first | rfl | (simp [errW_none, errW_some] <;> rfl) | (simp [*, errW_none, errW_some] <;> rfl), by repeat (first | (with_reducible first | exact HB.out | apply below_alloc | apply pw_below_drewN | apply below_drew1) | exact HB.out)⟩

/-- THE ONE PURE STATEMENT of letterlocklaw6_RegressHides: yours. -/
def letterlocklaw6_RegressHides.Pure : Prop := ∀ (a0 : Int) (a1 : Int) (a2 : Int), (Lit.int .u64 a0).wf = true → (Lit.int .i64 a1).wf = true → (Lit.int .i64 a2).wf = true → ∃ k, letterlocklaw6_RegressHides.f k a0 a1 a2 = some true
theorem letterlocklaw6_RegressHides.walk (P : letterlocklaw6_RegressHides.Pure) (a0 : Int) (a1 : Int) (a2 : Int) (w : World) (w0 : (Lit.int .u64 a0).wf = true) (w1 : (Lit.int .i64 a1).wf = true) (w2 : (Lit.int .i64 a2).wf = true) :
    Calls Try.prog 11 #[.int .u64 a0, .int .i64 a1, .int .i64 a2] w fun e w' => e = .returned (.bool true) ∧ Below w.heap.size w w' := by
  obtain ⟨k, h⟩ := P a0 a1 a2 w0 w1 w2
  refine (letterlocklaw6_RegressHides.calls k a0 a1 a2 true w h).mono ?_
  rintro e w' ⟨rfl, hd⟩
  exact ⟨rfl, hd⟩

end Go.Proofs.Ytnieihhnchefdaa.PA
