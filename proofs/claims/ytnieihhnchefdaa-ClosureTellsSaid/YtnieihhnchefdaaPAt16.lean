-- printed by a program of this session (a copy of print.py that takes stubs) out of the translation; Lean checks it
import Derived.Test.YtnieihhnchefdaaPAt0
import Derived.Test.YtnieihhnchefdaaPAt14
import Derived.Test.YtnieihhnchefdaaPAt15
namespace Go.Proofs.Ytnieihhnchefdaa.PA
open Go.RowKit Go.Proofs.YtnieihhnchefdaaW.PrintWords Go.Proofs.YtnieihhnchefdaaW.PrintLast Go.Proofs.YtnieihhnchefdaaW.PrintMore
attribute [local go_sem] max2_int min2_int max_two min_two max_three min_three max_four min_four   -- for this text's walks alone
set_option linter.unusedVariables false
set_option linter.unusedSimpArgs false

/-! ### letterlockref4_had: function 51 -/
mutual
def letterlockref4_had.l0 : Nat → List ByteArray → List ByteArray → Int → Option (List ByteArray)
 | 0, _, _, _ => none
 | k + 1, x0, x3, x4 => if x4 < (x0.length : Int) then (if 0 ≤ x4 then ((letterlockref4_has.f k x3 (rdOf ByteArray.empty x0 x4)).bind fun t625 => (if t625 = true then (letterlockref4_had.l0 k x0 x3 (wrap64 (x4 + 1))) else (if x3.length < 8796093022208 then (letterlockref4_had.l0 k x0 (x3 ++ [rdOf ByteArray.empty x0 x4]) (wrap64 (x4 + 1))) else (none)))) else (none)) else (letterlockref4_had.l1 k x3 true)
def letterlockref4_had.l1 : Nat → List ByteArray → Bool → Option (List ByteArray)
 | 0, _, _ => none
 | k + 1, x3, x5 => if x5 = true then (letterlockref4_had.l2 k x3 false 0) else (some x3)
def letterlockref4_had.l2 : Nat → List ByteArray → Bool → Int → Option (List ByteArray)
 | 0, _, _, _ => none
 | k + 1, x3, x5, x6 => if x6 < (x3.length : Int) then (if 0 ≤ x6 then ((letterlockref4_gives.f k x3 (rdOf ByteArray.empty x3 x6)).bind fun t631 => (letterlockref4_had.l3 k x3 x5 x6 t631 0)) else (none)) else (letterlockref4_had.l1 k x3 x5)
def letterlockref4_had.l3 : Nat → List ByteArray → Bool → Int → List ByteArray → Int → Option (List ByteArray)
 | 0, _, _, _, _, _ => none
 | k + 1, x3, x5, x6, x7, x8 => if x8 < (x7.length : Int) then (if 0 ≤ x8 then ((letterlockref4_has.f k x3 (rdOf ByteArray.empty x7 x8)).bind fun t635 => (if t635 = true then (letterlockref4_had.l3 k x3 x5 x6 x7 (wrap64 (x8 + 1))) else (if x3.length < 8796093022208 then (letterlockref4_had.l3 k (x3 ++ [rdOf ByteArray.empty x7 x8]) true x6 x7 (wrap64 (x8 + 1))) else (none)))) else (none)) else (letterlockref4_had.l2 k x3 x5 (wrap64 (x6 + 1)))
end
def letterlockref4_had.f (k : Nat) (l0 : List ByteArray) : Option (List ByteArray) := letterlockref4_had.l0 k l0 ([] : List ByteArray) 0
theorem letterlockref4_had.mono_l : ∀ k, (∀ y0 y1 y2, LeO (letterlockref4_had.l0 k y0 y1 y2) (letterlockref4_had.l0 (k + 1) y0 y1 y2)) ∧ (∀ y0 y1, LeO (letterlockref4_had.l1 k y0 y1) (letterlockref4_had.l1 (k + 1) y0 y1)) ∧ (∀ y0 y1 y2, LeO (letterlockref4_had.l2 k y0 y1 y2) (letterlockref4_had.l2 (k + 1) y0 y1 y2)) ∧ (∀ y0 y1 y2 y3 y4, LeO (letterlockref4_had.l3 k y0 y1 y2 y3 y4) (letterlockref4_had.l3 (k + 1) y0 y1 y2 y3 y4))
 | 0 => ⟨fun _ _ _ r h => by simp [letterlockref4_had.l0] at h, fun _ _ r h => by simp [letterlockref4_had.l1] at h, fun _ _ _ r h => by simp [letterlockref4_had.l2] at h, fun _ _ _ _ _ r h => by simp [letterlockref4_had.l3] at h⟩
 | k + 1 => by
  obtain ⟨ih0, ih1, ih2, ih3⟩ := letterlockref4_had.mono_l k
  refine ⟨?_, ?_, ?_, ?_⟩
  ·intro y0 y1 y2
   unfold letterlockref4_had.l0
   repeat' first
   | (with_reducible exact ih0 _ _ _)
   | (with_reducible exact ih1 _ _)
   | (with_reducible exact ih2 _ _ _)
   | (with_reducible exact ih3 _ _ _ _ _)
   | (with_reducible exact letterlockref4_gives.mono _ _ _)
   | (with_reducible exact letterlockref4_has.mono _ _ _)
   | (with_reducible exact LeO.refl _)
   | (with_reducible exact LeO.none _)
   | (with_reducible refine LeO.ite ?_ ?_)
   | (with_reducible refine LeO.bind ?_ (fun _ => ?_))
   | exact ih0 _ _ _
   | exact ih1 _ _
   | exact ih2 _ _ _
   | exact ih3 _ _ _ _ _
   | exact letterlockref4_gives.mono _ _ _
   | exact letterlockref4_has.mono _ _ _
   | exact LeO.none _
   | refine LeO.ite ?_ ?_
   | refine LeO.bind ?_ (fun _ => ?_)
  ·intro y0 y1
   unfold letterlockref4_had.l1
   repeat' first
   | (with_reducible exact ih0 _ _ _)
   | (with_reducible exact ih1 _ _)
   | (with_reducible exact ih2 _ _ _)
   | (with_reducible exact ih3 _ _ _ _ _)
   | (with_reducible exact letterlockref4_gives.mono _ _ _)
   | (with_reducible exact letterlockref4_has.mono _ _ _)
   | (with_reducible exact LeO.refl _)
   | (with_reducible exact LeO.none _)
   | (with_reducible refine LeO.ite ?_ ?_)
   | (with_reducible refine LeO.bind ?_ (fun _ => ?_))
   | exact ih0 _ _ _
   | exact ih1 _ _
   | exact ih2 _ _ _
   | exact ih3 _ _ _ _ _
   | exact letterlockref4_gives.mono _ _ _
   | exact letterlockref4_has.mono _ _ _
   | exact LeO.none _
   | refine LeO.ite ?_ ?_
   | refine LeO.bind ?_ (fun _ => ?_)
  ·intro y0 y1 y2
   unfold letterlockref4_had.l2
   repeat' first
   | (with_reducible exact ih0 _ _ _)
   | (with_reducible exact ih1 _ _)
   | (with_reducible exact ih2 _ _ _)
   | (with_reducible exact ih3 _ _ _ _ _)
   | (with_reducible exact letterlockref4_gives.mono _ _ _)
   | (with_reducible exact letterlockref4_has.mono _ _ _)
   | (with_reducible exact LeO.refl _)
   | (with_reducible exact LeO.none _)
   | (with_reducible refine LeO.ite ?_ ?_)
   | (with_reducible refine LeO.bind ?_ (fun _ => ?_))
   | exact ih0 _ _ _
   | exact ih1 _ _
   | exact ih2 _ _ _
   | exact ih3 _ _ _ _ _
   | exact letterlockref4_gives.mono _ _ _
   | exact letterlockref4_has.mono _ _ _
   | exact LeO.none _
   | refine LeO.ite ?_ ?_
   | refine LeO.bind ?_ (fun _ => ?_)
  ·intro y0 y1 y2 y3 y4
   unfold letterlockref4_had.l3
   repeat' first
   | (with_reducible exact ih0 _ _ _)
   | (with_reducible exact ih1 _ _)
   | (with_reducible exact ih2 _ _ _)
   | (with_reducible exact ih3 _ _ _ _ _)
   | (with_reducible exact letterlockref4_gives.mono _ _ _)
   | (with_reducible exact letterlockref4_has.mono _ _ _)
   | (with_reducible exact LeO.refl _)
   | (with_reducible exact LeO.none _)
   | (with_reducible refine LeO.ite ?_ ?_)
   | (with_reducible refine LeO.bind ?_ (fun _ => ?_))
   | exact ih0 _ _ _
   | exact ih1 _ _
   | exact ih2 _ _ _
   | exact ih3 _ _ _ _ _
   | exact letterlockref4_gives.mono _ _ _
   | exact letterlockref4_has.mono _ _ _
   | exact LeO.none _
   | refine LeO.ite ?_ ?_
   | refine LeO.bind ?_ (fun _ => ?_)
theorem letterlockref4_had.mono : ∀ a0 k, LeO (letterlockref4_had.f k a0) (letterlockref4_had.f (k + 1) a0) := by
 intro a0 k
 obtain ⟨ih0, ih1, ih2, ih3⟩ := letterlockref4_had.mono_l k
 unfold letterlockref4_had.f
 repeat' first
   | (with_reducible exact ih0 _ _ _)
   | (with_reducible exact ih1 _ _)
   | (with_reducible exact ih2 _ _ _)
   | (with_reducible exact ih3 _ _ _ _ _)
   | (with_reducible exact letterlockref4_gives.mono _ _ _)
   | (with_reducible exact letterlockref4_has.mono _ _ _)
   | (with_reducible exact LeO.refl _)
   | (with_reducible exact LeO.none _)
   | (with_reducible refine LeO.ite ?_ ?_)
   | (with_reducible refine LeO.bind ?_ (fun _ => ?_))
   | exact ih0 _ _ _
   | exact ih1 _ _
   | exact ih2 _ _ _
   | exact ih3 _ _ _ _ _
   | exact letterlockref4_gives.mono _ _ _
   | exact letterlockref4_has.mono _ _ _
   | exact LeO.none _
   | refine LeO.ite ?_ ?_
   | refine LeO.bind ?_ (fun _ => ?_)
set_option maxHeartbeats 8000000 in
set_option maxRecDepth 100000 in
theorem letterlockref4_had.calls (k : Nat) (A0 : Option Addr) (c0 : Nat) (l0 : List ByteArray) (r : List ByteArray) (w : World) (hr0 : Kd.C Kd.string w A0 l0.length l0) (hc0 : l0.length ≤ c0) (h : letterlockref4_had.f k l0 = some r) :
  Calls Try.prog 51 #[.slice A0 l0.length c0] w fun e w' => ∃ v0_ : Value, e = .returned (v0_) ∧ Kd.R Kd.string 9 w' w.heap.size (fun _ => True) v0_ r ∧ Below w.heap.size w w' := by
 have HR0 := Aside0.mk hr0
 have HC0 := Aside0.mk hc0
 clear hr0 hc0
 have HB := Aside0.mk (Below.refl w.heap.size w)
 have H : (letterlockref4_had.l0 k l0 ([] : List ByteArray) 0) = some r := h
 clear h
 have H' := Aside0.mk H
 clear H
 go_enter Try.func51, Try.ntmps51
 go_wp2
 go_loopg [3, 4] k (fun kq v3 v4 w' => ∃ (x3_1 : List ByteArray) (x4_1 : Int), v4 = .int .i64 x4_1 ∧ Aside0 (letterlockref4_had.l0 kq l0 x3_1 x4_1 = some r) ∧ Aside0 (kq ≤ k) ∧ Aside0 (Kd.R Kd.string 9 w' w.heap.size (fun _ => True) v3 x3_1) ∧ Aside0 (Below w.heap.size w w'))
 case atStart => exact ⟨(([] : List ByteArray)), (0), (by first | rfl | (simp; done) | (simp [*]; done)), H', ⟨Nat.le_refl _⟩, ⟨by first | exact Kd.R_nil _ _ _ _ _ | exact Kd.N_nil _ _ _ _ _ | exact Kd.V_nil _ _ _ _ _ | exact Kd.Q_nil _ _ _ _ _ | exact Kd.S_nil _ _ _ _ _⟩, ⟨by repeat (first | (with_reducible first | exact HB.out | apply below_alloc | apply pw_below_drewN | apply below_drew1) | exact HB.out)⟩⟩
 case round =>
  clear H'
  obtain ⟨x3_1, x4_1, rfl, HA, HK1, HO_3, HB⟩ := hrel
  cases gk with
  | zero => exact absurd HA.out (by simp [letterlockref4_had.l0])
  | succ k1 =>
   have H := HA.out
   clear HA
   simp only [letterlockref4_had.l0] at H
   by_cases c2 : x4_1 < (l0.length : Int)
   ·rw [if_pos c2] at H
    have c2b0 : decide (x4_1 < (l0.length : Int)) = true := decide_eq_true c2
    clear c2
    by_cases c3 : 0 ≤ x4_1
    ·rw [if_pos c3] at H
     have c3b0 : decide (0 ≤ x4_1) = true := decide_eq_true c3
     clear c3
     replace H := Option.bind_eq_some_iff.mp H
     obtain ⟨t625, A40, H⟩ := H
     replace H : (if t625 = true then (letterlockref4_had.l0 k1 l0 x3_1 (wrap64 (x4_1 + 1))) else (if x3_1.length < 8796093022208 then (letterlockref4_had.l0 k1 l0 (x3_1 ++ [rdOf ByteArray.empty l0 x4_1]) (wrap64 (x4_1 + 1))) else (none))) = some r := H
     have A4 := Aside0.mk A40
     clear A40
     by_cases c5 : t625 = true
     ·subst c5
      have H1 : (letterlockref4_had.l0 k1 l0 x3_1 (wrap64 (x4_1 + 1))) = some r := by rw [if_pos rfl] at H; exact H
      clear H
      have H := H1
      clear H1
      have H' := Aside0.mk H
      clear H
      have p624 : 0 ≤ (x4_1 : Int) := of_decide_eq_true (by first | (with_reducible assumption) | assumption)
      have q624 : x4_1 < (l0.length : Int) := of_decide_eq_true (by first | (with_reducible assumption) | assumption)
      obtain ⟨ad624, e624, hx624_0⟩ := Kd.at_string HR0.out x4_1 p624 q624
      cases e624
      replace hx624_0 := (HB.out.cell (World.block_lt_of_cell? w _ hx624_0)).trans hx624_0
      replace p624 := eq_true p624
      replace q624 := eq_true q624
      obtain ⟨Ao6, co6, eo6⟩ := Kd.R_slice HO_3.out
      subst eo6
      go_wp2_with (first | ((with_reducible refine gate_callee (f := 74) rfl ?_); refine goesL_ (some 20) rfl rfl Try.func74 (by kernel_rfl) rfl #[.slice Ao6 x3_1.length co6, .string (rdOf ByteArray.empty l0 x4_1)] rfl (by (try simp only [List.map_toArray, List.map_cons, List.map_nil]); first | done | rfl | (simp only [List.length_drop, List.length_take]; rfl)) ?_; (with_reducible refine (letterlockref4_has.calls k1 _ _ x3_1 (rdOf ByteArray.empty l0 x4_1) true _ ?side1 ?side2 A4.out).mono ?_); (case side1 => repeat (first | exact (Kd.R_reads' HO_3.out).2.2 | (with_reducible refine Kd.C_alloc ?_ _) | (with_reducible refine Kd.C_drewN ?_ _) | (with_reducible refine Kd.C_drew ?_))); (case side2 => exact (Kd.R_reads' HO_3.out).2.1); rintro e w' ⟨rfl, ⟨nd, rfl⟩⟩; refine ⟨_, rfl, ?_⟩))
      go_roundg k1
      case measure => have := HK1.out; omega
      case rel => exact ⟨(x3_1), (wrap64 (x4_1 + 1)), (by first | rfl | (simp; done) | (simp [*]; done)), H', ⟨by have := HK1.out; omega⟩, ⟨by (with_reducible repeat (first | apply Kd.R_alloc | apply Kd.R_drewN | apply Kd.R_drew)); exact HO_3.out⟩, ⟨by repeat (first | (with_reducible first | exact HB.out | apply below_alloc | apply pw_below_drewN | apply below_drew1) | exact HB.out)⟩⟩
     ·replace c5 := Bool.eq_false_iff.mpr c5
      subst c5
      have H1 : (if x3_1.length < 8796093022208 then (letterlockref4_had.l0 k1 l0 (x3_1 ++ [rdOf ByteArray.empty l0 x4_1]) (wrap64 (x4_1 + 1))) else (none)) = some r := by rw [if_neg (show ¬ (false = true) by decide)] at H; exact H
      clear H
      have H := H1
      clear H1
      by_cases c7 : x3_1.length < 8796093022208
      ·rw [if_pos c7] at H
       have LMc7 := Aside0.mk c7
       clear c7
       obtain ⟨y627, hy627⟩ : ∃ y_ : List ByteArray, y_ = (x3_1 ++ [rdOf ByteArray.empty l0 x4_1]) := ⟨_, rfl⟩
       replace H : (letterlockref4_had.l0 k1 l0 y627 (wrap64 (x4_1 + 1))) = some r := by first | (rw [hy627]; with_reducible exact H) | (have H2_ := (Option.bind_some _ _).symm.trans H; rw [hy627]; with_reducible exact H2_) | (have H2_ := (Option.bind_some _ _).symm.trans H; with_reducible exact H2_) | with_reducible exact H | (rw [hy627]; exact H) | exact H
       have Ny627 := Aside0.mk hy627
       clear hy627
       have H' := Aside0.mk H
       clear H
       have p624 : 0 ≤ (x4_1 : Int) := of_decide_eq_true (by first | (with_reducible assumption) | assumption)
       have q624 : x4_1 < (l0.length : Int) := of_decide_eq_true (by first | (with_reducible assumption) | assumption)
       obtain ⟨ad624, e624, hx624_0⟩ := Kd.at_string HR0.out x4_1 p624 q624
       cases e624
       replace hx624_0 := (HB.out.cell (World.block_lt_of_cell? w _ hx624_0)).trans hx624_0
       replace p624 := eq_true p624
       replace q624 := eq_true q624
       obtain ⟨Ao8, co8, eo8⟩ := Kd.R_slice HO_3.out
       subst eo8
       go_wp2_with (first | ((with_reducible refine gate_callee (f := 74) rfl ?_); refine goesL_ (some 20) rfl rfl Try.func74 (by kernel_rfl) rfl #[.slice Ao8 x3_1.length co8, .string (rdOf ByteArray.empty l0 x4_1)] rfl (by (try simp only [List.map_toArray, List.map_cons, List.map_nil]); first | done | rfl | (simp only [List.length_drop, List.length_take]; rfl)) ?_; (with_reducible refine (letterlockref4_has.calls k1 _ _ x3_1 (rdOf ByteArray.empty l0 x4_1) false _ ?side1 ?side2 A4.out).mono ?_); (case side1 => repeat (first | exact (Kd.R_reads' HO_3.out).2.2 | (with_reducible refine Kd.C_alloc ?_ _) | (with_reducible refine Kd.C_drewN ?_ _) | (with_reducible refine Kd.C_drew ?_))); (case side2 => exact (Kd.R_reads' HO_3.out).2.1); rintro e w' ⟨rfl, ⟨nd, rfl⟩⟩; refine ⟨_, rfl, ?_⟩; have p626 : 0 ≤ (x4_1 : Int) := of_decide_eq_true (by first | (with_reducible assumption) | assumption); have q626 : x4_1 < (l0.length : Int) := of_decide_eq_true (by first | (with_reducible assumption) | assumption); obtain ⟨ad626, e626, hx626_0⟩ := Kd.at_string HR0.out x4_1 p626 q626; obtain rfl : ad624 = ad626 := (by injection e626); replace hx626_0 := (HB.out.cell (World.block_lt_of_cell? w _ hx626_0)).trans hx626_0; replace p626 := eq_true p626; replace q626 := eq_true q626) | ((with_reducible refine gate_builtin (b := .append) (xs := #[.tmp 22, .tmp 27]) rfl ?_); at_builtin; refine Kd.R_append Kd.string (w0 := w) w.heap.size rfl (.tmp 22) (.tmp 27) 31 9 (.string ⟨#[]⟩) 16 rfl Try.underlying31 info9 rfl (by decide) (by omega) (.slice Ao8 x3_1.length co8) x3_1 (rdOf ByteArray.empty l0 x4_1) [.string (rdOf ByteArray.empty l0 x4_1)] (fun _ => True) (fun _ => False) rfl rfl ?aP (fun _ hk => hk.elim) ?aF ?aO ?aB ?aS ?aL ?_; (case aP => exact rfl); (case aB => exact (by repeat (first | (with_reducible first | exact HB.out | apply below_alloc | apply pw_below_drewN | apply below_drew1) | exact HB.out))); (case aF => exact (fun _ _ => trivial)); (case aO => exact (by (with_reducible repeat (first | apply Kd.R_alloc | apply Kd.R_drewN | apply Kd.R_drew)); exact HO_3.out)); (case aS => exact (below_size (by repeat (first | (with_reducible first | exact HB.out | apply below_alloc | apply pw_below_drewN | apply below_drew1) | exact HB.out)))); (case aL => have := LMc7.out; omega); intro v628 w9 ho hb hg hat; rw [← Ny627.out] at ho; have n0_ := Aside0.mk (hb); have n1_ := Aside0.mk (ho); clear HB; clear HO_3; have HB := n0_; have HO629 := n1_; clear n0_ n1_; clear ho hb hg hat))
       go_roundg k1
       case measure => have := HK1.out; omega
       case rel => exact ⟨(y627), (wrap64 (x4_1 + 1)), (by first | rfl | (simp; done) | (simp [*]; done)), H', ⟨by have := HK1.out; omega⟩, ⟨by (with_reducible repeat (first | apply Kd.R_alloc | apply Kd.R_drewN | apply Kd.R_drew)); exact HO629.out⟩, ⟨by repeat (first | (with_reducible first | exact HB.out | apply below_alloc | apply pw_below_drewN | apply below_drew1) | exact HB.out)⟩⟩
      ·rw [if_neg c7] at H
       exact absurd H (by simp)
    ·rw [if_neg c3] at H
     exact absurd H (by simp)
   ·rw [if_neg c2] at H
    have c2b0 : decide (x4_1 < (l0.length : Int)) = false := decide_eq_false c2
    clear c2
    have H' := Aside0.mk H
    clear H
    go_wp2
    go_loopg [3, 5] k1 (fun kq v3 v5 w' => ∃ (x3_2 : List ByteArray) (x5_2 : Bool), v5 = .bool x5_2 ∧ Aside0 (letterlockref4_had.l1 kq x3_2 x5_2 = some r) ∧ Aside0 (kq ≤ k1) ∧ Aside0 (Kd.R Kd.string 9 w' w.heap.size (fun _ => True) v3 x3_2) ∧ Aside0 (Below w.heap.size w w'))
    case atStart => exact ⟨(x3_1), (true), (by first | rfl | (simp; done) | (simp [*]; done)), H', ⟨Nat.le_refl _⟩, ⟨by (with_reducible repeat (first | apply Kd.R_alloc | apply Kd.R_drewN | apply Kd.R_drew)); exact HO_3.out⟩, ⟨by repeat (first | (with_reducible first | exact HB.out | apply below_alloc | apply pw_below_drewN | apply below_drew1) | exact HB.out)⟩⟩
    case round =>
     clear H'
     try clear c2
     try clear c2b0
     try clear p2
     try clear c3
     try clear c3b0
     try clear c5
     try clear p6
     try clear q6
     try clear hx6
     try clear c7
     try clear hx624_0
     try clear hx626_0
     try clear p624
     try clear p626
     try clear q624
     try clear q626
     obtain ⟨x3_2, x5_2, rfl, HA, HK2, HO_3, HB⟩ := hrel
     cases gk with
     | zero => exact absurd HA.out (by simp [letterlockref4_had.l1])
     | succ k2 =>
      have H := HA.out
      clear HA
      simp only [letterlockref4_had.l1] at H
      by_cases c10 : x5_2 = true
      ·subst c10
       have H1 : (letterlockref4_had.l2 k2 x3_2 false 0) = some r := by rw [if_pos rfl] at H; exact H
       clear H
       have H := H1
       clear H1
       have H' := Aside0.mk H
       clear H
       go_wp2
       go_loopg [3, 5, 6] k2 (fun kq v3 v5 v6 w' => ∃ (x3_3 : List ByteArray) (x5_3 : Bool) (x6_3 : Int), v5 = .bool x5_3 ∧ v6 = .int .i64 x6_3 ∧ Aside0 (letterlockref4_had.l2 kq x3_3 x5_3 x6_3 = some r) ∧ Aside0 (kq ≤ k2) ∧ Aside0 (Kd.R Kd.string 9 w' w.heap.size (fun _ => True) v3 x3_3) ∧ Aside0 (Below w.heap.size w w'))
       case atStart => exact ⟨(x3_2), (false), (0), (by first | rfl | (simp; done) | (simp [*]; done)), (by first | rfl | (simp; done) | (simp [*]; done)), H', ⟨Nat.le_refl _⟩, ⟨by (with_reducible repeat (first | apply Kd.R_alloc | apply Kd.R_drewN | apply Kd.R_drew)); exact HO_3.out⟩, ⟨by repeat (first | (with_reducible first | exact HB.out | apply below_alloc | apply pw_below_drewN | apply below_drew1) | exact HB.out)⟩⟩
       case round =>
        clear H'
        try clear c1
        try clear c2
        try clear c2b0
        try clear p2
        try clear c3
        try clear c3b0
        try clear c5
        try clear p6
        try clear q6
        try clear hx6
        try clear c7
        try clear c10
        try clear hx624_0
        try clear hx626_0
        try clear p2
        try clear p6
        try clear p624
        try clear p626
        try clear q6
        try clear q624
        try clear q626
        obtain ⟨x3_3, x5_3, x6_3, rfl, rfl, HA, HK3, HO_3, HB⟩ := hrel
        cases gk with
        | zero => exact absurd HA.out (by simp [letterlockref4_had.l2])
        | succ k3 =>
         have H := HA.out
         clear HA
         simp only [letterlockref4_had.l2] at H
         by_cases c11 : x6_3 < (x3_3.length : Int)
         ·rw [if_pos c11] at H
          have c11b0 : decide (x6_3 < (x3_3.length : Int)) = true := decide_eq_true c11
          clear c11
          by_cases c12 : 0 ≤ x6_3
          ·rw [if_pos c12] at H
           have c12b0 : decide (0 ≤ x6_3) = true := decide_eq_true c12
           clear c12
           replace H := Option.bind_eq_some_iff.mp H
           obtain ⟨t631, A130, H⟩ := H
           replace H : (letterlockref4_had.l3 k3 x3_3 x5_3 x6_3 t631 0) = some r := H
           have A13 := Aside0.mk A130
           clear A130
           have H' := Aside0.mk H
           clear H
           obtain ⟨Ao14, co14, eo14⟩ := Kd.R_slice HO_3.out
           subst eo14
           have p630 : 0 ≤ (x6_3 : Int) := of_decide_eq_true (by first | (with_reducible assumption) | assumption)
           have q630 : x6_3 < (x3_3.length : Int) := of_decide_eq_true (by first | (with_reducible assumption) | assumption)
           obtain ⟨ad630, e630, hx630_0⟩ := Kd.at_string (Kd.R_reads' HO_3.out).2.2 x6_3 p630 q630
           cases e630
           replace p630 := eq_true p630
           replace q630 := eq_true q630
           go_wp2_with (first | ((with_reducible refine gate_callee (f := 75) rfl ?_); refine goesL_ (some 41) rfl rfl Try.func75 (by kernel_rfl) rfl #[.slice (some ad630) x3_3.length co14, .string (rdOf ByteArray.empty x3_3 x6_3)] rfl (by (try simp only [List.map_toArray, List.map_cons, List.map_nil]); first | done | rfl | (simp only [List.length_drop, List.length_take]; rfl)) ?_; (with_reducible refine (letterlockref4_gives.calls k3 _ _ x3_3 (rdOf ByteArray.empty x3_3 x6_3) t631 _ ?side1 ?side2 A13.out).mono ?_); (case side1 => repeat (first | exact (Kd.R_reads' HO_3.out).2.2 | (with_reducible refine Kd.C_alloc ?_ _) | (with_reducible refine Kd.C_drewN ?_ _) | (with_reducible refine Kd.C_drew ?_))); (case side2 => exact (Kd.R_reads' HO_3.out).2.1); rintro e w15 ⟨v632, rfl, ho0, hb⟩; refine ⟨_, rfl, ?_⟩; have n0_ := Aside0.mk (Kd.R_elder' (by (with_reducible repeat (first | apply Kd.R_alloc | apply Kd.R_drewN | apply Kd.R_drew)); exact HO_3.out) (Kd.Q_base ho0) hb); have n1_ := Aside0.mk (Kd.Q_lower (Kd.Q_new' ho0 (Kd.R_lt (by (with_reducible repeat (first | apply Kd.R_alloc | apply Kd.R_drewN | apply Kd.R_drew)); exact HO_3.out))) (below_size (by repeat (first | (with_reducible first | exact HB.out | apply below_alloc | apply pw_below_drewN | apply below_drew1) | exact HB.out)))); have n2_ := Aside0.mk (below_step (by repeat (first | (with_reducible first | exact HB.out | apply below_alloc | apply pw_below_drewN | apply below_drew1) | exact HB.out)) hb); clear HO_3; clear HB; have HO_3 := n0_; have HO633 := n1_; have HB := n2_; clear n0_ n1_ n2_; (try clear hb); (try clear hb2); (try clear hk); (try clear hi); (try clear ho0)))
           go_loopg [3, 5, 8] k3 (fun kq v3 v5 v8 w' => ∃ (x3_4 : List ByteArray) (x5_4 : Bool) (x8_4 : Int), v5 = .bool x5_4 ∧ v8 = .int .i64 x8_4 ∧ Aside0 (letterlockref4_had.l3 kq x3_4 x5_4 x6_3 t631 x8_4 = some r) ∧ Aside0 (kq ≤ k3) ∧ Aside0 (Kd.R Kd.string 9 w' w.heap.size (fun k_ => some k_ ≠ (v632 : Value).ownBlock) v3 x3_4) ∧ Aside0 (Kd.Q Kd.string 9 w' w.heap.size (fun k_ => some k_ ≠ (v3 : Value).ownBlock) v632 t631) ∧ Aside0 (Below w.heap.size w w'))
           case atStart => exact ⟨(x3_3), (x5_3), (0), (by first | rfl | (simp; done) | (simp [*]; done)), (by first | rfl | (simp; done) | (simp [*]; done)), H', ⟨Nat.le_refl _⟩, ⟨by (with_reducible repeat (first | apply Kd.R_alloc | apply Kd.R_drewN | apply Kd.R_drew)); exact Kd.R_mono HO_3.out (fun _ hk => hk.2)⟩, ⟨by (with_reducible repeat (first | apply Kd.Q_alloc | apply Kd.Q_drewN | apply Kd.Q_drew)); exact Kd.Q_mono HO633.out (fun _ hk => hk.2)⟩, ⟨by repeat (first | (with_reducible first | exact HB.out | apply below_alloc | apply pw_below_drewN | apply below_drew1) | exact HB.out)⟩⟩
           case round =>
            clear H'
            try clear c1
            try clear c2
            try clear c2b0
            try clear p2
            try clear c3
            try clear c3b0
            try clear c5
            try clear p6
            try clear q6
            try clear hx6
            try clear c7
            try clear c10
            try clear c11
            try clear c11b0
            try clear c12
            try clear c12b0
            try clear hx624_0
            try clear hx626_0
            try clear hx630_0
            try clear p2
            try clear p6
            try clear p624
            try clear p626
            try clear p630
            try clear q6
            try clear q624
            try clear q626
            try clear q630
            obtain ⟨x3_4, x5_4, x8_4, rfl, rfl, HA, HK4, HO_3, HO_7, HB⟩ := hrel
            cases gk with
            | zero => exact absurd HA.out (by simp [letterlockref4_had.l3])
            | succ k4 =>
             have H := HA.out
             clear HA
             simp only [letterlockref4_had.l3] at H
             by_cases c16 : x8_4 < (t631.length : Int)
             ·rw [if_pos c16] at H
              have c16b0 : decide (x8_4 < (t631.length : Int)) = true := decide_eq_true c16
              clear c16
              by_cases c17 : 0 ≤ x8_4
              ·rw [if_pos c17] at H
               have c17b0 : decide (0 ≤ x8_4) = true := decide_eq_true c17
               clear c17
               replace H := Option.bind_eq_some_iff.mp H
               obtain ⟨t635, A180, H⟩ := H
               replace H : (if t635 = true then (letterlockref4_had.l3 k4 x3_4 x5_4 x6_3 t631 (wrap64 (x8_4 + 1))) else (if x3_4.length < 8796093022208 then (letterlockref4_had.l3 k4 (x3_4 ++ [rdOf ByteArray.empty t631 x8_4]) true x6_3 t631 (wrap64 (x8_4 + 1))) else (none))) = some r := H
               have A18 := Aside0.mk A180
               clear A180
               by_cases c19 : t635 = true
               ·subst c19
                have H1 : (letterlockref4_had.l3 k4 x3_4 x5_4 x6_3 t631 (wrap64 (x8_4 + 1))) = some r := by rw [if_pos rfl] at H; exact H
                clear H
                have H := H1
                clear H1
                have H' := Aside0.mk H
                clear H
                obtain ⟨Ao20, co20, eo20, _⟩ := Kd.Q_slice HO_7.out
                subst eo20
                have p634 : 0 ≤ (x8_4 : Int) := of_decide_eq_true (by first | (with_reducible assumption) | assumption)
                have q634 : x8_4 < (t631.length : Int) := of_decide_eq_true (by first | (with_reducible assumption) | assumption)
                obtain ⟨ad634, e634, hx634_0⟩ := Kd.at_string (Kd.Q_reads' HO_7.out).2.2 x8_4 p634 q634
                cases e634
                replace p634 := eq_true p634
                replace q634 := eq_true q634
                obtain ⟨Ao21, co21, eo21⟩ := Kd.R_slice HO_3.out
                subst eo21
                go_wp2_with (first | ((with_reducible refine gate_callee (f := 74) rfl ?_); refine goesL_ (some 53) rfl rfl Try.func74 (by kernel_rfl) rfl #[.slice Ao21 x3_4.length co21, .string (rdOf ByteArray.empty t631 x8_4)] rfl (by (try simp only [List.map_toArray, List.map_cons, List.map_nil]); first | done | rfl | (simp only [List.length_drop, List.length_take]; rfl)) ?_; (with_reducible refine (letterlockref4_has.calls k4 _ _ x3_4 (rdOf ByteArray.empty t631 x8_4) true _ ?side1 ?side2 A18.out).mono ?_); (case side1 => repeat (first | exact (Kd.R_reads' HO_3.out).2.2 | (with_reducible refine Kd.C_alloc ?_ _) | (with_reducible refine Kd.C_drewN ?_ _) | (with_reducible refine Kd.C_drew ?_))); (case side2 => exact (Kd.R_reads' HO_3.out).2.1); rintro e w' ⟨rfl, ⟨nd, rfl⟩⟩; refine ⟨_, rfl, ?_⟩))
                go_roundg k4
                case measure => have := HK1.out; have := HK2.out; have := HK3.out; have := HK4.out; omega
                case rel => exact ⟨(x3_4), (x5_4), (wrap64 (x8_4 + 1)), (by first | rfl | (simp; done) | (simp [*]; done)), (by first | rfl | (simp; done) | (simp [*]; done)), H', ⟨by have := HK1.out; have := HK2.out; have := HK3.out; have := HK4.out; omega⟩, ⟨by (with_reducible repeat (first | apply Kd.R_alloc | apply Kd.R_drewN | apply Kd.R_drew)); exact HO_3.out⟩, ⟨by (with_reducible repeat (first | apply Kd.Q_alloc | apply Kd.Q_drewN | apply Kd.Q_drew)); exact HO_7.out⟩, ⟨by repeat (first | (with_reducible first | exact HB.out | apply below_alloc | apply pw_below_drewN | apply below_drew1) | exact HB.out)⟩⟩
               ·replace c19 := Bool.eq_false_iff.mpr c19
                subst c19
                have H1 : (if x3_4.length < 8796093022208 then (letterlockref4_had.l3 k4 (x3_4 ++ [rdOf ByteArray.empty t631 x8_4]) true x6_3 t631 (wrap64 (x8_4 + 1))) else (none)) = some r := by rw [if_neg (show ¬ (false = true) by decide)] at H; exact H
                clear H
                have H := H1
                clear H1
                by_cases c22 : x3_4.length < 8796093022208
                ·rw [if_pos c22] at H
                 have LMc22 := Aside0.mk c22
                 clear c22
                 obtain ⟨y637, hy637⟩ : ∃ y_ : List ByteArray, y_ = (x3_4 ++ [rdOf ByteArray.empty t631 x8_4]) := ⟨_, rfl⟩
                 replace H : (letterlockref4_had.l3 k4 y637 true x6_3 t631 (wrap64 (x8_4 + 1))) = some r := by first | (rw [hy637]; with_reducible exact H) | (have H2_ := (Option.bind_some _ _).symm.trans H; rw [hy637]; with_reducible exact H2_) | (have H2_ := (Option.bind_some _ _).symm.trans H; with_reducible exact H2_) | with_reducible exact H | (rw [hy637]; exact H) | exact H
                 have Ny637 := Aside0.mk hy637
                 clear hy637
                 have H' := Aside0.mk H
                 clear H
                 obtain ⟨Ao23, co23, eo23, _⟩ := Kd.Q_slice HO_7.out
                 subst eo23
                 have p634 : 0 ≤ (x8_4 : Int) := of_decide_eq_true (by first | (with_reducible assumption) | assumption)
                 have q634 : x8_4 < (t631.length : Int) := of_decide_eq_true (by first | (with_reducible assumption) | assumption)
                 obtain ⟨ad634, e634, hx634_0⟩ := Kd.at_string (Kd.Q_reads' HO_7.out).2.2 x8_4 p634 q634
                 cases e634
                 replace p634 := eq_true p634
                 replace q634 := eq_true q634
                 obtain ⟨Ao24, co24, eo24⟩ := Kd.R_slice HO_3.out
                 subst eo24
                 go_wp2_with (first | ((with_reducible refine gate_callee (f := 74) rfl ?_); refine goesL_ (some 53) rfl rfl Try.func74 (by kernel_rfl) rfl #[.slice Ao24 x3_4.length co24, .string (rdOf ByteArray.empty t631 x8_4)] rfl (by (try simp only [List.map_toArray, List.map_cons, List.map_nil]); first | done | rfl | (simp only [List.length_drop, List.length_take]; rfl)) ?_; (with_reducible refine (letterlockref4_has.calls k4 _ _ x3_4 (rdOf ByteArray.empty t631 x8_4) false _ ?side1 ?side2 A18.out).mono ?_); (case side1 => repeat (first | exact (Kd.R_reads' HO_3.out).2.2 | (with_reducible refine Kd.C_alloc ?_ _) | (with_reducible refine Kd.C_drewN ?_ _) | (with_reducible refine Kd.C_drew ?_))); (case side2 => exact (Kd.R_reads' HO_3.out).2.1); rintro e w' ⟨rfl, ⟨nd, rfl⟩⟩; refine ⟨_, rfl, ?_⟩; have p636 : 0 ≤ (x8_4 : Int) := of_decide_eq_true (by first | (with_reducible assumption) | assumption); have q636 : x8_4 < (t631.length : Int) := of_decide_eq_true (by first | (with_reducible assumption) | assumption); obtain ⟨ad636, e636, hx636_0⟩ := Kd.at_string (Kd.Q_reads' HO_7.out).2.2 x8_4 p636 q636; obtain rfl : ad634 = ad636 := (by injection e636); replace p636 := eq_true p636; replace q636 := eq_true q636) | ((with_reducible refine gate_builtin (b := .append) (xs := #[.tmp 55, .tmp 60]) rfl ?_); at_builtin; refine Kd.R_append Kd.string (w0 := w) w.heap.size rfl (.tmp 55) (.tmp 60) 31 9 (.string ⟨#[]⟩) 16 rfl Try.underlying31 info9 rfl (by decide) (by omega) (.slice Ao24 x3_4.length co24) x3_4 (rdOf ByteArray.empty t631 x8_4) [.string (rdOf ByteArray.empty t631 x8_4)] (fun k_ => some k_ ≠ (.slice (some ad634) t631.length co23 : Value).ownBlock) (fun _ => False) rfl rfl ?aP (fun _ hk => hk.elim) ?aF ?aO ?aB ?aS ?aL ?_; (case aP => exact rfl); (case aB => exact (by repeat (first | (with_reducible first | exact HB.out | apply below_alloc | apply pw_below_drewN | apply below_drew1) | exact HB.out))); (case aF => exact (fun k_ hk => Kd.fresh' (Kd.Q_lt (by (with_reducible repeat (first | apply Kd.Q_alloc | apply Kd.Q_drewN | apply Kd.Q_drew)); exact HO_7.out)) k_ hk)); (case aO => exact (by (with_reducible repeat (first | apply Kd.R_alloc | apply Kd.R_drewN | apply Kd.R_drew)); exact HO_3.out)); (case aS => exact (below_size (by repeat (first | (with_reducible first | exact HB.out | apply below_alloc | apply pw_below_drewN | apply below_drew1) | exact HB.out)))); (case aL => have := LMc22.out; omega); intro v638 w25 ho hb hg hat; rw [← Ny637.out] at ho; have n0_ := Aside0.mk (Kd.Q_after (ok := (fun _ => True)) (by (with_reducible repeat (first | apply Kd.Q_alloc | apply Kd.Q_drewN | apply Kd.Q_drew)); exact Kd.Q_mono HO_7.out (fun _ hk => ⟨trivial, hk⟩)) hg hat); have n1_ := Aside0.mk (hb); have n2_ := Aside0.mk (ho); clear HO_7; clear HB; clear HO_3; have HO_7 := n0_; have HB := n1_; have HO639 := n2_; clear n0_ n1_ n2_; clear ho hb hg hat))
                 go_roundg k4
                 case measure => have := HK1.out; have := HK2.out; have := HK3.out; have := HK4.out; omega
                 case rel => exact ⟨(y637), (true), (wrap64 (x8_4 + 1)), (by first | rfl | (simp; done) | (simp [*]; done)), (by first | rfl | (simp; done) | (simp [*]; done)), H', ⟨by have := HK1.out; have := HK2.out; have := HK3.out; have := HK4.out; omega⟩, ⟨by (with_reducible repeat (first | apply Kd.R_alloc | apply Kd.R_drewN | apply Kd.R_drew)); exact HO639.out⟩, ⟨by (with_reducible repeat (first | apply Kd.Q_alloc | apply Kd.Q_drewN | apply Kd.Q_drew)); exact Kd.Q_mono HO_7.out (fun _ hk => hk.2)⟩, ⟨by repeat (first | (with_reducible first | exact HB.out | apply below_alloc | apply pw_below_drewN | apply below_drew1) | exact HB.out)⟩⟩
                ·rw [if_neg c22] at H
                 exact absurd H (by simp)
              ·rw [if_neg c17] at H
               exact absurd H (by simp)
             ·rw [if_neg c16] at H
              have c16b0 : decide (x8_4 < (t631.length : Int)) = false := decide_eq_false c16
              clear c16
              have H' := Aside0.mk H
              clear H
              obtain ⟨Ao26, co26, eo26, _⟩ := Kd.Q_slice HO_7.out
              subst eo26
              go_wp2
              go_roundg k4
              case measure => have := HK1.out; have := HK2.out; have := HK3.out; have := HK4.out; omega
              case rel => exact ⟨(x3_4), (x5_4), (wrap64 (x6_3 + 1)), (by first | rfl | (simp; done) | (simp [*]; done)), (by first | rfl | (simp; done) | (simp [*]; done)), H', ⟨by have := HK1.out; have := HK2.out; have := HK3.out; have := HK4.out; omega⟩, ⟨by (with_reducible repeat (first | apply Kd.R_alloc | apply Kd.R_drewN | apply Kd.R_drew)); exact Kd.R_mono HO_3.out (fun _ hk => trivial)⟩, ⟨by repeat (first | (with_reducible first | exact HB.out | apply below_alloc | apply pw_below_drewN | apply below_drew1) | exact HB.out)⟩⟩
          ·rw [if_neg c12] at H
           exact absurd H (by simp)
         ·rw [if_neg c11] at H
          have c11b0 : decide (x6_3 < (x3_3.length : Int)) = false := decide_eq_false c11
          clear c11
          have H' := Aside0.mk H
          clear H
          obtain ⟨Ao27, co27, eo27⟩ := Kd.R_slice HO_3.out
          subst eo27
          go_wp2
          go_roundg k3
          case measure => have := HK1.out; have := HK2.out; have := HK3.out; omega
          case rel => exact ⟨(x3_3), (x5_3), (by first | rfl | (simp; done) | (simp [*]; done)), H', ⟨by have := HK1.out; have := HK2.out; have := HK3.out; omega⟩, ⟨by (with_reducible repeat (first | apply Kd.R_alloc | apply Kd.R_drewN | apply Kd.R_drew)); exact HO_3.out⟩, ⟨by repeat (first | (with_reducible first | exact HB.out | apply below_alloc | apply pw_below_drewN | apply below_drew1) | exact HB.out)⟩⟩
      ·replace c10 := Bool.eq_false_iff.mpr c10
       subst c10
       have H1 : (some x3_2) = some r := by rw [if_neg (show ¬ (false = true) by decide)] at H; exact H
       clear H
       have H := H1
       clear H1
       obtain rfl := Option.some.inj H
       go_wp2
       go_ret
       exact ⟨_, by first | rfl | (simp [errW_none, errW_some] <;> rfl) | (simp [*, errW_none, errW_some] <;> rfl), by (with_reducible repeat (first | apply Kd.R_alloc | apply Kd.R_drewN | apply Kd.R_drew)); exact HO_3.out, by repeat (first | (with_reducible first | exact HB.out | apply below_alloc | apply pw_below_drewN | apply below_drew1) | exact HB.out)⟩

/-! ### letterlockref4_Apart: function 22 -/
mutual
def letterlockref4_Apart.l0 : Nat → List ByteArray → Int → Option (List ByteArray × Int)
 | 0, _, _ => none
 | k + 1, x5, x6 => if x6 < (x5.length : Int) then (letterlockref4_Apart.l1 k x5 x6 x6) else (some (x5, 0))
def letterlockref4_Apart.l1 : Nat → List ByteArray → Int → Int → Option (List ByteArray × Int)
 | 0, _, _, _ => none
 | k + 1, x5, x6, x7 => if x7 > 0 then (if 0 ≤ x7 then (if x7 < (x5.length : Int) then (if 0 ≤ (wrap64 (x7 - 1)) then (if (wrap64 (x7 - 1)) < (x5.length : Int) then (if (Op.bytesLess ((rdOf ByteArray.empty x5 x7).toList) ((rdOf ByteArray.empty x5 (wrap64 (x7 - 1))).toList)) = true then (letterlockref4_Apart.l1 k ((x5.set (x7 : Int).toNat (rdOf ByteArray.empty x5 (wrap64 (x7 - 1)))).set ((wrap64 (x7 - 1)) : Int).toNat (rdOf ByteArray.empty x5 x7)) x6 (wrap64 (x7 - 1))) else (letterlockref4_Apart.l0 k x5 (wrap64 (x6 + 1)))) else (none)) else (none)) else (none)) else (none)) else (letterlockref4_Apart.l0 k x5 (wrap64 (x6 + 1)))
end
def letterlockref4_Apart.f (k : Nat) (l0 : List ByteArray) : Option (List ByteArray × Int) := (letterlockref4_right.f k l0).bind fun t640 => (if t640 = 0 then ((letterlockref4_had.f k l0).bind fun t641 => (letterlockref4_Apart.l0 k t641 1)) else (some (([] : List ByteArray), t640)))
theorem letterlockref4_Apart.mono_l : ∀ k, (∀ y0 y1, LeO (letterlockref4_Apart.l0 k y0 y1) (letterlockref4_Apart.l0 (k + 1) y0 y1)) ∧ (∀ y0 y1 y2, LeO (letterlockref4_Apart.l1 k y0 y1 y2) (letterlockref4_Apart.l1 (k + 1) y0 y1 y2))
 | 0 => ⟨fun _ _ r h => by simp [letterlockref4_Apart.l0] at h, fun _ _ _ r h => by simp [letterlockref4_Apart.l1] at h⟩
 | k + 1 => by
  obtain ⟨ih0, ih1⟩ := letterlockref4_Apart.mono_l k
  refine ⟨?_, ?_⟩
  ·intro y0 y1
   unfold letterlockref4_Apart.l0
   repeat' first
   | (with_reducible exact ih0 _ _)
   | (with_reducible exact ih1 _ _ _)
   | (with_reducible exact letterlockref4_had.mono _ _)
   | (with_reducible exact letterlockref4_right.mono _ _)
   | (with_reducible exact LeO.refl _)
   | (with_reducible exact LeO.none _)
   | (with_reducible refine LeO.ite ?_ ?_)
   | (with_reducible refine LeO.bind ?_ (fun _ => ?_))
   | exact ih0 _ _
   | exact ih1 _ _ _
   | exact letterlockref4_had.mono _ _
   | exact letterlockref4_right.mono _ _
   | exact LeO.none _
   | refine LeO.ite ?_ ?_
   | refine LeO.bind ?_ (fun _ => ?_)
  ·intro y0 y1 y2
   unfold letterlockref4_Apart.l1
   repeat' first
   | (with_reducible exact ih0 _ _)
   | (with_reducible exact ih1 _ _ _)
   | (with_reducible exact letterlockref4_had.mono _ _)
   | (with_reducible exact letterlockref4_right.mono _ _)
   | (with_reducible exact LeO.refl _)
   | (with_reducible exact LeO.none _)
   | (with_reducible refine LeO.ite ?_ ?_)
   | (with_reducible refine LeO.bind ?_ (fun _ => ?_))
   | exact ih0 _ _
   | exact ih1 _ _ _
   | exact letterlockref4_had.mono _ _
   | exact letterlockref4_right.mono _ _
   | exact LeO.none _
   | refine LeO.ite ?_ ?_
   | refine LeO.bind ?_ (fun _ => ?_)
theorem letterlockref4_Apart.mono : ∀ a0 k, LeO (letterlockref4_Apart.f k a0) (letterlockref4_Apart.f (k + 1) a0) := by
 intro a0 k
 obtain ⟨ih0, ih1⟩ := letterlockref4_Apart.mono_l k
 unfold letterlockref4_Apart.f
 repeat' first
   | (with_reducible exact ih0 _ _)
   | (with_reducible exact ih1 _ _ _)
   | (with_reducible exact letterlockref4_had.mono _ _)
   | (with_reducible exact letterlockref4_right.mono _ _)
   | (with_reducible exact LeO.refl _)
   | (with_reducible exact LeO.none _)
   | (with_reducible refine LeO.ite ?_ ?_)
   | (with_reducible refine LeO.bind ?_ (fun _ => ?_))
   | exact ih0 _ _
   | exact ih1 _ _ _
   | exact letterlockref4_had.mono _ _
   | exact letterlockref4_right.mono _ _
   | exact LeO.none _
   | refine LeO.ite ?_ ?_
   | refine LeO.bind ?_ (fun _ => ?_)
set_option maxHeartbeats 8000000 in
set_option maxRecDepth 100000 in
theorem letterlockref4_Apart.calls (k : Nat) (A0 : Option Addr) (c0 : Nat) (l0 : List ByteArray) (r1 : List ByteArray) (r2 : Int) (w : World) (hr0 : Kd.C Kd.string w A0 l0.length l0) (hc0 : l0.length ≤ c0) (h : letterlockref4_Apart.f k l0 = some (r1, r2)) :
  Calls Try.prog 22 #[.slice A0 l0.length c0] w fun e w' => ∃ v0_ : Value, e = .returned (.tuple #[v0_, .int .i64 r2]) ∧ Kd.R Kd.string 9 w' w.heap.size (fun _ => True) v0_ r1 ∧ Below w.heap.size w w' := by
 have HR0 := Aside0.mk hr0
 have HC0 := Aside0.mk hc0
 clear hr0 hc0
 have HB := Aside0.mk (Below.refl w.heap.size w)
 have H : ((letterlockref4_right.f k l0).bind fun t640 => (if t640 = 0 then ((letterlockref4_had.f k l0).bind fun t641 => (letterlockref4_Apart.l0 k t641 1)) else (some (([] : List ByteArray), t640)))) = some (r1, r2) := h
 clear h
 replace H := Option.bind_eq_some_iff.mp H
 obtain ⟨t640, A20, H⟩ := H
 replace H : (if t640 = 0 then ((letterlockref4_had.f k l0).bind fun t641 => (letterlockref4_Apart.l0 k t641 1)) else (some (([] : List ByteArray), t640))) = some (r1, r2) := H
 have A2 := Aside0.mk A20
 clear A20
 by_cases c3 : t640 = 0
 ·rw [if_pos c3] at H
  have c3b0 : (t640 == 0) = true := beq_iff_eq.mpr c3
  have c3b1 : (t640 != 0) = false := bne_eq_false_iff_eq.mpr c3
  clear c3
  replace H := Option.bind_eq_some_iff.mp H
  obtain ⟨t641, A40, H⟩ := H
  replace H : (letterlockref4_Apart.l0 k t641 1) = some (r1, r2) := H
  have A4 := Aside0.mk A40
  clear A40
  have H' := Aside0.mk H
  clear H
  go_enter Try.func22, Try.ntmps22
  go_wp2_with (first | (go_at_call 50; (with_reducible refine (letterlockref4_right.calls k _ _ l0 t640 _ ?side1 ?side2 A2.out).mono ?_); (case side1 => repeat (first | exact HR0.out | (with_reducible refine Kd.C_alloc ?_ _) | (with_reducible refine Kd.C_drewN ?_ _) | (with_reducible refine Kd.C_drew ?_))); (case side2 => exact HC0.out); rintro e w5 ⟨rfl, hb⟩; have n0_ := Aside0.mk (below_step (by repeat (first | (with_reducible first | exact HB.out | apply below_alloc | apply pw_below_drewN | apply below_drew1) | exact HB.out)) hb); clear HB; have HB := n0_; clear n0_; (try clear hb); (try clear hb2); (try clear hk); (try clear hi)) | (go_at_call 51; (with_reducible refine (letterlockref4_had.calls k _ _ l0 t641 _ ?side1 ?side2 A4.out).mono ?_); (case side1 => repeat (first | exact (Kd.C_below HR0.out HB.out) | (with_reducible refine Kd.C_alloc ?_ _) | (with_reducible refine Kd.C_drewN ?_ _) | (with_reducible refine Kd.C_drew ?_))); (case side2 => exact HC0.out); rintro e w6 ⟨v642, rfl, ho0, hb⟩; have n0_ := Aside0.mk (Kd.R_lower ho0 (below_size (by repeat (first | (with_reducible first | exact HB.out | apply below_alloc | apply pw_below_drewN | apply below_drew1) | exact HB.out)))); have n1_ := Aside0.mk (below_step (by repeat (first | (with_reducible first | exact HB.out | apply below_alloc | apply pw_below_drewN | apply below_drew1) | exact HB.out)) hb); clear HB; have HO643 := n0_; have HB := n1_; clear n0_ n1_; (try clear hb); (try clear hb2); (try clear hk); (try clear hi); (try clear ho0)))
  repeat (go_quiet (first | (go_at_call 50; (with_reducible refine (letterlockref4_right.calls k _ _ l0 t640 _ ?side1 ?side2 A2.out).mono ?_); (case side1 => repeat (first | exact HR0.out | (with_reducible refine Kd.C_alloc ?_ _) | (with_reducible refine Kd.C_drewN ?_ _) | (with_reducible refine Kd.C_drew ?_))); (case side2 => exact HC0.out); rintro e w5 ⟨rfl, hb⟩; have n0_ := Aside0.mk (below_step (by repeat (first | (with_reducible first | exact HB.out | apply below_alloc | apply pw_below_drewN | apply below_drew1) | exact HB.out)) hb); clear HB; have HB := n0_; clear n0_; (try clear hb); (try clear hb2); (try clear hk); (try clear hi)) | (go_at_call 51; (with_reducible refine (letterlockref4_had.calls k _ _ l0 t641 _ ?side1 ?side2 A4.out).mono ?_); (case side1 => repeat (first | exact (Kd.C_below HR0.out HB.out) | (with_reducible refine Kd.C_alloc ?_ _) | (with_reducible refine Kd.C_drewN ?_ _) | (with_reducible refine Kd.C_drew ?_))); (case side2 => exact HC0.out); rintro e w6 ⟨v642, rfl, ho0, hb⟩; have n0_ := Aside0.mk (Kd.R_lower ho0 (below_size (by repeat (first | (with_reducible first | exact HB.out | apply below_alloc | apply pw_below_drewN | apply below_drew1) | exact HB.out)))); have n1_ := Aside0.mk (below_step (by repeat (first | (with_reducible first | exact HB.out | apply below_alloc | apply pw_below_drewN | apply below_drew1) | exact HB.out)) hb); clear HB; have HO643 := n0_; have HB := n1_; clear n0_ n1_; (try clear hb); (try clear hb2); (try clear hk); (try clear hi); (try clear ho0))); try go_wp2_with (first | (go_at_call 50; (with_reducible refine (letterlockref4_right.calls k _ _ l0 t640 _ ?side1 ?side2 A2.out).mono ?_); (case side1 => repeat (first | exact HR0.out | (with_reducible refine Kd.C_alloc ?_ _) | (with_reducible refine Kd.C_drewN ?_ _) | (with_reducible refine Kd.C_drew ?_))); (case side2 => exact HC0.out); rintro e w5 ⟨rfl, hb⟩; have n0_ := Aside0.mk (below_step (by repeat (first | (with_reducible first | exact HB.out | apply below_alloc | apply pw_below_drewN | apply below_drew1) | exact HB.out)) hb); clear HB; have HB := n0_; clear n0_; (try clear hb); (try clear hb2); (try clear hk); (try clear hi)) | (go_at_call 51; (with_reducible refine (letterlockref4_had.calls k _ _ l0 t641 _ ?side1 ?side2 A4.out).mono ?_); (case side1 => repeat (first | exact (Kd.C_below HR0.out HB.out) | (with_reducible refine Kd.C_alloc ?_ _) | (with_reducible refine Kd.C_drewN ?_ _) | (with_reducible refine Kd.C_drew ?_))); (case side2 => exact HC0.out); rintro e w6 ⟨v642, rfl, ho0, hb⟩; have n0_ := Aside0.mk (Kd.R_lower ho0 (below_size (by repeat (first | (with_reducible first | exact HB.out | apply below_alloc | apply pw_below_drewN | apply below_drew1) | exact HB.out)))); have n1_ := Aside0.mk (below_step (by repeat (first | (with_reducible first | exact HB.out | apply below_alloc | apply pw_below_drewN | apply below_drew1) | exact HB.out)) hb); clear HB; have HO643 := n0_; have HB := n1_; clear n0_ n1_; (try clear hb); (try clear hb2); (try clear hk); (try clear hi); (try clear ho0))))
  go_loopg [6] k (fun kq v6 w' => ∃ (x5_1 : List ByteArray) (x6_1 : Int), v6 = .int .i64 x6_1 ∧ Aside0 (letterlockref4_Apart.l0 kq x5_1 x6_1 = some (r1, r2)) ∧ Aside0 (kq ≤ k) ∧ Aside0 (Kd.R Kd.string 9 w' w.heap.size (fun _ => True) v642 x5_1) ∧ Aside0 (Below w.heap.size w w'))
  case atStart => exact ⟨(t641), (1), (by first | rfl | (simp; done) | (simp [*]; done)), H', ⟨Nat.le_refl _⟩, ⟨by (with_reducible repeat (first | apply Kd.R_alloc | apply Kd.R_drewN | apply Kd.R_drew)); exact HO643.out⟩, ⟨by repeat (first | (with_reducible first | exact HB.out | apply below_alloc | apply pw_below_drewN | apply below_drew1) | exact HB.out)⟩⟩
  case round =>
   clear H'
   try clear c2
   try clear p2
   try clear c3
   try clear c3b0
   try clear c3b1
   obtain ⟨x5_1, x6_1, rfl, HA, HK1, HO_5, HB⟩ := hrel
   cases gk with
   | zero => exact absurd HA.out (by simp [letterlockref4_Apart.l0])
   | succ k1 =>
    have H := HA.out
    clear HA
    simp only [letterlockref4_Apart.l0] at H
    by_cases c7 : x6_1 < (x5_1.length : Int)
    ·rw [if_pos c7] at H
     have c7b0 : decide (x6_1 < (x5_1.length : Int)) = true := decide_eq_true c7
     clear c7
     have H' := Aside0.mk H
     clear H
     obtain ⟨Ao8, co8, eo8⟩ := Kd.R_slice HO_5.out
     subst eo8
     go_wp2
     repeat (go_quiet (fail); try go_wp2)
     go_loopg [7] k1 (fun kq v7 w' => ∃ (x5_2 : List ByteArray) (x7_2 : Int), v7 = .int .i64 x7_2 ∧ Aside0 (letterlockref4_Apart.l1 kq x5_2 x6_1 x7_2 = some (r1, r2)) ∧ Aside0 (kq ≤ k1) ∧ Aside0 (Kd.R Kd.string 9 w' w.heap.size (fun _ => True) (.slice Ao8 x5_1.length co8) x5_2) ∧ Aside0 (Below w.heap.size w w'))
     case atStart => exact ⟨(x5_1), (x6_1), (by first | rfl | (simp; done) | (simp [*]; done)), H', ⟨Nat.le_refl _⟩, ⟨by (with_reducible repeat (first | apply Kd.R_alloc | apply Kd.R_drewN | apply Kd.R_drew)); exact HO_5.out⟩, ⟨by repeat (first | (with_reducible first | exact HB.out | apply below_alloc | apply pw_below_drewN | apply below_drew1) | exact HB.out)⟩⟩
     case round =>
      clear H'
      try clear c2
      try clear p2
      try clear c3
      try clear c3b0
      try clear c3b1
      try clear c7
      try clear c7b0
      try clear p2
      obtain ⟨x5_2, x7_2, rfl, HA, HK2, HO_5, HB⟩ := hrel
      have hl5_2 := (Kd.R_reads' HO_5.out).1
      rw [hl5_2] at HO_5
      (try simp only [hl5_2])
      cases gk with
      | zero => exact absurd HA.out (by simp [letterlockref4_Apart.l1])
      | succ k2 =>
       have H := HA.out
       clear HA
       simp only [letterlockref4_Apart.l1] at H
       by_cases c9 : x7_2 > 0
       ·rw [if_pos c9] at H
        have c9b0 : decide (0 < x7_2) = true := decide_eq_true c9
        clear c9
        by_cases c10 : 0 ≤ x7_2
        ·rw [if_pos c10] at H
         have c10b0 : decide (0 ≤ x7_2) = true := decide_eq_true c10
         clear c10
         by_cases c11 : x7_2 < (x5_2.length : Int)
         ·rw [if_pos c11] at H
          have c11b0 : decide (x7_2 < (x5_2.length : Int)) = true := decide_eq_true c11
          clear c11
          obtain ⟨ji12, hji12⟩ : ∃ j_ : Int, (wrap64 (x7_2 - 1)) = j_ := ⟨_, rfl⟩
          replace H : (if 0 ≤ (ji12) then (if (ji12) < (x5_2.length : Int) then (if (Op.bytesLess ((rdOf ByteArray.empty x5_2 x7_2).toList) ((rdOf ByteArray.empty x5_2 (ji12)).toList)) = true then (letterlockref4_Apart.l1 k2 ((x5_2.set (x7_2 : Int).toNat (rdOf ByteArray.empty x5_2 (ji12))).set ((ji12) : Int).toNat (rdOf ByteArray.empty x5_2 x7_2)) x6_1 ji12) else (letterlockref4_Apart.l0 k2 x5_2 (wrap64 (x6_1 + 1)))) else (none)) else (none)) = some (r1, r2) := by first | (rw [hji12] at H; exact H) | (simp only [hji12] at H ⊢; exact H)
          have hji12w : (IntKind.i64.wrap (x7_2 - 1)) = ji12 := (i64_w _).trans hji12
          by_cases c13 : 0 ≤ (ji12)
          ·rw [if_pos c13] at H
           have c13b0 : decide (0 ≤ (ji12)) = true := decide_eq_true c13
           clear c13
           by_cases c14 : (ji12) < (x5_2.length : Int)
           ·rw [if_pos c14] at H
            have c14b0 : decide ((ji12) < (x5_2.length : Int)) = true := decide_eq_true c14
            clear c14
            by_cases c15 : (Op.bytesLess ((rdOf ByteArray.empty x5_2 x7_2).toList) ((rdOf ByteArray.empty x5_2 (ji12)).toList)) = true
            ·rw [if_pos c15] at H
             have c15b0 : (Op.bytesLess ((rdOf ByteArray.empty x5_2 x7_2).toList) ((rdOf ByteArray.empty x5_2 (ji12)).toList)) = true := c15
             clear c15
             obtain ⟨y648, hy648⟩ : ∃ y_ : List ByteArray, y_ = (x5_2.set (x7_2 : Int).toNat (rdOf ByteArray.empty x5_2 (ji12))) := ⟨_, rfl⟩
             replace H : (letterlockref4_Apart.l1 k2 (y648.set ((ji12) : Int).toNat (rdOf ByteArray.empty x5_2 x7_2)) x6_1 ji12) = some (r1, r2) := by first | (rw [hy648]; with_reducible exact H) | (have H2_ := (Option.bind_some _ _).symm.trans H; rw [hy648]; with_reducible exact H2_) | (have H2_ := (Option.bind_some _ _).symm.trans H; with_reducible exact H2_) | with_reducible exact H | (rw [hy648]; exact H) | exact H
             have Ny648 := Aside0.mk hy648
             clear hy648
             obtain ⟨y649, hy649⟩ : ∃ y_ : List ByteArray, y_ = (y648.set ((ji12) : Int).toNat (rdOf ByteArray.empty x5_2 x7_2)) := ⟨_, rfl⟩
             replace H : (letterlockref4_Apart.l1 k2 y649 x6_1 ji12) = some (r1, r2) := by first | (rw [hy649]; with_reducible exact H) | (have H2_ := (Option.bind_some _ _).symm.trans H; rw [hy649]; with_reducible exact H2_) | (have H2_ := (Option.bind_some _ _).symm.trans H; with_reducible exact H2_) | with_reducible exact H | (rw [hy649]; exact H) | exact H
             have Ny649 := Aside0.mk hy649
             clear hy649
             have H' := Aside0.mk H
             clear H
             have p644 : 0 ≤ (x7_2 : Int) := of_decide_eq_true (by first | (with_reducible assumption) | assumption)
             have q644 : x7_2 < (x5_2.length : Int) := of_decide_eq_true (by first | (with_reducible assumption) | assumption)
             obtain ⟨ad644, e644, hx644_0⟩ := Kd.at_string (Kd.R_reads' HO_5.out).2.2 x7_2 p644 q644
             cases e644
             replace p644 := eq_true p644
             replace q644 := eq_true q644
             have p645 : 0 ≤ ((ji12) : Int) := of_decide_eq_true (by first | (with_reducible assumption) | assumption)
             have q645 : (ji12) < (x5_2.length : Int) := of_decide_eq_true (by first | (with_reducible assumption) | assumption)
             obtain ⟨ad645, e645, hx645_0⟩ := Kd.at_string (Kd.R_reads' HO_5.out).2.2 (ji12) p645 q645
             obtain rfl : ad644 = ad645 := (by injection e645)
             replace p645 := eq_true p645
             replace q645 := eq_true q645
             have p646 : 0 ≤ (x7_2 : Int) := of_decide_eq_true (by first | (with_reducible assumption) | assumption)
             have q646 : x7_2 < (x5_2.length : Int) := of_decide_eq_true (by first | (with_reducible assumption) | assumption)
             obtain ⟨ad646, e646, hx646_0⟩ := Kd.at_string (Kd.R_reads' HO_5.out).2.2 x7_2 p646 q646
             obtain rfl : ad644 = ad646 := (by injection e646)
             replace p646 := eq_true p646
             replace q646 := eq_true q646
             have p647 : 0 ≤ ((ji12) : Int) := of_decide_eq_true (by first | (with_reducible assumption) | assumption)
             have q647 : (ji12) < (x5_2.length : Int) := of_decide_eq_true (by first | (with_reducible assumption) | assumption)
             obtain ⟨ad647, e647, hx647_0⟩ := Kd.at_string (Kd.R_reads' HO_5.out).2.2 (ji12) p647 q647
             obtain rfl : ad644 = ad647 := (by injection e647)
             replace p647 := eq_true p647
             replace q647 := eq_true q647
             have p16 : 0 ≤ (x7_2 : Int) := of_decide_eq_true (by first | (with_reducible assumption) | assumption)
             have q16 : (x7_2 : Int) < ((x5_2.length : Int) : Int) := of_decide_eq_true (by first | (with_reducible assumption) | assumption)
             obtain ⟨go16, co16, eo16, gb16, gl16, cl16, HG16⟩ := Kd.R_form HO_5.out (by omega)
             (first | cases eo16 | (injection eo16 with ea_ en_ ec_; (first | subst ea_ | (injection ea_ with ea_; subst ea_)); subst ec_; clear en_))
             have GB16 := Aside0.mk gb16
             have GG16 := Aside0.mk HG16
             clear gb16 gl16 HG16
             (first | simp only [add_plain] at hx644_0 | skip)
             (first | simp only [add_plain] at hx645_0 | skip)
             (first | simp only [add_plain] at hx646_0 | skip)
             (first | simp only [add_plain] at hx647_0 | skip)
             obtain ⟨hx16_0, hf16_0⟩ := Kd.R_celln (⟨#[]⟩ : ByteArray) HO_5.out (x7_2 : Int) p16 q16
             replace p16 := eq_true p16
             replace q16 := eq_true q16
             have p17 : 0 ≤ ((ji12) : Int) := of_decide_eq_true (by first | (with_reducible assumption) | assumption)
             have q17 : ((ji12) : Int) < ((x5_2.length : Int) : Int) := of_decide_eq_true (by first | (with_reducible assumption) | assumption)
             obtain ⟨hx17_0, hf17_0⟩ := Kd.R_celln (⟨#[]⟩ : ByteArray) HO_5.out ((ji12) : Int) p17 q17
             have hset := fun n => (Kd.R_celln (⟨#[]⟩ : ByteArray) (Kd.R_putg (Kd.R_drewN HO_5.out n) (x7_2 : Int) (rdOf ByteArray.empty x5_2 (ji12))).1 ((ji12) : Int) p17 q17).1
             go_wp2
             repeat (go_quiet (fail))
             go_wp2
             have HPa := Kd.R_putg (Kd.R_drewN HO_5.out nq) (x7_2 : Int) (rdOf ByteArray.empty x5_2 (ji12))
             have HPb := Kd.R_putg HPa.1 ((ji12) : Int) (rdOf ByteArray.empty x5_2 x7_2)
             rw [← Ny648.out, ← Ny649.out] at HPb
             have n0_ := Aside0.mk HPb.1
             have hbw : Below w.heap.size w (wr.drewN nq) := by repeat (first | (with_reducible first | exact HB.out | apply below_alloc | apply pw_below_drewN | apply below_drew1) | exact HB.out)
             have n1_ := Aside0.mk (below_set (below_set hbw GB16.out (j := (x7_2 : Int).toNat) (v := .string (rdOf ByteArray.empty x5_2 (ji12)))) GB16.out (j := ((ji12) : Int).toNat) (v := .string (rdOf ByteArray.empty x5_2 x7_2)))
             clear HPa HPb hbw hset HO_5 HB
             have HO_5 := n0_
             have HB := n1_
             clear n0_ n1_
             (try simp only [← hl5_2])
             go_roundg k2
             case measure => have := HK1.out; have := HK2.out; omega
             case rel => exact ⟨(y649), (ji12), (by first | rfl | (simp; done) | (simp only [← hji12] <;> (first | rfl | simp)) | (simp [*]; done)), H', ⟨by have := HK1.out; have := HK2.out; omega⟩, ⟨by (try simp only [hl5_2]); (with_reducible repeat (first | apply Kd.R_alloc | apply Kd.R_drewN | apply Kd.R_drew)); exact HO_5.out⟩, ⟨by repeat (first | (with_reducible first | exact HB.out | apply below_alloc | apply pw_below_drewN | apply below_drew1) | exact HB.out)⟩⟩
            ·rw [if_neg c15] at H
             have c15b0 : (Op.bytesLess ((rdOf ByteArray.empty x5_2 x7_2).toList) ((rdOf ByteArray.empty x5_2 (ji12)).toList)) = false := by simpa using c15
             clear c15
             have H' := Aside0.mk H
             clear H
             have p644 : 0 ≤ (x7_2 : Int) := of_decide_eq_true (by first | (with_reducible assumption) | assumption)
             have q644 : x7_2 < (x5_2.length : Int) := of_decide_eq_true (by first | (with_reducible assumption) | assumption)
             obtain ⟨ad644, e644, hx644_0⟩ := Kd.at_string (Kd.R_reads' HO_5.out).2.2 x7_2 p644 q644
             cases e644
             replace p644 := eq_true p644
             replace q644 := eq_true q644
             have p645 : 0 ≤ ((ji12) : Int) := of_decide_eq_true (by first | (with_reducible assumption) | assumption)
             have q645 : (ji12) < (x5_2.length : Int) := of_decide_eq_true (by first | (with_reducible assumption) | assumption)
             obtain ⟨ad645, e645, hx645_0⟩ := Kd.at_string (Kd.R_reads' HO_5.out).2.2 (ji12) p645 q645
             obtain rfl : ad644 = ad645 := (by injection e645)
             replace p645 := eq_true p645
             replace q645 := eq_true q645
             go_wp2
             repeat (go_quiet (fail); try go_wp2)
             (try simp only [← hl5_2])
             go_roundg k2
             case measure => have := HK1.out; have := HK2.out; omega
             case rel => exact ⟨(x5_2), (wrap64 (x6_1 + 1)), (by first | rfl | (simp; done) | (simp [*]; done)), H', ⟨by have := HK1.out; have := HK2.out; omega⟩, ⟨by (try simp only [hl5_2]); (with_reducible repeat (first | apply Kd.R_alloc | apply Kd.R_drewN | apply Kd.R_drew)); exact HO_5.out⟩, ⟨by repeat (first | (with_reducible first | exact HB.out | apply below_alloc | apply pw_below_drewN | apply below_drew1) | exact HB.out)⟩⟩
           ·rw [if_neg c14] at H
            exact absurd H (by simp)
          ·rw [if_neg c13] at H
           exact absurd H (by simp)
         ·rw [if_neg c11] at H
          exact absurd H (by simp)
        ·rw [if_neg c10] at H
         exact absurd H (by simp)
       ·rw [if_neg c9] at H
        have c9b0 : decide (0 < x7_2) = false := decide_eq_false c9
        clear c9
        have H' := Aside0.mk H
        clear H
        go_wp2
        repeat (go_quiet (fail); try go_wp2)
        (try simp only [← hl5_2])
        go_roundg k2
        case measure => have := HK1.out; have := HK2.out; omega
        case rel => exact ⟨(x5_2), (wrap64 (x6_1 + 1)), (by first | rfl | (simp; done) | (simp [*]; done)), H', ⟨by have := HK1.out; have := HK2.out; omega⟩, ⟨by (try simp only [hl5_2]); (with_reducible repeat (first | apply Kd.R_alloc | apply Kd.R_drewN | apply Kd.R_drew)); exact HO_5.out⟩, ⟨by repeat (first | (with_reducible first | exact HB.out | apply below_alloc | apply pw_below_drewN | apply below_drew1) | exact HB.out)⟩⟩
    ·rw [if_neg c7] at H
     have c7b0 : decide (x6_1 < (x5_1.length : Int)) = false := decide_eq_false c7
     clear c7
     simp only [Option.some.injEq, Prod.mk.injEq] at H
     obtain ⟨rfl, rfl⟩ := H
     obtain ⟨Ao22, co22, eo22⟩ := Kd.R_slice HO_5.out
     subst eo22
     go_wp2
     repeat (go_quiet (fail); try go_wp2)
     go_ret2
     exact ⟨_, by first | rfl | (simp [errW_none, errW_some] <;> rfl) | (simp [*, errW_none, errW_some] <;> rfl), by (with_reducible repeat (first | apply Kd.R_alloc | apply Kd.R_drewN | apply Kd.R_drew)); exact HO_5.out, by repeat (first | (with_reducible first | exact HB.out | apply below_alloc | apply pw_below_drewN | apply below_drew1) | exact HB.out)⟩
 ·rw [if_neg c3] at H
  have c3b0 : (t640 == 0) = false := beq_eq_false_iff_ne.mpr c3
  have c3b1 : (t640 != 0) = true := bne_iff_ne.mpr c3
  simp only [Option.some.injEq, Prod.mk.injEq] at H
  obtain ⟨rfl, rfl⟩ := H
  go_enter Try.func22, Try.ntmps22
  go_wp2_with (first | (go_at_call 50; (with_reducible refine (letterlockref4_right.calls k _ _ l0 t640 _ ?side1 ?side2 A2.out).mono ?_); (case side1 => repeat (first | exact HR0.out | (with_reducible refine Kd.C_alloc ?_ _) | (with_reducible refine Kd.C_drewN ?_ _) | (with_reducible refine Kd.C_drew ?_))); (case side2 => exact HC0.out); rintro e w23 ⟨rfl, hb⟩; have n0_ := Aside0.mk (below_step (by repeat (first | (with_reducible first | exact HB.out | apply below_alloc | apply pw_below_drewN | apply below_drew1) | exact HB.out)) hb); clear HB; have HB := n0_; clear n0_; (try clear hb); (try clear hb2); (try clear hk); (try clear hi)))
  repeat (go_quiet (first | (go_at_call 50; (with_reducible refine (letterlockref4_right.calls k _ _ l0 t640 _ ?side1 ?side2 A2.out).mono ?_); (case side1 => repeat (first | exact HR0.out | (with_reducible refine Kd.C_alloc ?_ _) | (with_reducible refine Kd.C_drewN ?_ _) | (with_reducible refine Kd.C_drew ?_))); (case side2 => exact HC0.out); rintro e w23 ⟨rfl, hb⟩; have n0_ := Aside0.mk (below_step (by repeat (first | (with_reducible first | exact HB.out | apply below_alloc | apply pw_below_drewN | apply below_drew1) | exact HB.out)) hb); clear HB; have HB := n0_; clear n0_; (try clear hb); (try clear hb2); (try clear hk); (try clear hi))); try go_wp2_with (first | (go_at_call 50; (with_reducible refine (letterlockref4_right.calls k _ _ l0 t640 _ ?side1 ?side2 A2.out).mono ?_); (case side1 => repeat (first | exact HR0.out | (with_reducible refine Kd.C_alloc ?_ _) | (with_reducible refine Kd.C_drewN ?_ _) | (with_reducible refine Kd.C_drew ?_))); (case side2 => exact HC0.out); rintro e w23 ⟨rfl, hb⟩; have n0_ := Aside0.mk (below_step (by repeat (first | (with_reducible first | exact HB.out | apply below_alloc | apply pw_below_drewN | apply below_drew1) | exact HB.out)) hb); clear HB; have HB := n0_; clear n0_; (try clear hb); (try clear hb2); (try clear hk); (try clear hi))))
  go_ret2
  exact ⟨_, by first | rfl | (simp [errW_none, errW_some] <;> rfl) | (simp [*, errW_none, errW_some] <;> rfl), by first | exact Kd.R_nil _ _ _ _ _ | exact Kd.N_nil _ _ _ _ _ | exact Kd.V_nil _ _ _ _ _ | exact Kd.Q_nil _ _ _ _ _ | exact Kd.S_nil _ _ _ _ _, by repeat (first | (with_reducible first | exact HB.out | apply below_alloc | apply pw_below_drewN | apply below_drew1) | exact HB.out)⟩

end Go.Proofs.Ytnieihhnchefdaa.PA
