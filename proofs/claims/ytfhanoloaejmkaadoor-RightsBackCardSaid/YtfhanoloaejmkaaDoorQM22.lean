/- Contracts and laws that the statement of LawRightsUndo,LawRightsBack,LawRightsErrs leans on (packed from this claim's own texts): part 22. -/
import Derived.Test.YtfhanoloaejmkaaDoorQM15
section

namespace Go.Proofs.YtfhanoloaejmkaaDoor.PC
open Go.RowKit Go.Proofs.YtfhanoloaejmkaaDoorW.PrintWords Go.Proofs.YtfhanoloaejmkaaDoorW.PrintLast Go.Proofs.YtfhanoloaejmkaaDoorW.PrintMore
attribute [local go_sem] max2_int min2_int max_two min_two max_three min_three max_four min_four   -- for this text's walks alone
set_option linter.unusedVariables false
set_option linter.unusedSimpArgs false
def rights_Take.j0 : Nat → ByteArray → List ByteArray → Bool → Option (ByteArray × ByteArray × Int × List ByteArray × List ByteArray × Int)
 | 0, _, _, _ => none
 | k + 1, x0, x4, x23 => if x23 = true then (some ((⟨#[]⟩ : ByteArray), (⟨#[]⟩ : ByteArray), 0, ([] : List ByteArray), ([] : List ByteArray), 2)) else (if 0 < (x4.length : Int) then (if 1 < (x4.length : Int) then (if 2 < (x4.length : Int) then ((wire_Take.f (rdOf ByteArray.empty x4 2)).bind fun bt125 => (if 3 < (x4.length : Int) then ((wire_TakeAll.f (rdOf ByteArray.empty x4 3) 5 4000).bind fun bt129 => (if 4 < (x4.length : Int) then ((wire_TakeAll.f (rdOf ByteArray.empty x4 4) 5 4000).bind fun bt134 => ((rights_Put.f (rdOf ByteArray.empty x4 0) (rdOf ByteArray.empty x4 1) (wrap64 (mn bt125.1 8)) bt129.1 bt134.1).bind fun bt138 => (if bt138.2 = 0 then (if bt138.1.toList = x0.toList then (some (rdOf ByteArray.empty x4 0, rdOf ByteArray.empty x4 1, wrap64 (mn bt125.1 8), bt129.1, bt134.1, 0)) else (some ((⟨#[]⟩ : ByteArray), (⟨#[]⟩ : ByteArray), 0, ([] : List ByteArray), ([] : List ByteArray), 2))) else (some ((⟨#[]⟩ : ByteArray), (⟨#[]⟩ : ByteArray), 0, ([] : List ByteArray), ([] : List ByteArray), 2))))) else (none))) else (none))) else (none)) else (none)) else (none))
def rights_Take.f (k : Nat) (a0 : ByteArray) : Option (ByteArray × ByteArray × Int × List ByteArray × List ByteArray × Int) := (wire_TakeAll.f a0 5 4000).bind fun bt117 => (if bt117.2 = 0 then (rights_Take.j0 k a0 bt117.1 ((bt117.1.length : Int) != 5)) else (rights_Take.j0 k a0 bt117.1 true))
def rights_Take.T4 : Bool × List (List Nat × List Nat) := (true, [([], []), ([0], [0]), ([1], [1]), ([], []), ([3], [3]), ([4], [4]), ([2, 5], [2, 5]), ([], []), ([7, 6, 0, 1, 2, 3, 4, 5, 6, 7], [6, 7])])
def rights_Take.B4 : List Nat := [0, 1, 3, 0, 8, 24, 63, 0, 255]
theorem rights_Take.tab4 : rtab .any (opsOf Tryd.f22 4) = rights_Take.T4 := by kernel_rfl
theorem rights_Take.bits4 : waitsOk rights_Take.T4.2 rights_Take.B4 = true := by kernel_rfl
set_option maxHeartbeats 8000000 in
set_option maxRecDepth 100000 in
theorem rights_Take.calls (k : Nat) (a0 : ByteArray) (r1 : ByteArray) (r2 : ByteArray) (r3 : Int) (r4 : List ByteArray) (r5 : List ByteArray) (r6 : Int) (w : World) (HTB : Aside0 (Tabs w)) (h : rights_Take.f k a0 = some (r1, r2, r3, r4, r5, r6)) :
  Calls Tryd.prog 22 #[.string a0] w fun e w' => ∃ v3_ v4_ : Value, e = .returned (.tuple #[.agg #[.string r1, .string r2, .int .i64 r3, v3_, v4_], .int .i64 r6]) ∧ Kd.R Kd.string 9 w' w.heap.size (fun k_ => some k_ ≠ (v4_ : Value).ownBlock) v3_ r4 ∧ Kd.R Kd.string 9 w' w.heap.size (fun k_ => some k_ ≠ (v3_ : Value).ownBlock) v4_ r5 ∧ Below w.heap.size w w' := by
 have hu26 := Tryd.underlying26
 have HB := Aside0.mk (Below.refl w.heap.size w)
 have H : ((wire_TakeAll.f a0 5 4000).bind fun bt117 => (if bt117.2 = 0 then (rights_Take.j0 k a0 bt117.1 ((bt117.1.length : Int) != 5)) else (rights_Take.j0 k a0 bt117.1 true))) = some (r1, r2, r3, r4, r5, r6) := h
 clear h
 replace H := Option.bind_eq_some_iff.mp H
 obtain ⟨⟨t117, t118⟩, A20, H⟩ := H
 replace H : (if t118 = 0 then (rights_Take.j0 k a0 t117 ((t117.length : Int) != 5)) else (rights_Take.j0 k a0 t117 true)) = some (r1, r2, r3, r4, r5, r6) := H
 have A2 := Aside0.mk A20
 clear A20
 have HC3 := Aside0.mk H
 clear H
 go_enter Tryd.func22, Tryd.ntmps22
 go_upto_region 2 with (first | ((with_reducible refine gate_dst (N := 2) rfl ?_); (try (refine gate_guard (by rfl) ?_; dsimp only)); refine box_event ?hg (N := 2) ?hd (cs := #[.string (⟨#[]⟩ : ByteArray), .string (⟨#[]⟩ : ByteArray), .int .i64 0, .slice none 0 0, .slice none 0 0]) (t := 26) ?hr ?_; (case hd => rfl); (case hg => rfl); (case hr => first | (go_simp; done) | (go_simp; rfl)); intro gb116 hg w4 hbox hb; have n0_ := Aside0.mk (below_step (by repeat (first | (with_reducible first | exact HB.out | apply below_alloc | apply pw_below_drewN | apply below_drew1) | exact HB.out)) hb); have n1_ := Aside0.mk (hbox); have n2_ := Aside0.mk ((by rw [hg]; exact (below_size (by repeat (first | (with_reducible first | exact HB.out | apply below_alloc | apply pw_below_drewN | apply below_drew1) | exact HB.out))) : w.heap.size ≤ gb116)); have n3_ := Aside0.mk ((by rw [hg]; exact (below_size (by repeat (first | (with_reducible first | exact HB.out | apply below_alloc | apply pw_below_drewN | apply below_drew1) | exact HB.out))) : w.heap.size ≤ gb116)); clear HB; have HB := n0_; have BK116 := n1_; have GW116 := n2_; have GE116 := n3_; clear n0_ n1_ n2_ n3_; clear hb hbox hg) | ((with_reducible refine gate_callee (f := 45) rfl ?_); refine goesL_ (some 14) rfl rfl Tryd.func45 (by kernel_rfl) rfl #[.string a0, .int .i64 5, .int .i64 4000] rfl (by (try simp only [List.map_toArray, List.map_cons, List.map_nil]); first | done | rfl | (simp only [List.length_drop, List.length_take]; rfl)) ?_; (with_reducible refine (wire_TakeAll.calls a0 5 4000 t117 t118 _ A2.out).mono ?_); rintro e w5 ⟨v119, rfl, ho0, hb⟩; refine ⟨_, rfl, ?_⟩; have n0_ := Aside0.mk (Kd.R_lower ho0 (below_size (by repeat (first | (with_reducible first | exact HB.out | apply below_alloc | apply pw_below_drewN | apply below_drew1 | refine below_set ?_ GE116.out) | exact HB.out)))); have n1_ := Aside0.mk (blk_below (g := gb116) (o := .cells #[.string (⟨#[]⟩ : ByteArray), .string (⟨#[]⟩ : ByteArray), .int .i64 0, .slice none 0 0, .slice none 0 0] 26 (0, 0)) (by (with_reducible repeat (first | refine blk_drewN ?_ _ | refine blk_drew ?_ | refine blk_alloc ?_ _)); exact BK116.out) hb); have n2_ := Aside0.mk (below_step (by repeat (first | (with_reducible first | exact HB.out | apply below_alloc | apply pw_below_drewN | apply below_drew1 | refine below_set ?_ GE116.out) | exact HB.out)) hb); clear BK116; clear HB; have HO120 := n0_; have BK116 := n1_; have HB := n2_; clear n0_ n1_ n2_; (try clear hb); (try clear hb2); (try clear hk); (try clear hi); (try clear ho0)))
 (try simp only [Act.put, List.setIfInBounds_toArray, List.set_cons_zero, List.set_cons_succ])
 go_cut [23] (fun v23 wc => ∃ (kq : Nat) (x23_2 : Bool), v23 = .bool x23_2 ∧ Aside0 (rights_Take.j0 kq a0 t117 x23_2 = some (r1, r2, r3, r4, r5, r6)) ∧ Aside0 (kq ≤ k) ∧ Aside0 (Kd.R Kd.string 9 wc w.heap.size (fun _ => True) v119 t117) ∧ Aside0 (wc.heap[gb116]? = some (.cells #[.string (⟨#[]⟩ : ByteArray), .string (⟨#[]⟩ : ByteArray), .int .i64 0, (.slice none 0 0), (.slice none 0 0)] 26 (0, 0))) ∧ Aside0 (Below w.heap.size w wc))
 case first =>
  have H := HC3.out
  clear HC3
  by_cases c6 : t118 = 0
  ·rw [if_pos c6] at H
   have c6b0 : (t118 == 0) = true := beq_iff_eq.mpr c6
   have c6b1 : (t118 != 0) = false := bne_eq_false_iff_eq.mpr c6
   clear c6
   (first | rw [c6b0] | (simp only [i64_w, i32_w]; rw [c6b0]) | skip)
   have H' := Aside0.mk H
   clear H
   obtain ⟨Ao7, co7, eo7⟩ := Kd.R_slice HO120.out
   subst eo7
   go_wp2
   go_meet
   case rel => exact ⟨_, (((t117.length : Int) != 5)), (by first | rfl | (simp; done) | (simp [*]; done)), H', ⟨by first | omega | exact Nat.le_refl _⟩, ⟨by (with_reducible repeat (first | apply Kd.R_alloc | apply Kd.R_drewN | apply Kd.R_drew)); exact HO120.out⟩, ⟨by (with_reducible repeat (first | refine blk_drewN ?_ _ | refine blk_drew ?_ | refine blk_alloc ?_ _)); exact BK116.out⟩, ⟨by repeat (first | (with_reducible first | exact HB.out | apply below_alloc | apply pw_below_drewN | apply below_drew1 | refine below_set ?_ GE116.out) | exact HB.out)⟩⟩
  ·rw [if_neg c6] at H
   have c6b0 : (t118 == 0) = false := beq_eq_false_iff_ne.mpr c6
   have c6b1 : (t118 != 0) = true := bne_iff_ne.mpr c6
   (first | rw [c6b0] | (simp only [i64_w, i32_w]; rw [c6b0]) | skip)
   have H' := Aside0.mk H
   clear H
   go_wp2
   go_meet
   case rel => exact ⟨_, (true), (by first | rfl | (simp; done) | (simp [*]; done)), H', ⟨by first | omega | exact Nat.le_refl _⟩, ⟨by (with_reducible repeat (first | apply Kd.R_alloc | apply Kd.R_drewN | apply Kd.R_drew)); exact HO120.out⟩, ⟨by (with_reducible repeat (first | refine blk_drewN ?_ _ | refine blk_drew ?_ | refine blk_alloc ?_ _)); exact BK116.out⟩, ⟨by repeat (first | (with_reducible first | exact HB.out | apply below_alloc | apply pw_below_drewN | apply below_drew1 | refine below_set ?_ GE116.out) | exact HB.out)⟩⟩
 case rest =>
  clear HC3
  try clear c2
  try clear p2
  try clear c4
  try clear c6
  try clear c6b0
  try clear c6b1
  obtain ⟨kq, x23_2, rfl, HA, HJ2, HO_4, BK116, HB⟩ := hcut
  cases kq with
  | zero => exact absurd HA.out (by simp [rights_Take.j0])
  | succ kj2 =>
   have H := HA.out
   clear HA
   simp only [rights_Take.j0] at H
   by_cases c8 : x23_2 = true
   ·subst c8
    have H1 : (some ((⟨#[]⟩ : ByteArray), (⟨#[]⟩ : ByteArray), 0, ([] : List ByteArray), ([] : List ByteArray), 2)) = some (r1, r2, r3, r4, r5, r6) := by rw [if_pos rfl] at H; exact H
    clear H
    have H := H1
    clear H1
    simp only [Option.some.injEq, Prod.mk.injEq] at H
    obtain ⟨rfl, rfl, rfl, rfl, rfl, rfl⟩ := H
    have hcz9_0 : wc.cell? ⟨gb116, 0, none⟩ = some (.string (⟨#[]⟩ : ByteArray)) := (blk_cell BK116.out 0).trans rfl
    have hcz9_1 : wc.cell? ⟨gb116, 1, none⟩ = some (.string (⟨#[]⟩ : ByteArray)) := (blk_cell BK116.out 1).trans rfl
    have hcz9_2 : wc.cell? ⟨gb116, 2, none⟩ = some (.int .i64 0) := (blk_cell BK116.out 2).trans rfl
    have hcz9_3 : wc.cell? ⟨gb116, 3, none⟩ = some (.slice none 0 0) := (blk_cell BK116.out 3).trans rfl
    have hcz9_4 : wc.cell? ⟨gb116, 4, none⟩ = some (.slice none 0 0) := (blk_cell BK116.out 4).trans rfl
    have hfz9_0 := blk_frozen BK116.out 0
    have hfz9_1 := blk_frozen BK116.out 1
    have hfz9_2 := blk_frozen BK116.out 2
    have hfz9_3 := blk_frozen BK116.out 3
    have hfz9_4 := blk_frozen BK116.out 4
    go_wp2
    refine bodyPost_ret (results_ct rfl _ _ gb116 26 #[.string (⟨#[]⟩ : ByteArray), .string (⟨#[]⟩ : ByteArray), .int .i64 0, .slice none 0 0, .slice none 0 0] (0, 0) _ rfl (by (with_reducible repeat (first | refine blk_drewN ?_ _ | refine blk_drew ?_ | refine blk_alloc ?_ _)); refine blk_put (cs := #[.string (⟨#[]⟩ : ByteArray), .string (⟨#[]⟩ : ByteArray), .int .i64 0, .slice none 0 0, .slice none 0 0]) ?_ 4 _ rfl; (with_reducible repeat (first | refine blk_drewN ?_ _ | refine blk_drew ?_ | refine blk_alloc ?_ _)); refine blk_put (cs := #[.string (⟨#[]⟩ : ByteArray), .string (⟨#[]⟩ : ByteArray), .int .i64 0, .slice none 0 0, .slice none 0 0]) ?_ 3 _ rfl; (with_reducible repeat (first | refine blk_drewN ?_ _ | refine blk_drew ?_ | refine blk_alloc ?_ _)); refine blk_put (cs := #[.string (⟨#[]⟩ : ByteArray), .string (⟨#[]⟩ : ByteArray), .int .i64 0, .slice none 0 0, .slice none 0 0]) ?_ 2 _ rfl; (with_reducible repeat (first | refine blk_drewN ?_ _ | refine blk_drew ?_ | refine blk_alloc ?_ _)); refine blk_put (cs := #[.string (⟨#[]⟩ : ByteArray), .string (⟨#[]⟩ : ByteArray), .int .i64 0, .slice none 0 0, .slice none 0 0]) ?_ 1 _ rfl; (with_reducible repeat (first | refine blk_drewN ?_ _ | refine blk_drew ?_ | refine blk_alloc ?_ _)); refine blk_put (cs := #[.string (⟨#[]⟩ : ByteArray), .string (⟨#[]⟩ : ByteArray), .int .i64 0, .slice none 0 0, .slice none 0 0]) ?_ 0 _ rfl; (with_reducible repeat (first | refine blk_drewN ?_ _ | refine blk_drew ?_ | refine blk_alloc ?_ _)); exact BK116.out) Tryd.underlying26 rfl (by kernel_rfl)) rfl ?_
    exact ⟨_, _, by first | rfl | (simp [errW_none, errW_some] <;> rfl) | (simp [*, errW_none, errW_some] <;> rfl), by first | exact Kd.R_nil _ _ _ _ _ | exact Kd.N_nil _ _ _ _ _ | exact Kd.V_nil _ _ _ _ _ | exact Kd.Q_nil _ _ _ _ _ | exact Kd.S_nil _ _ _ _ _, by first | exact Kd.R_nil _ _ _ _ _ | exact Kd.N_nil _ _ _ _ _ | exact Kd.V_nil _ _ _ _ _ | exact Kd.Q_nil _ _ _ _ _ | exact Kd.S_nil _ _ _ _ _, by repeat (first | (with_reducible first | exact HB.out | apply below_alloc | apply pw_below_drewN | apply below_drew1 | refine below_set ?_ GE116.out) | exact HB.out)⟩
   ·replace c8 := Bool.eq_false_iff.mpr c8
    subst c8
    have H1 : (if 0 < (t117.length : Int) then (if 1 < (t117.length : Int) then (if 2 < (t117.length : Int) then ((wire_Take.f (rdOf ByteArray.empty t117 2)).bind fun bt125 => (if 3 < (t117.length : Int) then ((wire_TakeAll.f (rdOf ByteArray.empty t117 3) 5 4000).bind fun bt129 => (if 4 < (t117.length : Int) then ((wire_TakeAll.f (rdOf ByteArray.empty t117 4) 5 4000).bind fun bt134 => ((rights_Put.f (rdOf ByteArray.empty t117 0) (rdOf ByteArray.empty t117 1) (wrap64 (mn bt125.1 8)) bt129.1 bt134.1).bind fun bt138 => (if bt138.2 = 0 then (if bt138.1.toList = a0.toList then (some (rdOf ByteArray.empty t117 0, rdOf ByteArray.empty t117 1, wrap64 (mn bt125.1 8), bt129.1, bt134.1, 0)) else (some ((⟨#[]⟩ : ByteArray), (⟨#[]⟩ : ByteArray), 0, ([] : List ByteArray), ([] : List ByteArray), 2))) else (some ((⟨#[]⟩ : ByteArray), (⟨#[]⟩ : ByteArray), 0, ([] : List ByteArray), ([] : List ByteArray), 2))))) else (none))) else (none))) else (none)) else (none)) else (none)) = some (r1, r2, r3, r4, r5, r6) := by rw [if_neg (show ¬ (false = true) by decide)] at H; exact H
    clear H
    have H := H1
    clear H1
    by_cases c10 : 0 < (t117.length : Int)
    ·rw [if_pos c10] at H
     have c10b0 : decide (0 < (t117.length : Int)) = true := decide_eq_true c10
     have c10b1 : decide (0 < t117.length) = true := decide_eq_true (by omega)
     clear c10
     by_cases c11 : 1 < (t117.length : Int)
     ·rw [if_pos c11] at H
      have c11b0 : decide (1 < (t117.length : Int)) = true := decide_eq_true c11
      have c11b1 : decide (1 < t117.length) = true := decide_eq_true (by omega)
      clear c11
      by_cases c12 : 2 < (t117.length : Int)
      ·rw [if_pos c12] at H
       have c12b0 : decide (2 < (t117.length : Int)) = true := decide_eq_true c12
       have c12b1 : decide (2 < t117.length) = true := decide_eq_true (by omega)
       clear c12
       replace H := Option.bind_eq_some_iff.mp H
       obtain ⟨⟨t125, t126, t127⟩, A130, H⟩ := H
       replace H : (if 3 < (t117.length : Int) then ((wire_TakeAll.f (rdOf ByteArray.empty t117 3) 5 4000).bind fun bt129 => (if 4 < (t117.length : Int) then ((wire_TakeAll.f (rdOf ByteArray.empty t117 4) 5 4000).bind fun bt134 => ((rights_Put.f (rdOf ByteArray.empty t117 0) (rdOf ByteArray.empty t117 1) (wrap64 (mn t125 8)) bt129.1 bt134.1).bind fun bt138 => (if bt138.2 = 0 then (if bt138.1.toList = a0.toList then (some (rdOf ByteArray.empty t117 0, rdOf ByteArray.empty t117 1, wrap64 (mn t125 8), bt129.1, bt134.1, 0)) else (some ((⟨#[]⟩ : ByteArray), (⟨#[]⟩ : ByteArray), 0, ([] : List ByteArray), ([] : List ByteArray), 2))) else (some ((⟨#[]⟩ : ByteArray), (⟨#[]⟩ : ByteArray), 0, ([] : List ByteArray), ([] : List ByteArray), 2))))) else (none))) else (none)) = some (r1, r2, r3, r4, r5, r6) := H
       have A13 := Aside0.mk A130
       clear A130
       obtain ⟨ji14, hji14⟩ : ∃ j_ : Int, (mn t125 8) = j_ := ⟨_, rfl⟩
       replace H : (if 3 < (t117.length : Int) then ((wire_TakeAll.f (rdOf ByteArray.empty t117 3) 5 4000).bind fun bt129 => (if 4 < (t117.length : Int) then ((wire_TakeAll.f (rdOf ByteArray.empty t117 4) 5 4000).bind fun bt134 => ((rights_Put.f (rdOf ByteArray.empty t117 0) (rdOf ByteArray.empty t117 1) (wrap64 (ji14)) bt129.1 bt134.1).bind fun bt138 => (if bt138.2 = 0 then (if bt138.1.toList = a0.toList then (some (rdOf ByteArray.empty t117 0, rdOf ByteArray.empty t117 1, wrap64 (ji14), bt129.1, bt134.1, 0)) else (some ((⟨#[]⟩ : ByteArray), (⟨#[]⟩ : ByteArray), 0, ([] : List ByteArray), ([] : List ByteArray), 2))) else (some ((⟨#[]⟩ : ByteArray), (⟨#[]⟩ : ByteArray), 0, ([] : List ByteArray), ([] : List ByteArray), 2))))) else (none))) else (none)) = some (r1, r2, r3, r4, r5, r6) := by first | (rw [hji14] at H; exact H) | (simp only [hji14] at H ⊢; exact H)
       (try rw [hji14] at A13)
       (try (have hji14h : ji14 ≤ 8 := by (rw [← hji14]; unfold mn; (repeat' split) <;> omega)))
       (try (have hji14g : ji14 ≤ 64 := by omega))
       have hji14_ : (if 8 < t125 then 8 else t125) = ji14 := hji14
       by_cases c15 : 3 < (t117.length : Int)
       ·rw [if_pos c15] at H
        have c15b0 : decide (3 < (t117.length : Int)) = true := decide_eq_true c15
        have c15b1 : decide (3 < t117.length) = true := decide_eq_true (by omega)
        clear c15
        replace H := Option.bind_eq_some_iff.mp H
        obtain ⟨⟨t129, t130⟩, A160, H⟩ := H
        replace H : (if 4 < (t117.length : Int) then ((wire_TakeAll.f (rdOf ByteArray.empty t117 4) 5 4000).bind fun bt134 => ((rights_Put.f (rdOf ByteArray.empty t117 0) (rdOf ByteArray.empty t117 1) (wrap64 (ji14)) t129 bt134.1).bind fun bt138 => (if bt138.2 = 0 then (if bt138.1.toList = a0.toList then (some (rdOf ByteArray.empty t117 0, rdOf ByteArray.empty t117 1, wrap64 (ji14), t129, bt134.1, 0)) else (some ((⟨#[]⟩ : ByteArray), (⟨#[]⟩ : ByteArray), 0, ([] : List ByteArray), ([] : List ByteArray), 2))) else (some ((⟨#[]⟩ : ByteArray), (⟨#[]⟩ : ByteArray), 0, ([] : List ByteArray), ([] : List ByteArray), 2))))) else (none)) = some (r1, r2, r3, r4, r5, r6) := H
        have A16 := Aside0.mk A160
        clear A160
        by_cases c17 : 4 < (t117.length : Int)
        ·rw [if_pos c17] at H
         have c17b0 : decide (4 < (t117.length : Int)) = true := decide_eq_true c17
         have c17b1 : decide (4 < t117.length) = true := decide_eq_true (by omega)
         clear c17
         replace H := Option.bind_eq_some_iff.mp H
         obtain ⟨⟨t134, t135⟩, A180, H⟩ := H
         replace H : ((rights_Put.f (rdOf ByteArray.empty t117 0) (rdOf ByteArray.empty t117 1) (wrap64 (ji14)) t129 t134).bind fun bt138 => (if bt138.2 = 0 then (if bt138.1.toList = a0.toList then (some (rdOf ByteArray.empty t117 0, rdOf ByteArray.empty t117 1, wrap64 (ji14), t129, t134, 0)) else (some ((⟨#[]⟩ : ByteArray), (⟨#[]⟩ : ByteArray), 0, ([] : List ByteArray), ([] : List ByteArray), 2))) else (some ((⟨#[]⟩ : ByteArray), (⟨#[]⟩ : ByteArray), 0, ([] : List ByteArray), ([] : List ByteArray), 2)))) = some (r1, r2, r3, r4, r5, r6) := H
         have A18 := Aside0.mk A180
         clear A180
         replace H := Option.bind_eq_some_iff.mp H
         obtain ⟨⟨t138, t139⟩, A190, H⟩ := H
         replace H : (if t139 = 0 then (if t138.toList = a0.toList then (some (rdOf ByteArray.empty t117 0, rdOf ByteArray.empty t117 1, wrap64 (ji14), t129, t134, 0)) else (some ((⟨#[]⟩ : ByteArray), (⟨#[]⟩ : ByteArray), 0, ([] : List ByteArray), ([] : List ByteArray), 2))) else (some ((⟨#[]⟩ : ByteArray), (⟨#[]⟩ : ByteArray), 0, ([] : List ByteArray), ([] : List ByteArray), 2))) = some (r1, r2, r3, r4, r5, r6) := H
         have A19 := Aside0.mk A190
         clear A190
         by_cases c20 : t139 = 0
         ·rw [if_pos c20] at H
          have c20b0 : (t139 == 0) = true := beq_iff_eq.mpr c20
          have c20b1 : (t139 != 0) = false := bne_eq_false_iff_eq.mpr c20
          clear c20
          by_cases c21 : t138.toList = a0.toList
          ·rw [if_pos c21] at H
           have c21b0 : (t138.toList == a0.toList) = true := beq_iff_eq.mpr c21
           have c21b1 : (t138.toList != a0.toList) = false := bne_eq_false_iff_eq.mpr c21
           clear c21
           simp only [Option.some.injEq, Prod.mk.injEq] at H
           obtain ⟨rfl, rfl, rfl, rfl, rfl, rfl⟩ := H
           try go_wp2
           have n0_ := Aside0.mk (Kd.R_drew HO_4.out)
           have n1_ := Aside0.mk (blk_drew BK116.out)
           have n2_ := Aside0.mk (below_drew1 HB.out)
           clear HO_4
           clear BK116
           clear HB
           have HO_4 := n0_
           have BK116 := n1_
           have HB := n2_
           clear n0_ n1_ n2_
           obtain ⟨Ao23, co23, eo23⟩ := Kd.R_slice HO_4.out
           (first | subst eo23 | (injection eo23 with f1_ f2_ f3_; have f4_ := f1_.symm; have f5_ := f3_.symm; clear f1_ f2_ f3_; subst f4_; subst f5_))
           have p121 : 0 ≤ (0 : Int) := (by omega)
           have q121 : 0 < (t117.length : Int) := of_decide_eq_true (by first | (with_reducible assumption) | assumption)
           obtain ⟨ad121, e121, hx121_0⟩ := Kd.at_string (Kd.R_reads' HO_4.out).2.2 0 p121 q121
           cases e121
           have qi121 : (0 < t117.length) = True := eq_true (by omega)
           (try rw [show ((0 : Int)).toNat = 0 from rfl] at hx121_0)
           (try rw [Addr.add_zero'] at hx121_0)
           replace p121 := eq_true p121
           replace q121 := eq_true q121
           have p122 : 0 ≤ (1 : Int) := (by omega)
           have q122 : 1 < (t117.length : Int) := of_decide_eq_true (by first | (with_reducible assumption) | assumption)
           obtain ⟨ad122, e122, hx122_0⟩ := Kd.at_string (Kd.R_reads' HO_4.out).2.2 1 p122 q122
           obtain rfl : ad121 = ad122 := (by injection e122)
           (try simp only [show (1 : Int).toNat = 1 from rfl, Nat.reduceMul, Nat.reduceEqDiff, Go.Addr.add, ↓reduceIte] at hx122_0)
           have qi122 : (1 < t117.length) = True := eq_true (by omega)
           (try rw [show ((1 : Int)).toNat = 1 from rfl] at hx122_0)
           replace p122 := eq_true p122
           replace q122 := eq_true q122
           refine start_ (n := 9) (S := fun w' => w'.cell? ad121 = some (.string (rdOf ByteArray.empty t117 0)) ∧ w'.cell? ⟨ad121.block, ad121.off + 1, none⟩ = some (.string (rdOf ByteArray.empty t117 1))) (ds := []) #[false, false, false, false, false, false, false, false, false] (by kernel_rfl) rfl rfl ⟨hx121_0, hx122_0⟩ (fun hHeld => ?_); refine with_tabW rights_Take.tab4 rights_Take.bits4 (fun HT_ HW_ => ?_)
           generalize wc.drew = w22 at HO_4 BK116 HB hx121_0 hx122_0 hHeld ⊢
           refine pure_ (i := 0) (N := some 25) (v := ?_) (a' := ?_) #[true, false, false, false, false, false, false, false, false] rfl rfl (any_of HT_.out (by kernel_rfl)) (fun _ _ _ h => h) (Or.inl ⟨by rfl, ?_⟩) ?_ ?_
           rotate_left
           ·intro w'
            go_simp
            with_reducible rfl
           rotate_left
           ·simp only [Act.put, List.setIfInBounds_toArray, List.set_cons_zero, List.set_cons_succ, i64_w, i32_w]
            rfl
           refine pure_ (i := 1) (N := some 26) (v := ?_) (a' := ?_) #[true, true, false, false, false, false, false, false, false] rfl rfl (any_of HT_.out (by kernel_rfl)) (fun _ _ _ h => h) (Or.inl ⟨by rfl, ?_⟩) ?_ ?_
           rotate_left
           ·intro w'
            go_simp
            with_reducible rfl
           rotate_left
           ·simp only [Act.put, List.setIfInBounds_toArray, List.set_cons_zero, List.set_cons_succ, i64_w, i32_w]
            rfl
           refine pure_ (i := 3) (N := some 28) (v := ?_) (a' := ?_) #[true, true, false, true, false, false, false, false, false] rfl rfl (any_of HT_.out (by kernel_rfl)) (fun _ _ _ h => h) (Or.inl ⟨by rfl, ?_⟩) ?_ ?_
           rotate_left
           ·intro w'
            go_simp
            with_reducible rfl
           rotate_left
           ·simp only [Act.put, List.setIfInBounds_toArray, List.set_cons_zero, List.set_cons_succ, i64_w, i32_w]
            rfl
           refine pure_ (i := 4) (N := some 29) (v := ?_) (a' := ?_) #[true, true, false, true, true, false, false, false, false] rfl rfl (any_of HT_.out (by kernel_rfl)) (fun _ _ _ h => h) (Or.inl ⟨by rfl, ?_⟩) ?_ ?_
           rotate_left
           ·intro w'
            go_simp
            with_reducible rfl
           rotate_left
           ·simp only [Act.put, List.setIfInBounds_toArray, List.set_cons_zero, List.set_cons_succ, i64_w, i32_w]
            rfl
           refine take_ (i := 2) (N := some 27) (v := ?_) (a' := ?_) #[true, true, true, true, true, false, false, false, false] rfl rfl (take_ofW HT_.out HW_.out (by kernel_rfl)) (fun _ _ _ h => h) (Or.inl ⟨by rfl, ?_⟩) hHeld ?_ ?_
           rotate_left
           ·rintro w' ⟨s0, s1⟩
            go_simp
            with_reducible rfl
           rotate_left
           ·simp only [Act.put, List.setIfInBounds_toArray, List.set_cons_zero, List.set_cons_succ, i64_w, i32_w]
            rfl
           refine take_ (i := 5) (N := some 30) (v := ?_) (a' := ?_) #[true, true, true, true, true, true, false, false, false] rfl rfl (take_ofW HT_.out HW_.out (by kernel_rfl)) (fun _ _ _ h => h) (Or.inl ⟨by rfl, ?_⟩) hHeld ?_ ?_
           rotate_left
           ·rintro w' ⟨s0, s1⟩
            go_simp
            with_reducible rfl
           rotate_left
           ·simp only [Act.put, List.setIfInBounds_toArray, List.set_cons_zero, List.set_cons_succ, i64_w, i32_w]
            rfl
           refine pure_ (i := 6) (N := some 31) (v := ?_) (a' := ?_) #[true, true, true, true, true, true, true, false, false] rfl rfl (any_of HT_.out (by kernel_rfl)) (fun _ _ _ h => h) (Or.inl ⟨by rfl, ?_⟩) ?_ ?_
           rotate_left
           ·intro w'
            go_simp
            with_reducible rfl
           rotate_left
           ·simp only [Act.put, List.setIfInBounds_toArray, List.set_cons_zero, List.set_cons_succ, i64_w, i32_w]
            rfl
           refine one_ (i := 7) (N := some 6) #[true, true, true, true, true, true, true, true, false] rfl rfl (one_of HT_.out (by kernel_rfl)) (by decide) (fun K hK => ?_)
           refine box_step ?hg (N := 6) ?hd (cs := #[.string (⟨#[]⟩ : ByteArray), .string (⟨#[]⟩ : ByteArray), .int .i64 0, .slice none 0 0, .slice none 0 0]) (t := 26) ?hr ?_; (case hd => rfl); (case hg => rfl); (case hr => first | (go_simp; done) | (go_simp; rfl))
           intro gb123 hg w24 hbox hb
           have HS0_ := (hb.cell (World.block_lt_of_cell? _ _ (hHeld.1))).trans (hHeld.1)
           have HS1_ := (hb.cell (World.block_lt_of_cell? _ _ (hHeld.2))).trans (hHeld.2)
           have n0_ := Aside0.mk (Kd.R_below (by (with_reducible repeat (first | apply Kd.R_alloc | apply Kd.R_drewN | apply Kd.R_drew)); exact HO_4.out) hb)
           have n1_ := Aside0.mk (blk_below (g := gb116) (o := .cells #[.string (⟨#[]⟩ : ByteArray), .string (⟨#[]⟩ : ByteArray), .int .i64 0, .slice none 0 0, .slice none 0 0] 26 (0, 0)) (by (with_reducible repeat (first | refine blk_drewN ?_ _ | refine blk_drew ?_ | refine blk_alloc ?_ _)); exact BK116.out) hb)
           have n2_ := Aside0.mk (below_step (by repeat (first | (with_reducible first | exact HB.out | apply below_alloc | apply pw_below_drewN | apply below_drew1 | refine below_set ?_ GE116.out) | exact HB.out)) hb)
           have n3_ := Aside0.mk (hbox)
           have n4_ := Aside0.mk ((by rw [hg]; exact (below_size (by repeat (first | (with_reducible first | exact HB.out | apply below_alloc | apply pw_below_drewN | apply below_drew1 | refine below_set ?_ GE116.out) | exact HB.out))) : w.heap.size ≤ gb123))
           have n5_ := Aside0.mk ((by rw [hg]; exact (below_size (by repeat (first | (with_reducible first | exact HB.out | apply below_alloc | apply pw_below_drewN | apply below_drew1 | refine below_set ?_ GE116.out) | exact HB.out))) : w.heap.size ≤ gb123))
           have n6_ := Aside0.mk ((by rw [hg]; exact Nat.ne_of_lt (blk_lt (g := gb116) (o := .cells #[.string (⟨#[]⟩ : ByteArray), .string (⟨#[]⟩ : ByteArray), .int .i64 0, .slice none 0 0, .slice none 0 0] 26 (0, 0)) (by (with_reducible repeat (first | refine blk_drewN ?_ _ | refine blk_drew ?_ | refine blk_alloc ?_ _)); exact BK116.out)) : gb116 ≠ gb123))
           have n7_ := Aside0.mk ((by rw [hg]; exact Nat.ne_of_gt (blk_lt (g := gb116) (o := .cells #[.string (⟨#[]⟩ : ByteArray), .string (⟨#[]⟩ : ByteArray), .int .i64 0, .slice none 0 0, .slice none 0 0] 26 (0, 0)) (by (with_reducible repeat (first | refine blk_drewN ?_ _ | refine blk_drew ?_ | refine blk_alloc ?_ _)); exact BK116.out)) : gb123 ≠ gb116))
           clear HO_4
           clear BK116
           clear HB
           have HO_4 := n0_
           have BK116 := n1_
           have HB := n2_
           have BK123 := n3_
           have GW123 := n4_
           have GE123 := n5_
           have NB116_123 := n6_
           have NB123_116 := n7_
           clear n0_ n1_ n2_ n3_ n4_ n5_ n6_ n7_
           clear hb hbox hg
           refine hK.out _ _ ⟨HS0_, HS1_⟩ (fun hHeld => ?_)
           clear hK K
           refine norm_ (a' := ?_) ?_ ?_
           rotate_left
           ·show Act.put _ (some 6) _ = _
            simp only [Act.put, List.setIfInBounds_toArray, List.set_cons_zero, List.set_cons_succ, i64_w, i32_w]
            rfl
           refine one_ (i := 8) (N := none) #[true, true, true, true, true, true, true, true, true] rfl rfl (one_of HT_.out (by kernel_rfl)) (by decide) (fun K hK => ?_)
           have hs25 : w24.cell? ⟨gb123, 0, none⟩ = some (.string (⟨#[]⟩ : ByteArray)) := (blk_cell BK123.out 0).trans rfl
           have hfs25 := blk_frozen BK123.out 0
           have hns25_0 := NB116_123.out
           have hms25_0 := NB123_116.out
           have hs26 : w24.cell? ⟨gb123, 1, none⟩ = some (.string (⟨#[]⟩ : ByteArray)) := (blk_cell BK123.out 1).trans rfl
           have hfs26 := blk_frozen BK123.out 1
           have hns26_0 := NB116_123.out
           have hms26_0 := NB123_116.out
           have hs27 : w24.cell? ⟨gb123, 2, none⟩ = some (.int .i64 0) := (blk_cell BK123.out 2).trans rfl
           have hfs27 := blk_frozen BK123.out 2
           have hns27_0 := NB116_123.out
           have hms27_0 := NB123_116.out
           have hs28 : w24.cell? ⟨gb123, 3, none⟩ = some (.slice none 0 0) := (blk_cell BK123.out 3).trans rfl
           have hfs28 := blk_frozen BK123.out 3
           have hns28_0 := NB116_123.out
           have hms28_0 := NB123_116.out
           have hs29 : w24.cell? ⟨gb123, 4, none⟩ = some (.slice none 0 0) := (blk_cell BK123.out 4).trans rfl
           have hfs29 := blk_frozen BK123.out 4
           have hns29_0 := NB116_123.out
           have hms29_0 := NB123_116.out
           refine skip_ (w1 := ?_) (by rfl) rfl ?_ ?_
           rotate_left
           ·go_simp
            rfl
           refine hK.out _ _ ⟨((cell_far (p := ⟨gb123, _, none⟩) (by first | exact Kd.own_blk (Kd.R_ne HO_4.out BK123.out (by decide)) | (rw [add_block]; exact Kd.own_blk (Kd.R_ne HO_4.out BK123.out (by decide))) | (show (Addr.add _ _).block ≠ _; rw [add_block]; exact Kd.own_blk (Kd.R_ne HO_4.out BK123.out (by decide))) | (dsimp only; exact Kd.own_blk (Kd.R_ne HO_4.out BK123.out (by decide)))) _).trans (((cell_far (p := ⟨gb123, _, none⟩) (by first | exact Kd.own_blk (Kd.R_ne HO_4.out BK123.out (by decide)) | (rw [add_block]; exact Kd.own_blk (Kd.R_ne HO_4.out BK123.out (by decide))) | (show (Addr.add _ _).block ≠ _; rw [add_block]; exact Kd.own_blk (Kd.R_ne HO_4.out BK123.out (by decide))) | (dsimp only; exact Kd.own_blk (Kd.R_ne HO_4.out BK123.out (by decide)))) _).trans (((cell_far (p := ⟨gb123, _, none⟩) (by first | exact Kd.own_blk (Kd.R_ne HO_4.out BK123.out (by decide)) | (rw [add_block]; exact Kd.own_blk (Kd.R_ne HO_4.out BK123.out (by decide))) | (show (Addr.add _ _).block ≠ _; rw [add_block]; exact Kd.own_blk (Kd.R_ne HO_4.out BK123.out (by decide))) | (dsimp only; exact Kd.own_blk (Kd.R_ne HO_4.out BK123.out (by decide)))) _).trans (((cell_far (p := ⟨gb123, _, none⟩) (by first | exact Kd.own_blk (Kd.R_ne HO_4.out BK123.out (by decide)) | (rw [add_block]; exact Kd.own_blk (Kd.R_ne HO_4.out BK123.out (by decide))) | (show (Addr.add _ _).block ≠ _; rw [add_block]; exact Kd.own_blk (Kd.R_ne HO_4.out BK123.out (by decide))) | (dsimp only; exact Kd.own_blk (Kd.R_ne HO_4.out BK123.out (by decide)))) _).trans (((cell_far (p := ⟨gb123, _, none⟩) (by first | exact Kd.own_blk (Kd.R_ne HO_4.out BK123.out (by decide)) | (rw [add_block]; exact Kd.own_blk (Kd.R_ne HO_4.out BK123.out (by decide))) | (show (Addr.add _ _).block ≠ _; rw [add_block]; exact Kd.own_blk (Kd.R_ne HO_4.out BK123.out (by decide))) | (dsimp only; exact Kd.own_blk (Kd.R_ne HO_4.out BK123.out (by decide)))) _).trans (hHeld.1)))))))))), ((cell_far (p := ⟨gb123, _, none⟩) (by first | exact Kd.own_blk (Kd.R_ne HO_4.out BK123.out (by decide)) | (rw [add_block]; exact Kd.own_blk (Kd.R_ne HO_4.out BK123.out (by decide))) | (show (Addr.add _ _).block ≠ _; rw [add_block]; exact Kd.own_blk (Kd.R_ne HO_4.out BK123.out (by decide))) | (dsimp only; exact Kd.own_blk (Kd.R_ne HO_4.out BK123.out (by decide)))) _).trans (((cell_far (p := ⟨gb123, _, none⟩) (by first | exact Kd.own_blk (Kd.R_ne HO_4.out BK123.out (by decide)) | (rw [add_block]; exact Kd.own_blk (Kd.R_ne HO_4.out BK123.out (by decide))) | (show (Addr.add _ _).block ≠ _; rw [add_block]; exact Kd.own_blk (Kd.R_ne HO_4.out BK123.out (by decide))) | (dsimp only; exact Kd.own_blk (Kd.R_ne HO_4.out BK123.out (by decide)))) _).trans (((cell_far (p := ⟨gb123, _, none⟩) (by first | exact Kd.own_blk (Kd.R_ne HO_4.out BK123.out (by decide)) | (rw [add_block]; exact Kd.own_blk (Kd.R_ne HO_4.out BK123.out (by decide))) | (show (Addr.add _ _).block ≠ _; rw [add_block]; exact Kd.own_blk (Kd.R_ne HO_4.out BK123.out (by decide))) | (dsimp only; exact Kd.own_blk (Kd.R_ne HO_4.out BK123.out (by decide)))) _).trans (((cell_far (p := ⟨gb123, _, none⟩) (by first | exact Kd.own_blk (Kd.R_ne HO_4.out BK123.out (by decide)) | (rw [add_block]; exact Kd.own_blk (Kd.R_ne HO_4.out BK123.out (by decide))) | (show (Addr.add _ _).block ≠ _; rw [add_block]; exact Kd.own_blk (Kd.R_ne HO_4.out BK123.out (by decide))) | (dsimp only; exact Kd.own_blk (Kd.R_ne HO_4.out BK123.out (by decide)))) _).trans (((cell_far (p := ⟨gb123, _, none⟩) (by first | exact Kd.own_blk (Kd.R_ne HO_4.out BK123.out (by decide)) | (rw [add_block]; exact Kd.own_blk (Kd.R_ne HO_4.out BK123.out (by decide))) | (show (Addr.add _ _).block ≠ _; rw [add_block]; exact Kd.own_blk (Kd.R_ne HO_4.out BK123.out (by decide))) | (dsimp only; exact Kd.own_blk (Kd.R_ne HO_4.out BK123.out (by decide)))) _).trans (hHeld.2))))))))))⟩ (fun hHeld => ?_)
           clear hK K
           refine done_ (done_of HT_.out (by kernel_rfl)) ?_
           have p124 : 0 ≤ (2 : Int) := (by omega)
           have q124 : 2 < (t117.length : Int) := of_decide_eq_true (by first | (with_reducible assumption) | assumption)
           obtain ⟨ad124, e124, hx124_0⟩ := Kd.at_string (Kd.R_reads' HO_4.out).2.2 2 p124 q124
           obtain rfl : ad121 = ad124 := (by injection e124)
           (try simp only [show (2 : Int).toNat = 2 from rfl, Nat.reduceMul, Nat.reduceEqDiff, Go.Addr.add, ↓reduceIte] at hx124_0)
           have qi124 : (2 < t117.length) = True := eq_true (by omega)
           (try rw [show ((2 : Int)).toNat = 2 from rfl] at hx124_0)
           have hn124_0 : ad121.block ≠ gb123 := Kd.own_blk (Kd.R_ne HO_4.out BK123.out (by decide))
           have hn124_1 : ad121.block ≠ gb123 := Kd.own_blk (Kd.R_ne HO_4.out BK123.out (by decide))
           have hn124_2 : ad121.block ≠ gb123 := Kd.own_blk (Kd.R_ne HO_4.out BK123.out (by decide))
           have hn124_3 : ad121.block ≠ gb123 := Kd.own_blk (Kd.R_ne HO_4.out BK123.out (by decide))
           have hn124_4 : ad121.block ≠ gb123 := Kd.own_blk (Kd.R_ne HO_4.out BK123.out (by decide))
           replace hx124_0 := (cell_far (p := ⟨gb123, 0, none⟩) (by first | (rw [add_block]; exact hn124_0) | (show (Addr.add _ _).block ≠ _; rw [add_block]; exact hn124_0) | exact hn124_0) (.string (rdOf ByteArray.empty t117 0))).trans hx124_0
           replace hx124_0 := (cell_far (p := ⟨gb123, 1, none⟩) (by first | (rw [add_block]; exact hn124_1) | (show (Addr.add _ _).block ≠ _; rw [add_block]; exact hn124_1) | exact hn124_1) (.string (rdOf ByteArray.empty t117 1))).trans hx124_0
           replace hx124_0 := (cell_far (p := ⟨gb123, 2, none⟩) (by first | (rw [add_block]; exact hn124_2) | (show (Addr.add _ _).block ≠ _; rw [add_block]; exact hn124_2) | exact hn124_2) (.int .i64 0)).trans hx124_0
           replace hx124_0 := (cell_far (p := ⟨gb123, 3, none⟩) (by first | (rw [add_block]; exact hn124_3) | (show (Addr.add _ _).block ≠ _; rw [add_block]; exact hn124_3) | exact hn124_3) (.slice none 0 0)).trans hx124_0
           replace hx124_0 := (cell_far (p := ⟨gb123, 4, none⟩) (by first | (rw [add_block]; exact hn124_4) | (show (Addr.add _ _).block ≠ _; rw [add_block]; exact hn124_4) | exact hn124_4) (.slice none 0 0)).trans hx124_0
           clear hn124_0
           clear hn124_1
           clear hn124_2
           clear hn124_3
           clear hn124_4
           replace p124 := eq_true p124
           replace q124 := eq_true q124
           try go_wp2_with (first | ((with_reducible refine gate_callee (f := 46) rfl ?_); refine goesL_ (some 36) rfl rfl Tryd.func46 (by kernel_rfl) rfl #[.string (rdOf ByteArray.empty t117 2)] rfl (by (try simp only [List.map_toArray, List.map_cons, List.map_nil]); first | done | rfl | (simp only [List.length_drop, List.length_take]; rfl)) ?_; (with_reducible refine (wire_Take.calls (rdOf ByteArray.empty t117 2) t125 t126 t127 _ A13.out).mono ?_); rintro e w30 ⟨rfl, hb⟩; refine ⟨_, rfl, ?_⟩; have n0_ := Aside0.mk (Kd.R_below (by (with_reducible repeat (first | apply Kd.R_alloc | apply Kd.R_drewN | apply Kd.R_drew)); exact (Kd.R_mono (Kd.R_far (p := ⟨gb123, 4, none⟩) (Kd.R_far (p := ⟨gb123, 3, none⟩) (Kd.R_far (p := ⟨gb123, 2, none⟩) (Kd.R_far (p := ⟨gb123, 1, none⟩) (Kd.R_far (p := ⟨gb123, 0, none⟩) (Kd.R_types HO_4.out BK123.out (by decide)) (fun _ hk => hk.2) (.string (rdOf ByteArray.empty t117 0))) (fun _ hk => hk.2) (.string (rdOf ByteArray.empty t117 1))) (fun _ hk => hk.2) (.int .i64 0)) (fun _ hk => hk.2) (.slice none 0 0)) (fun _ hk => hk.2) (.slice none 0 0)) (fun _ h_ => h_.1))) hb); have n1_ := Aside0.mk (blk_below (g := gb116) (o := .cells #[.string (⟨#[]⟩ : ByteArray), .string (⟨#[]⟩ : ByteArray), .int .i64 0, .slice none 0 0, .slice none 0 0] 26 (0, 0)) (by (with_reducible repeat (first | refine blk_drewN ?_ _ | refine blk_drew ?_ | refine blk_alloc ?_ _)); refine blk_far ?_ NB116_123.out _; (with_reducible repeat (first | refine blk_drewN ?_ _ | refine blk_drew ?_ | refine blk_alloc ?_ _)); refine blk_far ?_ NB116_123.out _; (with_reducible repeat (first | refine blk_drewN ?_ _ | refine blk_drew ?_ | refine blk_alloc ?_ _)); refine blk_far ?_ NB116_123.out _; (with_reducible repeat (first | refine blk_drewN ?_ _ | refine blk_drew ?_ | refine blk_alloc ?_ _)); refine blk_far ?_ NB116_123.out _; (with_reducible repeat (first | refine blk_drewN ?_ _ | refine blk_drew ?_ | refine blk_alloc ?_ _)); refine blk_far ?_ NB116_123.out _; (with_reducible repeat (first | refine blk_drewN ?_ _ | refine blk_drew ?_ | refine blk_alloc ?_ _)); exact BK116.out) hb); have n2_ := Aside0.mk (blk_below (g := gb123) (o := .cells #[.string (rdOf ByteArray.empty t117 0), .string (rdOf ByteArray.empty t117 1), .int .i64 0, .slice none 0 0, .slice none 0 0] 26 (0, 0)) (by (with_reducible repeat (first | refine blk_drewN ?_ _ | refine blk_drew ?_ | refine blk_alloc ?_ _)); refine blk_put (cs := #[.string (rdOf ByteArray.empty t117 0), .string (rdOf ByteArray.empty t117 1), .int .i64 0, .slice none 0 0, .slice none 0 0]) ?_ 4 _ rfl; (with_reducible repeat (first | refine blk_drewN ?_ _ | refine blk_drew ?_ | refine blk_alloc ?_ _)); refine blk_put (cs := #[.string (rdOf ByteArray.empty t117 0), .string (rdOf ByteArray.empty t117 1), .int .i64 0, .slice none 0 0, .slice none 0 0]) ?_ 3 _ rfl; (with_reducible repeat (first | refine blk_drewN ?_ _ | refine blk_drew ?_ | refine blk_alloc ?_ _)); refine blk_put (cs := #[.string (rdOf ByteArray.empty t117 0), .string (rdOf ByteArray.empty t117 1), .int .i64 0, .slice none 0 0, .slice none 0 0]) ?_ 2 _ rfl; (with_reducible repeat (first | refine blk_drewN ?_ _ | refine blk_drew ?_ | refine blk_alloc ?_ _)); refine blk_put (cs := #[.string (rdOf ByteArray.empty t117 0), .string (⟨#[]⟩ : ByteArray), .int .i64 0, .slice none 0 0, .slice none 0 0]) ?_ 1 _ rfl; (with_reducible repeat (first | refine blk_drewN ?_ _ | refine blk_drew ?_ | refine blk_alloc ?_ _)); refine blk_put (cs := #[.string (⟨#[]⟩ : ByteArray), .string (⟨#[]⟩ : ByteArray), .int .i64 0, .slice none 0 0, .slice none 0 0]) ?_ 0 _ rfl; (with_reducible repeat (first | refine blk_drewN ?_ _ | refine blk_drew ?_ | refine blk_alloc ?_ _)); exact BK123.out) hb); have n3_ := Aside0.mk (below_step (by repeat (first | (with_reducible first | exact HB.out | apply below_alloc | apply pw_below_drewN | apply below_drew1 | refine below_set ?_ GE116.out | refine below_set ?_ GE123.out) | exact HB.out)) hb); clear HO_4; clear BK116; clear BK123; clear HB; have HO_4 := n0_; have BK116 := n1_; have BK123 := n2_; have HB := n3_; clear n0_ n1_ n2_ n3_; (try clear hb); (try clear hb2); (try clear hk); (try clear hi); have hnb31 := NB123_116.out; have hnc31 := NB116_123.out; have hcz32_0 : w30.cell? ⟨gb123, 0, none⟩ = some (.string (rdOf ByteArray.empty t117 0)) := (blk_cell BK123.out 0).trans rfl; have hcz32_1 : w30.cell? ⟨gb123, 1, none⟩ = some (.string (rdOf ByteArray.empty t117 1)) := (blk_cell BK123.out 1).trans rfl; have hcz32_2 : w30.cell? ⟨gb123, 2, none⟩ = some (.int .i64 0) := (blk_cell BK123.out 2).trans rfl; have hcz32_3 : w30.cell? ⟨gb123, 3, none⟩ = some (.slice none 0 0) := (blk_cell BK123.out 3).trans rfl; have hcz32_4 : w30.cell? ⟨gb123, 4, none⟩ = some (.slice none 0 0) := (blk_cell BK123.out 4).trans rfl; have hfz32_0 := blk_frozen BK123.out 0; have hfz32_1 := blk_frozen BK123.out 1; have hfz32_2 := blk_frozen BK123.out 2; have hfz32_3 := blk_frozen BK123.out 3; have hfz32_4 := blk_frozen BK123.out 4; have p128 : 0 ≤ (3 : Int) := (by omega); have q128 : 3 < (t117.length : Int) := of_decide_eq_true (by first | (with_reducible assumption) | assumption); obtain ⟨ad128, e128, hx128_0⟩ := Kd.at_string (Kd.R_reads' HO_4.out).2.2 3 p128 q128; obtain rfl : ad121 = ad128 := (by injection e128); (try simp only [show (3 : Int).toNat = 3 from rfl, Nat.reduceMul, Nat.reduceEqDiff, Go.Addr.add, ↓reduceIte] at hx128_0); have qi128 : (3 < t117.length) = True := eq_true (by omega); (try rw [show ((3 : Int)).toNat = 3 from rfl] at hx128_0); have hn128_0 : ad121.block ≠ gb123 := Kd.own_blk (Kd.R_ne HO_4.out BK123.out (by decide)); replace hx128_0 := (cell_far (p := ⟨gb123, 2, none⟩) (by first | (rw [add_block]; exact hn128_0) | (show (Addr.add _ _).block ≠ _; rw [add_block]; exact hn128_0) | exact hn128_0) (.int .i64 (wrap64 (ji14)))).trans hx128_0; clear hn128_0; replace p128 := eq_true p128; replace q128 := eq_true q128) | ((with_reducible refine gate_callee (f := 45) rfl ?_); refine goesL_ (some 48) rfl rfl Tryd.func45 (by kernel_rfl) rfl #[.string (rdOf ByteArray.empty t117 3), .int .i64 5, .int .i64 4000] rfl (by (try simp only [List.map_toArray, List.map_cons, List.map_nil]); first | done | rfl | (simp only [List.length_drop, List.length_take]; rfl)) ?_; (with_reducible refine (wire_TakeAll.calls (rdOf ByteArray.empty t117 3) 5 4000 t129 t130 _ A16.out).mono ?_); rintro e w33 ⟨v131, rfl, ho0, hb⟩; refine ⟨_, rfl, ?_⟩; have n0_ := Aside0.mk (Kd.R_elder' (by (with_reducible repeat (first | apply Kd.R_alloc | apply Kd.R_drewN | apply Kd.R_drew)); exact (Kd.R_mono (Kd.R_far (p := ⟨gb123, 2, none⟩) (Kd.R_types HO_4.out BK123.out (by decide)) (fun _ hk => hk.2) (.int .i64 (wrap64 (ji14)))) (fun _ h_ => h_.1))) (Kd.R_base ho0) hb); have n1_ := Aside0.mk (Kd.R_lower (Kd.R_new' ho0 (Kd.R_lt (by (with_reducible repeat (first | apply Kd.R_alloc | apply Kd.R_drewN | apply Kd.R_drew)); exact (Kd.R_mono (Kd.R_far (p := ⟨gb123, 2, none⟩) (Kd.R_types HO_4.out BK123.out (by decide)) (fun _ hk => hk.2) (.int .i64 (wrap64 (ji14)))) (fun _ h_ => h_.1))))) (below_size (by repeat (first | (with_reducible first | exact HB.out | apply below_alloc | apply pw_below_drewN | apply below_drew1 | refine below_set ?_ GE116.out | refine below_set ?_ GE123.out) | exact HB.out)))); have n2_ := Aside0.mk (blk_below (g := gb116) (o := .cells #[.string (⟨#[]⟩ : ByteArray), .string (⟨#[]⟩ : ByteArray), .int .i64 0, .slice none 0 0, .slice none 0 0] 26 (0, 0)) (by (with_reducible repeat (first | refine blk_drewN ?_ _ | refine blk_drew ?_ | refine blk_alloc ?_ _)); refine blk_far ?_ NB116_123.out _; (with_reducible repeat (first | refine blk_drewN ?_ _ | refine blk_drew ?_ | refine blk_alloc ?_ _)); exact BK116.out) hb); have n3_ := Aside0.mk (blk_below (g := gb123) (o := .cells #[.string (rdOf ByteArray.empty t117 0), .string (rdOf ByteArray.empty t117 1), .int .i64 (wrap64 (ji14)), .slice none 0 0, .slice none 0 0] 26 (0, 0)) (by (with_reducible repeat (first | refine blk_drewN ?_ _ | refine blk_drew ?_ | refine blk_alloc ?_ _)); refine blk_put (cs := #[.string (rdOf ByteArray.empty t117 0), .string (rdOf ByteArray.empty t117 1), .int .i64 0, .slice none 0 0, .slice none 0 0]) ?_ 2 _ rfl; (with_reducible repeat (first | refine blk_drewN ?_ _ | refine blk_drew ?_ | refine blk_alloc ?_ _)); exact BK123.out) hb); have n4_ := Aside0.mk (below_step (by repeat (first | (with_reducible first | exact HB.out | apply below_alloc | apply pw_below_drewN | apply below_drew1 | refine below_set ?_ GE116.out | refine below_set ?_ GE123.out) | exact HB.out)) hb); clear HO_4; clear BK116; clear BK123; clear HB; have HO_4 := n0_; have HO132 := n1_; have BK116 := n2_; have BK123 := n3_; have HB := n4_; clear n0_ n1_ n2_ n3_ n4_; (try clear hb); (try clear hb2); (try clear hk); (try clear hi); (try clear ho0); obtain ⟨Ao34, co34, eo34⟩ := Kd.R_slice HO132.out; subst eo34; have hcz35_0 : w33.cell? ⟨gb123, 0, none⟩ = some (.string (rdOf ByteArray.empty t117 0)) := (blk_cell BK123.out 0).trans rfl; have hcz35_1 : w33.cell? ⟨gb123, 1, none⟩ = some (.string (rdOf ByteArray.empty t117 1)) := (blk_cell BK123.out 1).trans rfl; have hcz35_2 : w33.cell? ⟨gb123, 2, none⟩ = some (.int .i64 (wrap64 (ji14))) := (blk_cell BK123.out 2).trans rfl; have hcz35_3 : w33.cell? ⟨gb123, 3, none⟩ = some (.slice none 0 0) := (blk_cell BK123.out 3).trans rfl; have hcz35_4 : w33.cell? ⟨gb123, 4, none⟩ = some (.slice none 0 0) := (blk_cell BK123.out 4).trans rfl; have hfz35_0 := blk_frozen BK123.out 0; have hfz35_1 := blk_frozen BK123.out 1; have hfz35_2 := blk_frozen BK123.out 2; have hfz35_3 := blk_frozen BK123.out 3; have hfz35_4 := blk_frozen BK123.out 4; have p133 : 0 ≤ (4 : Int) := (by omega); have q133 : 4 < (t117.length : Int) := of_decide_eq_true (by first | (with_reducible assumption) | assumption); obtain ⟨ad133, e133, hx133_0⟩ := Kd.at_string (Kd.R_reads' HO_4.out).2.2 4 p133 q133; obtain rfl : ad121 = ad133 := (by injection e133); (try simp only [show (4 : Int).toNat = 4 from rfl, Nat.reduceMul, Nat.reduceEqDiff, Go.Addr.add, ↓reduceIte] at hx133_0); have qi133 : (4 < t117.length) = True := eq_true (by omega); (try rw [show ((4 : Int)).toNat = 4 from rfl] at hx133_0); have hn133_0 : ad121.block ≠ gb123 := Kd.own_blk (Kd.R_ne HO_4.out BK123.out (by decide)); replace hx133_0 := (cell_far (p := ⟨gb123, 3, none⟩) (by first | (rw [add_block]; exact hn133_0) | (show (Addr.add _ _).block ≠ _; rw [add_block]; exact hn133_0) | exact hn133_0) (.slice Ao34 t129.length co34)).trans hx133_0; clear hn133_0; replace p133 := eq_true p133; replace q133 := eq_true q133) | ((with_reducible refine gate_callee (f := 45) rfl ?_); refine goesL_ (some 56) rfl rfl Tryd.func45 (by kernel_rfl) rfl #[.string (rdOf ByteArray.empty t117 4), .int .i64 5, .int .i64 4000] rfl (by (try simp only [List.map_toArray, List.map_cons, List.map_nil]); first | done | rfl | (simp only [List.length_drop, List.length_take]; rfl)) ?_; (with_reducible refine (wire_TakeAll.calls (rdOf ByteArray.empty t117 4) 5 4000 t134 t135 _ A18.out).mono ?_); rintro e w36 ⟨v136, rfl, ho0, hb⟩; refine ⟨_, rfl, ?_⟩; have n0_ := Aside0.mk (Kd.R_elder' (by (with_reducible repeat (first | apply Kd.R_alloc | apply Kd.R_drewN | apply Kd.R_drew)); exact (Kd.R_mono (Kd.R_far (p := ⟨gb123, 3, none⟩) (Kd.R_types HO_4.out BK123.out (by decide)) (fun _ hk => hk.2) (.slice Ao34 t129.length co34)) (fun _ h_ => h_.1))) (Kd.R_base ho0) hb); have n1_ := Aside0.mk (Kd.R_elder' (by (with_reducible repeat (first | apply Kd.R_alloc | apply Kd.R_drewN | apply Kd.R_drew)); exact (Kd.R_mono (Kd.R_far (p := ⟨gb123, 3, none⟩) (Kd.R_types HO132.out BK123.out (by decide)) (fun _ hk => hk.2) (.slice Ao34 t129.length co34)) (fun _ h_ => h_.1))) (Kd.R_base ho0) hb); have n2_ := Aside0.mk (Kd.R_lower (Kd.R_new' (Kd.R_new' ho0 (Kd.R_lt (by (with_reducible repeat (first | apply Kd.R_alloc | apply Kd.R_drewN | apply Kd.R_drew)); exact (Kd.R_mono (Kd.R_far (p := ⟨gb123, 3, none⟩) (Kd.R_types HO_4.out BK123.out (by decide)) (fun _ hk => hk.2) (.slice Ao34 t129.length co34)) (fun _ h_ => h_.1))))) (Kd.R_lt (by (with_reducible repeat (first | apply Kd.R_alloc | apply Kd.R_drewN | apply Kd.R_drew)); exact (Kd.R_mono (Kd.R_far (p := ⟨gb123, 3, none⟩) (Kd.R_types HO132.out BK123.out (by decide)) (fun _ hk => hk.2) (.slice Ao34 t129.length co34)) (fun _ h_ => h_.1))))) (below_size (by repeat (first | (with_reducible first | exact HB.out | apply below_alloc | apply pw_below_drewN | apply below_drew1 | refine below_set ?_ GE116.out | refine below_set ?_ GE123.out) | exact HB.out)))); have n3_ := Aside0.mk (blk_below (g := gb116) (o := .cells #[.string (⟨#[]⟩ : ByteArray), .string (⟨#[]⟩ : ByteArray), .int .i64 0, .slice none 0 0, .slice none 0 0] 26 (0, 0)) (by (with_reducible repeat (first | refine blk_drewN ?_ _ | refine blk_drew ?_ | refine blk_alloc ?_ _)); refine blk_far ?_ NB116_123.out _; (with_reducible repeat (first | refine blk_drewN ?_ _ | refine blk_drew ?_ | refine blk_alloc ?_ _)); exact BK116.out) hb); have n4_ := Aside0.mk (blk_below (g := gb123) (o := .cells #[.string (rdOf ByteArray.empty t117 0), .string (rdOf ByteArray.empty t117 1), .int .i64 (wrap64 (ji14)), .slice Ao34 t129.length co34, .slice none 0 0] 26 (0, 0)) (by (with_reducible repeat (first | refine blk_drewN ?_ _ | refine blk_drew ?_ | refine blk_alloc ?_ _)); refine blk_put (cs := #[.string (rdOf ByteArray.empty t117 0), .string (rdOf ByteArray.empty t117 1), .int .i64 (wrap64 (ji14)), .slice none 0 0, .slice none 0 0]) ?_ 3 _ rfl; (with_reducible repeat (first | refine blk_drewN ?_ _ | refine blk_drew ?_ | refine blk_alloc ?_ _)); exact BK123.out) hb); have n5_ := Aside0.mk (below_step (by repeat (first | (with_reducible first | exact HB.out | apply below_alloc | apply pw_below_drewN | apply below_drew1 | refine below_set ?_ GE116.out | refine below_set ?_ GE123.out) | exact HB.out)) hb); clear HO_4; clear HO132; clear BK116; clear BK123; clear HB; have HO_4 := n0_; have HO132 := n1_; have HO137 := n2_; have BK116 := n3_; have BK123 := n4_; have HB := n5_; clear n0_ n1_ n2_ n3_ n4_ n5_; (try clear hb); (try clear hb2); (try clear hk); (try clear hi); (try clear ho0); obtain ⟨Ao37, co37, eo37⟩ := Kd.R_slice HO137.out; subst eo37; have hcz38_0 : w36.cell? ⟨gb123, 0, none⟩ = some (.string (rdOf ByteArray.empty t117 0)) := (blk_cell BK123.out 0).trans rfl; have hcz38_1 : w36.cell? ⟨gb123, 1, none⟩ = some (.string (rdOf ByteArray.empty t117 1)) := (blk_cell BK123.out 1).trans rfl; have hcz38_2 : w36.cell? ⟨gb123, 2, none⟩ = some (.int .i64 (wrap64 (ji14))) := (blk_cell BK123.out 2).trans rfl; have hcz38_3 : w36.cell? ⟨gb123, 3, none⟩ = some (.slice Ao34 t129.length co34) := (blk_cell BK123.out 3).trans rfl; have hcz38_4 : w36.cell? ⟨gb123, 4, none⟩ = some (.slice none 0 0) := (blk_cell BK123.out 4).trans rfl; have hfz38_0 := blk_frozen BK123.out 0; have hfz38_1 := blk_frozen BK123.out 1; have hfz38_2 := blk_frozen BK123.out 2; have hfz38_3 := blk_frozen BK123.out 3; have hfz38_4 := blk_frozen BK123.out 4) | ((with_reducible refine gate_callee (f := 19) rfl ?_); refine goesL_ (some 62) rfl rfl Tryd.func19 (by kernel_rfl) rfl #[.agg #[.string (rdOf ByteArray.empty t117 0), .string (rdOf ByteArray.empty t117 1), .int .i64 (wrap64 (ji14)), .slice Ao34 t129.length co34, .slice Ao37 t134.length co37]] rfl (by (try simp only [List.map_toArray, List.map_cons, List.map_nil]); first | done | (simp only [hji14]; rfl) | rfl | (simp only [List.length_drop, List.length_take]; rfl)) ?_; (with_reducible refine (rights_Put.calls (rdOf ByteArray.empty t117 0) (rdOf ByteArray.empty t117 1) (wrap64 (ji14)) _ _ t129 _ _ t134 t138 t139 _ ?side5 ?side1 ?side2 ?side3 ?side4 A19.out).mono ?_); (case side1 => refine (Kd.R_reads' (e := 9) (base := w.heap.size) (ok := fun k_ => ((True ∧ some k_ ≠ (.slice (some ad121) t117.length co23 : Value).ownBlock) ∧ some k_ ≠ (.slice Ao37 t134.length co37 : Value).ownBlock)) (n := t129.length) (c := co34) ?_).2.2; exact (by (with_reducible repeat (first | apply Kd.R_alloc | apply Kd.R_drewN | apply Kd.R_drew)); exact (Kd.R_mono (Kd.R_far (p := ⟨gb123, 4, none⟩) (Kd.R_types HO132.out BK123.out (by decide)) (fun _ hk => hk.2) (.slice Ao37 t134.length co37)) (fun _ h_ => h_.1)))); (case side2 => exact (Kd.R_reads' HO132.out).2.1); (case side3 => refine (Kd.R_reads' (e := 9) (base := w.heap.size) (ok := fun k_ => ((True ∧ some k_ ≠ (.slice (some ad121) t117.length co23 : Value).ownBlock) ∧ some k_ ≠ (.slice Ao34 t129.length co34 : Value).ownBlock)) (n := t134.length) (c := co37) ?_).2.2; exact (by (with_reducible repeat (first | apply Kd.R_alloc | apply Kd.R_drewN | apply Kd.R_drew)); exact (Kd.R_mono (Kd.R_far (p := ⟨gb123, 4, none⟩) (Kd.R_types HO137.out BK123.out (by decide)) (fun _ hk => hk.2) (.slice Ao37 t134.length co37)) (fun _ h_ => h_.1)))); (case side4 => exact (Kd.R_reads' HO137.out).2.1); (case side5 => exact ⟨Tabs.below HTB.out (by repeat (first | (with_reducible first | exact HB.out | apply below_alloc | apply pw_below_drewN | apply below_drew1 | refine below_set ?_ GE116.out | refine below_set ?_ GE123.out) | exact HB.out))⟩); rintro e w39 ⟨rfl, hb⟩; refine ⟨_, rfl, ?_⟩; have n0_ := Aside0.mk (Kd.R_below (by (with_reducible repeat (first | apply Kd.R_alloc | apply Kd.R_drewN | apply Kd.R_drew)); exact (Kd.R_mono (Kd.R_far (p := ⟨gb123, 4, none⟩) (Kd.R_types HO_4.out BK123.out (by decide)) (fun _ hk => hk.2) (.slice Ao37 t134.length co37)) (fun _ h_ => h_.1))) hb); have n1_ := Aside0.mk (Kd.R_below (by (with_reducible repeat (first | apply Kd.R_alloc | apply Kd.R_drewN | apply Kd.R_drew)); exact (Kd.R_mono (Kd.R_far (p := ⟨gb123, 4, none⟩) (Kd.R_types HO132.out BK123.out (by decide)) (fun _ hk => hk.2) (.slice Ao37 t134.length co37)) (fun _ h_ => h_.1))) hb); have n2_ := Aside0.mk (Kd.R_below (by (with_reducible repeat (first | apply Kd.R_alloc | apply Kd.R_drewN | apply Kd.R_drew)); exact (Kd.R_mono (Kd.R_far (p := ⟨gb123, 4, none⟩) (Kd.R_types HO137.out BK123.out (by decide)) (fun _ hk => hk.2) (.slice Ao37 t134.length co37)) (fun _ h_ => h_.1))) hb); have n3_ := Aside0.mk (blk_below (g := gb116) (o := .cells #[.string (⟨#[]⟩ : ByteArray), .string (⟨#[]⟩ : ByteArray), .int .i64 0, .slice none 0 0, .slice none 0 0] 26 (0, 0)) (by (with_reducible repeat (first | refine blk_drewN ?_ _ | refine blk_drew ?_ | refine blk_alloc ?_ _)); refine blk_far ?_ NB116_123.out _; (with_reducible repeat (first | refine blk_drewN ?_ _ | refine blk_drew ?_ | refine blk_alloc ?_ _)); exact BK116.out) hb); have n4_ := Aside0.mk (blk_below (g := gb123) (o := .cells #[.string (rdOf ByteArray.empty t117 0), .string (rdOf ByteArray.empty t117 1), .int .i64 (wrap64 (ji14)), .slice Ao34 t129.length co34, .slice Ao37 t134.length co37] 26 (0, 0)) (by (with_reducible repeat (first | refine blk_drewN ?_ _ | refine blk_drew ?_ | refine blk_alloc ?_ _)); refine blk_put (cs := #[.string (rdOf ByteArray.empty t117 0), .string (rdOf ByteArray.empty t117 1), .int .i64 (wrap64 (ji14)), .slice Ao34 t129.length co34, .slice none 0 0]) ?_ 4 _ rfl; (with_reducible repeat (first | refine blk_drewN ?_ _ | refine blk_drew ?_ | refine blk_alloc ?_ _)); exact BK123.out) hb); have n5_ := Aside0.mk (below_step (by repeat (first | (with_reducible first | exact HB.out | apply below_alloc | apply pw_below_drewN | apply below_drew1 | refine below_set ?_ GE116.out | refine below_set ?_ GE123.out) | exact HB.out)) hb); clear HO_4; clear HO132; clear HO137; clear BK116; clear BK123; clear HB; have HO_4 := n0_; have HO132 := n1_; have HO137 := n2_; have BK116 := n3_; have BK123 := n4_; have HB := n5_; clear n0_ n1_ n2_ n3_ n4_ n5_; (try clear hb); (try clear hb2); (try clear hk); (try clear hi); have hcz40_0 : w39.cell? ⟨gb123, 0, none⟩ = some (.string (rdOf ByteArray.empty t117 0)) := (blk_cell BK123.out 0).trans rfl; have hcz40_1 : w39.cell? ⟨gb123, 1, none⟩ = some (.string (rdOf ByteArray.empty t117 1)) := (blk_cell BK123.out 1).trans rfl; have hcz40_2 : w39.cell? ⟨gb123, 2, none⟩ = some (.int .i64 (wrap64 (ji14))) := (blk_cell BK123.out 2).trans rfl; have hcz40_3 : w39.cell? ⟨gb123, 3, none⟩ = some (.slice Ao34 t129.length co34) := (blk_cell BK123.out 3).trans rfl; have hcz40_4 : w39.cell? ⟨gb123, 4, none⟩ = some (.slice Ao37 t134.length co37) := (blk_cell BK123.out 4).trans rfl; have hfz40_0 := blk_frozen BK123.out 0; have hfz40_1 := blk_frozen BK123.out 1; have hfz40_2 := blk_frozen BK123.out 2; have hfz40_3 := blk_frozen BK123.out 3; have hfz40_4 := blk_frozen BK123.out 4; have hcz41_0 : w39.cell? ⟨gb116, 0, none⟩ = some (.string (⟨#[]⟩ : ByteArray)) := (blk_cell BK116.out 0).trans rfl; have hcz41_1 : w39.cell? ⟨gb116, 1, none⟩ = some (.string (⟨#[]⟩ : ByteArray)) := (blk_cell BK116.out 1).trans rfl; have hcz41_2 : w39.cell? ⟨gb116, 2, none⟩ = some (.int .i64 0) := (blk_cell BK116.out 2).trans rfl; have hcz41_3 : w39.cell? ⟨gb116, 3, none⟩ = some (.slice none 0 0) := (blk_cell BK116.out 3).trans rfl; have hcz41_4 : w39.cell? ⟨gb116, 4, none⟩ = some (.slice none 0 0) := (blk_cell BK116.out 4).trans rfl; have hfz41_0 := blk_frozen BK116.out 0; have hfz41_1 := blk_frozen BK116.out 1; have hfz41_2 := blk_frozen BK116.out 2; have hfz41_3 := blk_frozen BK116.out 3; have hfz41_4 := blk_frozen BK116.out 4))
           refine bodyPost_ret (results_ct rfl _ _ gb116 26 #[.string (rdOf ByteArray.empty t117 0), .string (rdOf ByteArray.empty t117 1), .int .i64 (wrap64 (ji14)), .slice Ao34 t129.length co34, .slice Ao37 t134.length co37] (0, 0) _ rfl (by (with_reducible repeat (first | refine blk_drewN ?_ _ | refine blk_drew ?_ | refine blk_alloc ?_ _)); refine blk_put (cs := #[.string (rdOf ByteArray.empty t117 0), .string (rdOf ByteArray.empty t117 1), .int .i64 (wrap64 (ji14)), .slice Ao34 t129.length co34, .slice none 0 0]) ?_ 4 _ rfl; (with_reducible repeat (first | refine blk_drewN ?_ _ | refine blk_drew ?_ | refine blk_alloc ?_ _)); refine blk_put (cs := #[.string (rdOf ByteArray.empty t117 0), .string (rdOf ByteArray.empty t117 1), .int .i64 (wrap64 (ji14)), .slice none 0 0, .slice none 0 0]) ?_ 3 _ rfl; (with_reducible repeat (first | refine blk_drewN ?_ _ | refine blk_drew ?_ | refine blk_alloc ?_ _)); refine blk_put (cs := #[.string (rdOf ByteArray.empty t117 0), .string (rdOf ByteArray.empty t117 1), .int .i64 0, .slice none 0 0, .slice none 0 0]) ?_ 2 _ rfl; (with_reducible repeat (first | refine blk_drewN ?_ _ | refine blk_drew ?_ | refine blk_alloc ?_ _)); refine blk_put (cs := #[.string (rdOf ByteArray.empty t117 0), .string (⟨#[]⟩ : ByteArray), .int .i64 0, .slice none 0 0, .slice none 0 0]) ?_ 1 _ rfl; (with_reducible repeat (first | refine blk_drewN ?_ _ | refine blk_drew ?_ | refine blk_alloc ?_ _)); refine blk_put (cs := #[.string (⟨#[]⟩ : ByteArray), .string (⟨#[]⟩ : ByteArray), .int .i64 0, .slice none 0 0, .slice none 0 0]) ?_ 0 _ rfl; (with_reducible repeat (first | refine blk_drewN ?_ _ | refine blk_drew ?_ | refine blk_alloc ?_ _)); exact BK116.out) Tryd.underlying26 rfl (by kernel_rfl)) rfl ?_
           exact ⟨_, _, by first | rfl | (simp [errW_none, errW_some] <;> rfl) | (simp only [← hji14]; first | rfl | (simp [errW_none, errW_some] <;> rfl)) | (simp [*, errW_none, errW_some] <;> rfl), by (with_reducible repeat (first | apply Kd.R_alloc | apply Kd.R_drewN | apply Kd.R_drew)); exact Kd.R_mono (Kd.R_far (p := ⟨gb116, 4, none⟩) (Kd.R_far (p := ⟨gb116, 3, none⟩) (Kd.R_far (p := ⟨gb116, 2, none⟩) (Kd.R_far (p := ⟨gb116, 1, none⟩) (Kd.R_far (p := ⟨gb116, 0, none⟩) (Kd.R_types HO132.out BK116.out (by decide)) (fun _ hk => hk.2) (.string (rdOf ByteArray.empty t117 0))) (fun _ hk => hk.2) (.string (rdOf ByteArray.empty t117 1))) (fun _ hk => hk.2) (.int .i64 (wrap64 (ji14)))) (fun _ hk => hk.2) (.slice Ao34 t129.length co34)) (fun _ hk => hk.2) (.slice Ao37 t134.length co37)) (fun _ hk => hk.1.2), by (with_reducible repeat (first | apply Kd.R_alloc | apply Kd.R_drewN | apply Kd.R_drew)); exact Kd.R_mono (Kd.R_far (p := ⟨gb116, 4, none⟩) (Kd.R_far (p := ⟨gb116, 3, none⟩) (Kd.R_far (p := ⟨gb116, 2, none⟩) (Kd.R_far (p := ⟨gb116, 1, none⟩) (Kd.R_far (p := ⟨gb116, 0, none⟩) (Kd.R_types HO137.out BK116.out (by decide)) (fun _ hk => hk.2) (.string (rdOf ByteArray.empty t117 0))) (fun _ hk => hk.2) (.string (rdOf ByteArray.empty t117 1))) (fun _ hk => hk.2) (.int .i64 (wrap64 (ji14)))) (fun _ hk => hk.2) (.slice Ao34 t129.length co34)) (fun _ hk => hk.2) (.slice Ao37 t134.length co37)) (fun _ hk => hk.1.2), by repeat (first | (with_reducible first | exact HB.out | apply below_alloc | apply pw_below_drewN | apply below_drew1 | refine below_set ?_ GE116.out | refine below_set ?_ GE123.out) | exact HB.out)⟩
          ·rw [if_neg c21] at H
           have c21b0 : (t138.toList == a0.toList) = false := beq_eq_false_iff_ne.mpr c21
           have c21b1 : (t138.toList != a0.toList) = true := bne_iff_ne.mpr c21
           simp only [Option.some.injEq, Prod.mk.injEq] at H
           obtain ⟨rfl, rfl, rfl, rfl, rfl, rfl⟩ := H
           try go_wp2
           have n0_ := Aside0.mk (Kd.R_drew HO_4.out)
           have n1_ := Aside0.mk (blk_drew BK116.out)
           have n2_ := Aside0.mk (below_drew1 HB.out)
           clear HO_4
           clear BK116
           clear HB
           have HO_4 := n0_
           have BK116 := n1_
           have HB := n2_
           clear n0_ n1_ n2_
           obtain ⟨Ao43, co43, eo43⟩ := Kd.R_slice HO_4.out
           (first | subst eo43 | (injection eo43 with f1_ f2_ f3_; have f4_ := f1_.symm; have f5_ := f3_.symm; clear f1_ f2_ f3_; subst f4_; subst f5_))
           have p121 : 0 ≤ (0 : Int) := (by omega)
           have q121 : 0 < (t117.length : Int) := of_decide_eq_true (by first | (with_reducible assumption) | assumption)
           obtain ⟨ad121, e121, hx121_0⟩ := Kd.at_string (Kd.R_reads' HO_4.out).2.2 0 p121 q121
           cases e121
           have qi121 : (0 < t117.length) = True := eq_true (by omega)
           (try rw [show ((0 : Int)).toNat = 0 from rfl] at hx121_0)
           (try rw [Addr.add_zero'] at hx121_0)
           replace p121 := eq_true p121
           replace q121 := eq_true q121
           have p122 : 0 ≤ (1 : Int) := (by omega)
           have q122 : 1 < (t117.length : Int) := of_decide_eq_true (by first | (with_reducible assumption) | assumption)
           obtain ⟨ad122, e122, hx122_0⟩ := Kd.at_string (Kd.R_reads' HO_4.out).2.2 1 p122 q122
           obtain rfl : ad121 = ad122 := (by injection e122)
           (try simp only [show (1 : Int).toNat = 1 from rfl, Nat.reduceMul, Nat.reduceEqDiff, Go.Addr.add, ↓reduceIte] at hx122_0)
           have qi122 : (1 < t117.length) = True := eq_true (by omega)
           (try rw [show ((1 : Int)).toNat = 1 from rfl] at hx122_0)
           replace p122 := eq_true p122
           replace q122 := eq_true q122
           refine start_ (n := 9) (S := fun w' => w'.cell? ad121 = some (.string (rdOf ByteArray.empty t117 0)) ∧ w'.cell? ⟨ad121.block, ad121.off + 1, none⟩ = some (.string (rdOf ByteArray.empty t117 1))) (ds := []) #[false, false, false, false, false, false, false, false, false] (by kernel_rfl) rfl rfl ⟨hx121_0, hx122_0⟩ (fun hHeld => ?_); refine with_tabW rights_Take.tab4 rights_Take.bits4 (fun HT_ HW_ => ?_)
           generalize wc.drew = w42 at HO_4 BK116 HB hx121_0 hx122_0 hHeld ⊢
           refine pure_ (i := 0) (N := some 25) (v := ?_) (a' := ?_) #[true, false, false, false, false, false, false, false, false] rfl rfl (any_of HT_.out (by kernel_rfl)) (fun _ _ _ h => h) (Or.inl ⟨by rfl, ?_⟩) ?_ ?_
           rotate_left
           ·intro w'
            go_simp
            with_reducible rfl
           rotate_left
           ·simp only [Act.put, List.setIfInBounds_toArray, List.set_cons_zero, List.set_cons_succ, i64_w, i32_w]
            rfl
           refine pure_ (i := 1) (N := some 26) (v := ?_) (a' := ?_) #[true, true, false, false, false, false, false, false, false] rfl rfl (any_of HT_.out (by kernel_rfl)) (fun _ _ _ h => h) (Or.inl ⟨by rfl, ?_⟩) ?_ ?_
           rotate_left
           ·intro w'
            go_simp
            with_reducible rfl
           rotate_left
           ·simp only [Act.put, List.setIfInBounds_toArray, List.set_cons_zero, List.set_cons_succ, i64_w, i32_w]
            rfl
           refine pure_ (i := 3) (N := some 28) (v := ?_) (a' := ?_) #[true, true, false, true, false, false, false, false, false] rfl rfl (any_of HT_.out (by kernel_rfl)) (fun _ _ _ h => h) (Or.inl ⟨by rfl, ?_⟩) ?_ ?_
           rotate_left
           ·intro w'
            go_simp
            with_reducible rfl
           rotate_left
           ·simp only [Act.put, List.setIfInBounds_toArray, List.set_cons_zero, List.set_cons_succ, i64_w, i32_w]
            rfl
           refine pure_ (i := 4) (N := some 29) (v := ?_) (a' := ?_) #[true, true, false, true, true, false, false, false, false] rfl rfl (any_of HT_.out (by kernel_rfl)) (fun _ _ _ h => h) (Or.inl ⟨by rfl, ?_⟩) ?_ ?_
           rotate_left
           ·intro w'
            go_simp
            with_reducible rfl
           rotate_left
           ·simp only [Act.put, List.setIfInBounds_toArray, List.set_cons_zero, List.set_cons_succ, i64_w, i32_w]
            rfl
           refine take_ (i := 2) (N := some 27) (v := ?_) (a' := ?_) #[true, true, true, true, true, false, false, false, false] rfl rfl (take_ofW HT_.out HW_.out (by kernel_rfl)) (fun _ _ _ h => h) (Or.inl ⟨by rfl, ?_⟩) hHeld ?_ ?_
           rotate_left
           ·rintro w' ⟨s0, s1⟩
            go_simp
            with_reducible rfl
           rotate_left
           ·simp only [Act.put, List.setIfInBounds_toArray, List.set_cons_zero, List.set_cons_succ, i64_w, i32_w]
            rfl
           refine take_ (i := 5) (N := some 30) (v := ?_) (a' := ?_) #[true, true, true, true, true, true, false, false, false] rfl rfl (take_ofW HT_.out HW_.out (by kernel_rfl)) (fun _ _ _ h => h) (Or.inl ⟨by rfl, ?_⟩) hHeld ?_ ?_
           rotate_left
           ·rintro w' ⟨s0, s1⟩
            go_simp
            with_reducible rfl
           rotate_left
           ·simp only [Act.put, List.setIfInBounds_toArray, List.set_cons_zero, List.set_cons_succ, i64_w, i32_w]
            rfl
           refine pure_ (i := 6) (N := some 31) (v := ?_) (a' := ?_) #[true, true, true, true, true, true, true, false, false] rfl rfl (any_of HT_.out (by kernel_rfl)) (fun _ _ _ h => h) (Or.inl ⟨by rfl, ?_⟩) ?_ ?_
           rotate_left
           ·intro w'
            go_simp
            with_reducible rfl
           rotate_left
           ·simp only [Act.put, List.setIfInBounds_toArray, List.set_cons_zero, List.set_cons_succ, i64_w, i32_w]
            rfl
           refine one_ (i := 7) (N := some 6) #[true, true, true, true, true, true, true, true, false] rfl rfl (one_of HT_.out (by kernel_rfl)) (by decide) (fun K hK => ?_)
           refine box_step ?hg (N := 6) ?hd (cs := #[.string (⟨#[]⟩ : ByteArray), .string (⟨#[]⟩ : ByteArray), .int .i64 0, .slice none 0 0, .slice none 0 0]) (t := 26) ?hr ?_; (case hd => rfl); (case hg => rfl); (case hr => first | (go_simp; done) | (go_simp; rfl))
           intro gb123 hg w44 hbox hb
           have HS0_ := (hb.cell (World.block_lt_of_cell? _ _ (hHeld.1))).trans (hHeld.1)
           have HS1_ := (hb.cell (World.block_lt_of_cell? _ _ (hHeld.2))).trans (hHeld.2)
           have n0_ := Aside0.mk (Kd.R_below (by (with_reducible repeat (first | apply Kd.R_alloc | apply Kd.R_drewN | apply Kd.R_drew)); exact HO_4.out) hb)
           have n1_ := Aside0.mk (blk_below (g := gb116) (o := .cells #[.string (⟨#[]⟩ : ByteArray), .string (⟨#[]⟩ : ByteArray), .int .i64 0, .slice none 0 0, .slice none 0 0] 26 (0, 0)) (by (with_reducible repeat (first | refine blk_drewN ?_ _ | refine blk_drew ?_ | refine blk_alloc ?_ _)); exact BK116.out) hb)
           have n2_ := Aside0.mk (below_step (by repeat (first | (with_reducible first | exact HB.out | apply below_alloc | apply pw_below_drewN | apply below_drew1 | refine below_set ?_ GE116.out) | exact HB.out)) hb)
           have n3_ := Aside0.mk (hbox)
           have n4_ := Aside0.mk ((by rw [hg]; exact (below_size (by repeat (first | (with_reducible first | exact HB.out | apply below_alloc | apply pw_below_drewN | apply below_drew1 | refine below_set ?_ GE116.out) | exact HB.out))) : w.heap.size ≤ gb123))
           have n5_ := Aside0.mk ((by rw [hg]; exact (below_size (by repeat (first | (with_reducible first | exact HB.out | apply below_alloc | apply pw_below_drewN | apply below_drew1 | refine below_set ?_ GE116.out) | exact HB.out))) : w.heap.size ≤ gb123))
           have n6_ := Aside0.mk ((by rw [hg]; exact Nat.ne_of_lt (blk_lt (g := gb116) (o := .cells #[.string (⟨#[]⟩ : ByteArray), .string (⟨#[]⟩ : ByteArray), .int .i64 0, .slice none 0 0, .slice none 0 0] 26 (0, 0)) (by (with_reducible repeat (first | refine blk_drewN ?_ _ | refine blk_drew ?_ | refine blk_alloc ?_ _)); exact BK116.out)) : gb116 ≠ gb123))
           have n7_ := Aside0.mk ((by rw [hg]; exact Nat.ne_of_gt (blk_lt (g := gb116) (o := .cells #[.string (⟨#[]⟩ : ByteArray), .string (⟨#[]⟩ : ByteArray), .int .i64 0, .slice none 0 0, .slice none 0 0] 26 (0, 0)) (by (with_reducible repeat (first | refine blk_drewN ?_ _ | refine blk_drew ?_ | refine blk_alloc ?_ _)); exact BK116.out)) : gb123 ≠ gb116))
           clear HO_4
           clear BK116
           clear HB
           have HO_4 := n0_
           have BK116 := n1_
           have HB := n2_
           have BK123 := n3_
           have GW123 := n4_
           have GE123 := n5_
           have NB116_123 := n6_
           have NB123_116 := n7_
           clear n0_ n1_ n2_ n3_ n4_ n5_ n6_ n7_
           clear hb hbox hg
           refine hK.out _ _ ⟨HS0_, HS1_⟩ (fun hHeld => ?_)
           clear hK K
           refine norm_ (a' := ?_) ?_ ?_
           rotate_left
           ·show Act.put _ (some 6) _ = _
            simp only [Act.put, List.setIfInBounds_toArray, List.set_cons_zero, List.set_cons_succ, i64_w, i32_w]
            rfl
           refine one_ (i := 8) (N := none) #[true, true, true, true, true, true, true, true, true] rfl rfl (one_of HT_.out (by kernel_rfl)) (by decide) (fun K hK => ?_)
           have hs45 : w44.cell? ⟨gb123, 0, none⟩ = some (.string (⟨#[]⟩ : ByteArray)) := (blk_cell BK123.out 0).trans rfl
           have hfs45 := blk_frozen BK123.out 0
           have hns45_0 := NB116_123.out
           have hms45_0 := NB123_116.out
           have hs46 : w44.cell? ⟨gb123, 1, none⟩ = some (.string (⟨#[]⟩ : ByteArray)) := (blk_cell BK123.out 1).trans rfl
           have hfs46 := blk_frozen BK123.out 1
           have hns46_0 := NB116_123.out
           have hms46_0 := NB123_116.out
           have hs47 : w44.cell? ⟨gb123, 2, none⟩ = some (.int .i64 0) := (blk_cell BK123.out 2).trans rfl
           have hfs47 := blk_frozen BK123.out 2
           have hns47_0 := NB116_123.out
           have hms47_0 := NB123_116.out
           have hs48 : w44.cell? ⟨gb123, 3, none⟩ = some (.slice none 0 0) := (blk_cell BK123.out 3).trans rfl
           have hfs48 := blk_frozen BK123.out 3
           have hns48_0 := NB116_123.out
           have hms48_0 := NB123_116.out
           have hs49 : w44.cell? ⟨gb123, 4, none⟩ = some (.slice none 0 0) := (blk_cell BK123.out 4).trans rfl
           have hfs49 := blk_frozen BK123.out 4
           have hns49_0 := NB116_123.out
           have hms49_0 := NB123_116.out
           refine skip_ (w1 := ?_) (by rfl) rfl ?_ ?_
           rotate_left
           ·go_simp
            rfl
           refine hK.out _ _ ⟨((cell_far (p := ⟨gb123, _, none⟩) (by first | exact Kd.own_blk (Kd.R_ne HO_4.out BK123.out (by decide)) | (rw [add_block]; exact Kd.own_blk (Kd.R_ne HO_4.out BK123.out (by decide))) | (show (Addr.add _ _).block ≠ _; rw [add_block]; exact Kd.own_blk (Kd.R_ne HO_4.out BK123.out (by decide))) | (dsimp only; exact Kd.own_blk (Kd.R_ne HO_4.out BK123.out (by decide)))) _).trans (((cell_far (p := ⟨gb123, _, none⟩) (by first | exact Kd.own_blk (Kd.R_ne HO_4.out BK123.out (by decide)) | (rw [add_block]; exact Kd.own_blk (Kd.R_ne HO_4.out BK123.out (by decide))) | (show (Addr.add _ _).block ≠ _; rw [add_block]; exact Kd.own_blk (Kd.R_ne HO_4.out BK123.out (by decide))) | (dsimp only; exact Kd.own_blk (Kd.R_ne HO_4.out BK123.out (by decide)))) _).trans (((cell_far (p := ⟨gb123, _, none⟩) (by first | exact Kd.own_blk (Kd.R_ne HO_4.out BK123.out (by decide)) | (rw [add_block]; exact Kd.own_blk (Kd.R_ne HO_4.out BK123.out (by decide))) | (show (Addr.add _ _).block ≠ _; rw [add_block]; exact Kd.own_blk (Kd.R_ne HO_4.out BK123.out (by decide))) | (dsimp only; exact Kd.own_blk (Kd.R_ne HO_4.out BK123.out (by decide)))) _).trans (((cell_far (p := ⟨gb123, _, none⟩) (by first | exact Kd.own_blk (Kd.R_ne HO_4.out BK123.out (by decide)) | (rw [add_block]; exact Kd.own_blk (Kd.R_ne HO_4.out BK123.out (by decide))) | (show (Addr.add _ _).block ≠ _; rw [add_block]; exact Kd.own_blk (Kd.R_ne HO_4.out BK123.out (by decide))) | (dsimp only; exact Kd.own_blk (Kd.R_ne HO_4.out BK123.out (by decide)))) _).trans (((cell_far (p := ⟨gb123, _, none⟩) (by first | exact Kd.own_blk (Kd.R_ne HO_4.out BK123.out (by decide)) | (rw [add_block]; exact Kd.own_blk (Kd.R_ne HO_4.out BK123.out (by decide))) | (show (Addr.add _ _).block ≠ _; rw [add_block]; exact Kd.own_blk (Kd.R_ne HO_4.out BK123.out (by decide))) | (dsimp only; exact Kd.own_blk (Kd.R_ne HO_4.out BK123.out (by decide)))) _).trans (hHeld.1)))))))))), ((cell_far (p := ⟨gb123, _, none⟩) (by first | exact Kd.own_blk (Kd.R_ne HO_4.out BK123.out (by decide)) | (rw [add_block]; exact Kd.own_blk (Kd.R_ne HO_4.out BK123.out (by decide))) | (show (Addr.add _ _).block ≠ _; rw [add_block]; exact Kd.own_blk (Kd.R_ne HO_4.out BK123.out (by decide))) | (dsimp only; exact Kd.own_blk (Kd.R_ne HO_4.out BK123.out (by decide)))) _).trans (((cell_far (p := ⟨gb123, _, none⟩) (by first | exact Kd.own_blk (Kd.R_ne HO_4.out BK123.out (by decide)) | (rw [add_block]; exact Kd.own_blk (Kd.R_ne HO_4.out BK123.out (by decide))) | (show (Addr.add _ _).block ≠ _; rw [add_block]; exact Kd.own_blk (Kd.R_ne HO_4.out BK123.out (by decide))) | (dsimp only; exact Kd.own_blk (Kd.R_ne HO_4.out BK123.out (by decide)))) _).trans (((cell_far (p := ⟨gb123, _, none⟩) (by first | exact Kd.own_blk (Kd.R_ne HO_4.out BK123.out (by decide)) | (rw [add_block]; exact Kd.own_blk (Kd.R_ne HO_4.out BK123.out (by decide))) | (show (Addr.add _ _).block ≠ _; rw [add_block]; exact Kd.own_blk (Kd.R_ne HO_4.out BK123.out (by decide))) | (dsimp only; exact Kd.own_blk (Kd.R_ne HO_4.out BK123.out (by decide)))) _).trans (((cell_far (p := ⟨gb123, _, none⟩) (by first | exact Kd.own_blk (Kd.R_ne HO_4.out BK123.out (by decide)) | (rw [add_block]; exact Kd.own_blk (Kd.R_ne HO_4.out BK123.out (by decide))) | (show (Addr.add _ _).block ≠ _; rw [add_block]; exact Kd.own_blk (Kd.R_ne HO_4.out BK123.out (by decide))) | (dsimp only; exact Kd.own_blk (Kd.R_ne HO_4.out BK123.out (by decide)))) _).trans (((cell_far (p := ⟨gb123, _, none⟩) (by first | exact Kd.own_blk (Kd.R_ne HO_4.out BK123.out (by decide)) | (rw [add_block]; exact Kd.own_blk (Kd.R_ne HO_4.out BK123.out (by decide))) | (show (Addr.add _ _).block ≠ _; rw [add_block]; exact Kd.own_blk (Kd.R_ne HO_4.out BK123.out (by decide))) | (dsimp only; exact Kd.own_blk (Kd.R_ne HO_4.out BK123.out (by decide)))) _).trans (hHeld.2))))))))))⟩ (fun hHeld => ?_)
           clear hK K
           refine done_ (done_of HT_.out (by kernel_rfl)) ?_
           have p124 : 0 ≤ (2 : Int) := (by omega)
           have q124 : 2 < (t117.length : Int) := of_decide_eq_true (by first | (with_reducible assumption) | assumption)
           obtain ⟨ad124, e124, hx124_0⟩ := Kd.at_string (Kd.R_reads' HO_4.out).2.2 2 p124 q124
           obtain rfl : ad121 = ad124 := (by injection e124)
           (try simp only [show (2 : Int).toNat = 2 from rfl, Nat.reduceMul, Nat.reduceEqDiff, Go.Addr.add, ↓reduceIte] at hx124_0)
           have qi124 : (2 < t117.length) = True := eq_true (by omega)
           (try rw [show ((2 : Int)).toNat = 2 from rfl] at hx124_0)
           have hn124_0 : ad121.block ≠ gb123 := Kd.own_blk (Kd.R_ne HO_4.out BK123.out (by decide))
           have hn124_1 : ad121.block ≠ gb123 := Kd.own_blk (Kd.R_ne HO_4.out BK123.out (by decide))
           have hn124_2 : ad121.block ≠ gb123 := Kd.own_blk (Kd.R_ne HO_4.out BK123.out (by decide))
           have hn124_3 : ad121.block ≠ gb123 := Kd.own_blk (Kd.R_ne HO_4.out BK123.out (by decide))
           have hn124_4 : ad121.block ≠ gb123 := Kd.own_blk (Kd.R_ne HO_4.out BK123.out (by decide))
           replace hx124_0 := (cell_far (p := ⟨gb123, 0, none⟩) (by first | (rw [add_block]; exact hn124_0) | (show (Addr.add _ _).block ≠ _; rw [add_block]; exact hn124_0) | exact hn124_0) (.string (rdOf ByteArray.empty t117 0))).trans hx124_0
           replace hx124_0 := (cell_far (p := ⟨gb123, 1, none⟩) (by first | (rw [add_block]; exact hn124_1) | (show (Addr.add _ _).block ≠ _; rw [add_block]; exact hn124_1) | exact hn124_1) (.string (rdOf ByteArray.empty t117 1))).trans hx124_0
           replace hx124_0 := (cell_far (p := ⟨gb123, 2, none⟩) (by first | (rw [add_block]; exact hn124_2) | (show (Addr.add _ _).block ≠ _; rw [add_block]; exact hn124_2) | exact hn124_2) (.int .i64 0)).trans hx124_0
           replace hx124_0 := (cell_far (p := ⟨gb123, 3, none⟩) (by first | (rw [add_block]; exact hn124_3) | (show (Addr.add _ _).block ≠ _; rw [add_block]; exact hn124_3) | exact hn124_3) (.slice none 0 0)).trans hx124_0
           replace hx124_0 := (cell_far (p := ⟨gb123, 4, none⟩) (by first | (rw [add_block]; exact hn124_4) | (show (Addr.add _ _).block ≠ _; rw [add_block]; exact hn124_4) | exact hn124_4) (.slice none 0 0)).trans hx124_0
           clear hn124_0
           clear hn124_1
           clear hn124_2
           clear hn124_3
           clear hn124_4
           replace p124 := eq_true p124
           replace q124 := eq_true q124
           try go_wp2_with (first | ((with_reducible refine gate_callee (f := 46) rfl ?_); refine goesL_ (some 36) rfl rfl Tryd.func46 (by kernel_rfl) rfl #[.string (rdOf ByteArray.empty t117 2)] rfl (by (try simp only [List.map_toArray, List.map_cons, List.map_nil]); first | done | rfl | (simp only [List.length_drop, List.length_take]; rfl)) ?_; (with_reducible refine (wire_Take.calls (rdOf ByteArray.empty t117 2) t125 t126 t127 _ A13.out).mono ?_); rintro e w50 ⟨rfl, hb⟩; refine ⟨_, rfl, ?_⟩; have n0_ := Aside0.mk (Kd.R_below (by (with_reducible repeat (first | apply Kd.R_alloc | apply Kd.R_drewN | apply Kd.R_drew)); exact (Kd.R_mono (Kd.R_far (p := ⟨gb123, 4, none⟩) (Kd.R_far (p := ⟨gb123, 3, none⟩) (Kd.R_far (p := ⟨gb123, 2, none⟩) (Kd.R_far (p := ⟨gb123, 1, none⟩) (Kd.R_far (p := ⟨gb123, 0, none⟩) (Kd.R_types HO_4.out BK123.out (by decide)) (fun _ hk => hk.2) (.string (rdOf ByteArray.empty t117 0))) (fun _ hk => hk.2) (.string (rdOf ByteArray.empty t117 1))) (fun _ hk => hk.2) (.int .i64 0)) (fun _ hk => hk.2) (.slice none 0 0)) (fun _ hk => hk.2) (.slice none 0 0)) (fun _ h_ => h_.1))) hb); have n1_ := Aside0.mk (blk_below (g := gb116) (o := .cells #[.string (⟨#[]⟩ : ByteArray), .string (⟨#[]⟩ : ByteArray), .int .i64 0, .slice none 0 0, .slice none 0 0] 26 (0, 0)) (by (with_reducible repeat (first | refine blk_drewN ?_ _ | refine blk_drew ?_ | refine blk_alloc ?_ _)); refine blk_far ?_ NB116_123.out _; (with_reducible repeat (first | refine blk_drewN ?_ _ | refine blk_drew ?_ | refine blk_alloc ?_ _)); refine blk_far ?_ NB116_123.out _; (with_reducible repeat (first | refine blk_drewN ?_ _ | refine blk_drew ?_ | refine blk_alloc ?_ _)); refine blk_far ?_ NB116_123.out _; (with_reducible repeat (first | refine blk_drewN ?_ _ | refine blk_drew ?_ | refine blk_alloc ?_ _)); refine blk_far ?_ NB116_123.out _; (with_reducible repeat (first | refine blk_drewN ?_ _ | refine blk_drew ?_ | refine blk_alloc ?_ _)); refine blk_far ?_ NB116_123.out _; (with_reducible repeat (first | refine blk_drewN ?_ _ | refine blk_drew ?_ | refine blk_alloc ?_ _)); exact BK116.out) hb); have n2_ := Aside0.mk (blk_below (g := gb123) (o := .cells #[.string (rdOf ByteArray.empty t117 0), .string (rdOf ByteArray.empty t117 1), .int .i64 0, .slice none 0 0, .slice none 0 0] 26 (0, 0)) (by (with_reducible repeat (first | refine blk_drewN ?_ _ | refine blk_drew ?_ | refine blk_alloc ?_ _)); refine blk_put (cs := #[.string (rdOf ByteArray.empty t117 0), .string (rdOf ByteArray.empty t117 1), .int .i64 0, .slice none 0 0, .slice none 0 0]) ?_ 4 _ rfl; (with_reducible repeat (first | refine blk_drewN ?_ _ | refine blk_drew ?_ | refine blk_alloc ?_ _)); refine blk_put (cs := #[.string (rdOf ByteArray.empty t117 0), .string (rdOf ByteArray.empty t117 1), .int .i64 0, .slice none 0 0, .slice none 0 0]) ?_ 3 _ rfl; (with_reducible repeat (first | refine blk_drewN ?_ _ | refine blk_drew ?_ | refine blk_alloc ?_ _)); refine blk_put (cs := #[.string (rdOf ByteArray.empty t117 0), .string (rdOf ByteArray.empty t117 1), .int .i64 0, .slice none 0 0, .slice none 0 0]) ?_ 2 _ rfl; (with_reducible repeat (first | refine blk_drewN ?_ _ | refine blk_drew ?_ | refine blk_alloc ?_ _)); refine blk_put (cs := #[.string (rdOf ByteArray.empty t117 0), .string (⟨#[]⟩ : ByteArray), .int .i64 0, .slice none 0 0, .slice none 0 0]) ?_ 1 _ rfl; (with_reducible repeat (first | refine blk_drewN ?_ _ | refine blk_drew ?_ | refine blk_alloc ?_ _)); refine blk_put (cs := #[.string (⟨#[]⟩ : ByteArray), .string (⟨#[]⟩ : ByteArray), .int .i64 0, .slice none 0 0, .slice none 0 0]) ?_ 0 _ rfl; (with_reducible repeat (first | refine blk_drewN ?_ _ | refine blk_drew ?_ | refine blk_alloc ?_ _)); exact BK123.out) hb); have n3_ := Aside0.mk (below_step (by repeat (first | (with_reducible first | exact HB.out | apply below_alloc | apply pw_below_drewN | apply below_drew1 | refine below_set ?_ GE116.out | refine below_set ?_ GE123.out) | exact HB.out)) hb); clear HO_4; clear BK116; clear BK123; clear HB; have HO_4 := n0_; have BK116 := n1_; have BK123 := n2_; have HB := n3_; clear n0_ n1_ n2_ n3_; (try clear hb); (try clear hb2); (try clear hk); (try clear hi); have hnb51 := NB123_116.out; have hnc51 := NB116_123.out; have hcz52_0 : w50.cell? ⟨gb123, 0, none⟩ = some (.string (rdOf ByteArray.empty t117 0)) := (blk_cell BK123.out 0).trans rfl; have hcz52_1 : w50.cell? ⟨gb123, 1, none⟩ = some (.string (rdOf ByteArray.empty t117 1)) := (blk_cell BK123.out 1).trans rfl; have hcz52_2 : w50.cell? ⟨gb123, 2, none⟩ = some (.int .i64 0) := (blk_cell BK123.out 2).trans rfl; have hcz52_3 : w50.cell? ⟨gb123, 3, none⟩ = some (.slice none 0 0) := (blk_cell BK123.out 3).trans rfl; have hcz52_4 : w50.cell? ⟨gb123, 4, none⟩ = some (.slice none 0 0) := (blk_cell BK123.out 4).trans rfl; have hfz52_0 := blk_frozen BK123.out 0; have hfz52_1 := blk_frozen BK123.out 1; have hfz52_2 := blk_frozen BK123.out 2; have hfz52_3 := blk_frozen BK123.out 3; have hfz52_4 := blk_frozen BK123.out 4; have p128 : 0 ≤ (3 : Int) := (by omega); have q128 : 3 < (t117.length : Int) := of_decide_eq_true (by first | (with_reducible assumption) | assumption); obtain ⟨ad128, e128, hx128_0⟩ := Kd.at_string (Kd.R_reads' HO_4.out).2.2 3 p128 q128; obtain rfl : ad121 = ad128 := (by injection e128); (try simp only [show (3 : Int).toNat = 3 from rfl, Nat.reduceMul, Nat.reduceEqDiff, Go.Addr.add, ↓reduceIte] at hx128_0); have qi128 : (3 < t117.length) = True := eq_true (by omega); (try rw [show ((3 : Int)).toNat = 3 from rfl] at hx128_0); have hn128_0 : ad121.block ≠ gb123 := Kd.own_blk (Kd.R_ne HO_4.out BK123.out (by decide)); replace hx128_0 := (cell_far (p := ⟨gb123, 2, none⟩) (by first | (rw [add_block]; exact hn128_0) | (show (Addr.add _ _).block ≠ _; rw [add_block]; exact hn128_0) | exact hn128_0) (.int .i64 (wrap64 (ji14)))).trans hx128_0; clear hn128_0; replace p128 := eq_true p128; replace q128 := eq_true q128) | ((with_reducible refine gate_callee (f := 45) rfl ?_); refine goesL_ (some 48) rfl rfl Tryd.func45 (by kernel_rfl) rfl #[.string (rdOf ByteArray.empty t117 3), .int .i64 5, .int .i64 4000] rfl (by (try simp only [List.map_toArray, List.map_cons, List.map_nil]); first | done | rfl | (simp only [List.length_drop, List.length_take]; rfl)) ?_; (with_reducible refine (wire_TakeAll.calls (rdOf ByteArray.empty t117 3) 5 4000 t129 t130 _ A16.out).mono ?_); rintro e w53 ⟨v131, rfl, ho0, hb⟩; refine ⟨_, rfl, ?_⟩; have n0_ := Aside0.mk (Kd.R_elder' (by (with_reducible repeat (first | apply Kd.R_alloc | apply Kd.R_drewN | apply Kd.R_drew)); exact (Kd.R_mono (Kd.R_far (p := ⟨gb123, 2, none⟩) (Kd.R_types HO_4.out BK123.out (by decide)) (fun _ hk => hk.2) (.int .i64 (wrap64 (ji14)))) (fun _ h_ => h_.1))) (Kd.R_base ho0) hb); have n1_ := Aside0.mk (Kd.R_lower (Kd.R_new' ho0 (Kd.R_lt (by (with_reducible repeat (first | apply Kd.R_alloc | apply Kd.R_drewN | apply Kd.R_drew)); exact (Kd.R_mono (Kd.R_far (p := ⟨gb123, 2, none⟩) (Kd.R_types HO_4.out BK123.out (by decide)) (fun _ hk => hk.2) (.int .i64 (wrap64 (ji14)))) (fun _ h_ => h_.1))))) (below_size (by repeat (first | (with_reducible first | exact HB.out | apply below_alloc | apply pw_below_drewN | apply below_drew1 | refine below_set ?_ GE116.out | refine below_set ?_ GE123.out) | exact HB.out)))); have n2_ := Aside0.mk (blk_below (g := gb116) (o := .cells #[.string (⟨#[]⟩ : ByteArray), .string (⟨#[]⟩ : ByteArray), .int .i64 0, .slice none 0 0, .slice none 0 0] 26 (0, 0)) (by (with_reducible repeat (first | refine blk_drewN ?_ _ | refine blk_drew ?_ | refine blk_alloc ?_ _)); refine blk_far ?_ NB116_123.out _; (with_reducible repeat (first | refine blk_drewN ?_ _ | refine blk_drew ?_ | refine blk_alloc ?_ _)); exact BK116.out) hb); have n3_ := Aside0.mk (blk_below (g := gb123) (o := .cells #[.string (rdOf ByteArray.empty t117 0), .string (rdOf ByteArray.empty t117 1), .int .i64 (wrap64 (ji14)), .slice none 0 0, .slice none 0 0] 26 (0, 0)) (by (with_reducible repeat (first | refine blk_drewN ?_ _ | refine blk_drew ?_ | refine blk_alloc ?_ _)); refine blk_put (cs := #[.string (rdOf ByteArray.empty t117 0), .string (rdOf ByteArray.empty t117 1), .int .i64 0, .slice none 0 0, .slice none 0 0]) ?_ 2 _ rfl; (with_reducible repeat (first | refine blk_drewN ?_ _ | refine blk_drew ?_ | refine blk_alloc ?_ _)); exact BK123.out) hb); have n4_ := Aside0.mk (below_step (by repeat (first | (with_reducible first | exact HB.out | apply below_alloc | apply pw_below_drewN | apply below_drew1 | refine below_set ?_ GE116.out | refine below_set ?_ GE123.out) | exact HB.out)) hb); clear HO_4; clear BK116; clear BK123; clear HB; have HO_4 := n0_; have HO132 := n1_; have BK116 := n2_; have BK123 := n3_; have HB := n4_; clear n0_ n1_ n2_ n3_ n4_; (try clear hb); (try clear hb2); (try clear hk); (try clear hi); (try clear ho0); obtain ⟨Ao54, co54, eo54⟩ := Kd.R_slice HO132.out; subst eo54; have hcz55_0 : w53.cell? ⟨gb123, 0, none⟩ = some (.string (rdOf ByteArray.empty t117 0)) := (blk_cell BK123.out 0).trans rfl; have hcz55_1 : w53.cell? ⟨gb123, 1, none⟩ = some (.string (rdOf ByteArray.empty t117 1)) := (blk_cell BK123.out 1).trans rfl; have hcz55_2 : w53.cell? ⟨gb123, 2, none⟩ = some (.int .i64 (wrap64 (ji14))) := (blk_cell BK123.out 2).trans rfl; have hcz55_3 : w53.cell? ⟨gb123, 3, none⟩ = some (.slice none 0 0) := (blk_cell BK123.out 3).trans rfl; have hcz55_4 : w53.cell? ⟨gb123, 4, none⟩ = some (.slice none 0 0) := (blk_cell BK123.out 4).trans rfl; have hfz55_0 := blk_frozen BK123.out 0; have hfz55_1 := blk_frozen BK123.out 1; have hfz55_2 := blk_frozen BK123.out 2; have hfz55_3 := blk_frozen BK123.out 3; have hfz55_4 := blk_frozen BK123.out 4; have p133 : 0 ≤ (4 : Int) := (by omega); have q133 : 4 < (t117.length : Int) := of_decide_eq_true (by first | (with_reducible assumption) | assumption); obtain ⟨ad133, e133, hx133_0⟩ := Kd.at_string (Kd.R_reads' HO_4.out).2.2 4 p133 q133; obtain rfl : ad121 = ad133 := (by injection e133); (try simp only [show (4 : Int).toNat = 4 from rfl, Nat.reduceMul, Nat.reduceEqDiff, Go.Addr.add, ↓reduceIte] at hx133_0); have qi133 : (4 < t117.length) = True := eq_true (by omega); (try rw [show ((4 : Int)).toNat = 4 from rfl] at hx133_0); have hn133_0 : ad121.block ≠ gb123 := Kd.own_blk (Kd.R_ne HO_4.out BK123.out (by decide)); replace hx133_0 := (cell_far (p := ⟨gb123, 3, none⟩) (by first | (rw [add_block]; exact hn133_0) | (show (Addr.add _ _).block ≠ _; rw [add_block]; exact hn133_0) | exact hn133_0) (.slice Ao54 t129.length co54)).trans hx133_0; clear hn133_0; replace p133 := eq_true p133; replace q133 := eq_true q133) | ((with_reducible refine gate_callee (f := 45) rfl ?_); refine goesL_ (some 56) rfl rfl Tryd.func45 (by kernel_rfl) rfl #[.string (rdOf ByteArray.empty t117 4), .int .i64 5, .int .i64 4000] rfl (by (try simp only [List.map_toArray, List.map_cons, List.map_nil]); first | done | rfl | (simp only [List.length_drop, List.length_take]; rfl)) ?_; (with_reducible refine (wire_TakeAll.calls (rdOf ByteArray.empty t117 4) 5 4000 t134 t135 _ A18.out).mono ?_); rintro e w56 ⟨v136, rfl, ho0, hb⟩; refine ⟨_, rfl, ?_⟩; have n0_ := Aside0.mk (Kd.R_elder' (by (with_reducible repeat (first | apply Kd.R_alloc | apply Kd.R_drewN | apply Kd.R_drew)); exact (Kd.R_mono (Kd.R_far (p := ⟨gb123, 3, none⟩) (Kd.R_types HO_4.out BK123.out (by decide)) (fun _ hk => hk.2) (.slice Ao54 t129.length co54)) (fun _ h_ => h_.1))) (Kd.R_base ho0) hb); have n1_ := Aside0.mk (Kd.R_elder' (by (with_reducible repeat (first | apply Kd.R_alloc | apply Kd.R_drewN | apply Kd.R_drew)); exact (Kd.R_mono (Kd.R_far (p := ⟨gb123, 3, none⟩) (Kd.R_types HO132.out BK123.out (by decide)) (fun _ hk => hk.2) (.slice Ao54 t129.length co54)) (fun _ h_ => h_.1))) (Kd.R_base ho0) hb); have n2_ := Aside0.mk (Kd.R_lower (Kd.R_new' (Kd.R_new' ho0 (Kd.R_lt (by (with_reducible repeat (first | apply Kd.R_alloc | apply Kd.R_drewN | apply Kd.R_drew)); exact (Kd.R_mono (Kd.R_far (p := ⟨gb123, 3, none⟩) (Kd.R_types HO_4.out BK123.out (by decide)) (fun _ hk => hk.2) (.slice Ao54 t129.length co54)) (fun _ h_ => h_.1))))) (Kd.R_lt (by (with_reducible repeat (first | apply Kd.R_alloc | apply Kd.R_drewN | apply Kd.R_drew)); exact (Kd.R_mono (Kd.R_far (p := ⟨gb123, 3, none⟩) (Kd.R_types HO132.out BK123.out (by decide)) (fun _ hk => hk.2) (.slice Ao54 t129.length co54)) (fun _ h_ => h_.1))))) (below_size (by repeat (first | (with_reducible first | exact HB.out | apply below_alloc | apply pw_below_drewN | apply below_drew1 | refine below_set ?_ GE116.out | refine below_set ?_ GE123.out) | exact HB.out)))); have n3_ := Aside0.mk (blk_below (g := gb116) (o := .cells #[.string (⟨#[]⟩ : ByteArray), .string (⟨#[]⟩ : ByteArray), .int .i64 0, .slice none 0 0, .slice none 0 0] 26 (0, 0)) (by (with_reducible repeat (first | refine blk_drewN ?_ _ | refine blk_drew ?_ | refine blk_alloc ?_ _)); refine blk_far ?_ NB116_123.out _; (with_reducible repeat (first | refine blk_drewN ?_ _ | refine blk_drew ?_ | refine blk_alloc ?_ _)); exact BK116.out) hb); have n4_ := Aside0.mk (blk_below (g := gb123) (o := .cells #[.string (rdOf ByteArray.empty t117 0), .string (rdOf ByteArray.empty t117 1), .int .i64 (wrap64 (ji14)), .slice Ao54 t129.length co54, .slice none 0 0] 26 (0, 0)) (by (with_reducible repeat (first | refine blk_drewN ?_ _ | refine blk_drew ?_ | refine blk_alloc ?_ _)); refine blk_put (cs := #[.string (rdOf ByteArray.empty t117 0), .string (rdOf ByteArray.empty t117 1), .int .i64 (wrap64 (ji14)), .slice none 0 0, .slice none 0 0]) ?_ 3 _ rfl; (with_reducible repeat (first | refine blk_drewN ?_ _ | refine blk_drew ?_ | refine blk_alloc ?_ _)); exact BK123.out) hb); have n5_ := Aside0.mk (below_step (by repeat (first | (with_reducible first | exact HB.out | apply below_alloc | apply pw_below_drewN | apply below_drew1 | refine below_set ?_ GE116.out | refine below_set ?_ GE123.out) | exact HB.out)) hb); clear HO_4; clear HO132; clear BK116; clear BK123; clear HB; have HO_4 := n0_; have HO132 := n1_; have HO137 := n2_; have BK116 := n3_; have BK123 := n4_; have HB := n5_; clear n0_ n1_ n2_ n3_ n4_ n5_; (try clear hb); (try clear hb2); (try clear hk); (try clear hi); (try clear ho0); obtain ⟨Ao57, co57, eo57⟩ := Kd.R_slice HO137.out; subst eo57; have hcz58_0 : w56.cell? ⟨gb123, 0, none⟩ = some (.string (rdOf ByteArray.empty t117 0)) := (blk_cell BK123.out 0).trans rfl; have hcz58_1 : w56.cell? ⟨gb123, 1, none⟩ = some (.string (rdOf ByteArray.empty t117 1)) := (blk_cell BK123.out 1).trans rfl; have hcz58_2 : w56.cell? ⟨gb123, 2, none⟩ = some (.int .i64 (wrap64 (ji14))) := (blk_cell BK123.out 2).trans rfl; have hcz58_3 : w56.cell? ⟨gb123, 3, none⟩ = some (.slice Ao54 t129.length co54) := (blk_cell BK123.out 3).trans rfl; have hcz58_4 : w56.cell? ⟨gb123, 4, none⟩ = some (.slice none 0 0) := (blk_cell BK123.out 4).trans rfl; have hfz58_0 := blk_frozen BK123.out 0; have hfz58_1 := blk_frozen BK123.out 1; have hfz58_2 := blk_frozen BK123.out 2; have hfz58_3 := blk_frozen BK123.out 3; have hfz58_4 := blk_frozen BK123.out 4) | ((with_reducible refine gate_callee (f := 19) rfl ?_); refine goesL_ (some 62) rfl rfl Tryd.func19 (by kernel_rfl) rfl #[.agg #[.string (rdOf ByteArray.empty t117 0), .string (rdOf ByteArray.empty t117 1), .int .i64 (wrap64 (ji14)), .slice Ao54 t129.length co54, .slice Ao57 t134.length co57]] rfl (by (try simp only [List.map_toArray, List.map_cons, List.map_nil]); first | done | (simp only [hji14]; rfl) | rfl | (simp only [List.length_drop, List.length_take]; rfl)) ?_; (with_reducible refine (rights_Put.calls (rdOf ByteArray.empty t117 0) (rdOf ByteArray.empty t117 1) (wrap64 (ji14)) _ _ t129 _ _ t134 t138 t139 _ ?side5 ?side1 ?side2 ?side3 ?side4 A19.out).mono ?_); (case side1 => refine (Kd.R_reads' (e := 9) (base := w.heap.size) (ok := fun k_ => ((True ∧ some k_ ≠ (.slice (some ad121) t117.length co43 : Value).ownBlock) ∧ some k_ ≠ (.slice Ao57 t134.length co57 : Value).ownBlock)) (n := t129.length) (c := co54) ?_).2.2; exact (by (with_reducible repeat (first | apply Kd.R_alloc | apply Kd.R_drewN | apply Kd.R_drew)); exact (Kd.R_mono (Kd.R_far (p := ⟨gb123, 4, none⟩) (Kd.R_types HO132.out BK123.out (by decide)) (fun _ hk => hk.2) (.slice Ao57 t134.length co57)) (fun _ h_ => h_.1)))); (case side2 => exact (Kd.R_reads' HO132.out).2.1); (case side3 => refine (Kd.R_reads' (e := 9) (base := w.heap.size) (ok := fun k_ => ((True ∧ some k_ ≠ (.slice (some ad121) t117.length co43 : Value).ownBlock) ∧ some k_ ≠ (.slice Ao54 t129.length co54 : Value).ownBlock)) (n := t134.length) (c := co57) ?_).2.2; exact (by (with_reducible repeat (first | apply Kd.R_alloc | apply Kd.R_drewN | apply Kd.R_drew)); exact (Kd.R_mono (Kd.R_far (p := ⟨gb123, 4, none⟩) (Kd.R_types HO137.out BK123.out (by decide)) (fun _ hk => hk.2) (.slice Ao57 t134.length co57)) (fun _ h_ => h_.1)))); (case side4 => exact (Kd.R_reads' HO137.out).2.1); (case side5 => exact ⟨Tabs.below HTB.out (by repeat (first | (with_reducible first | exact HB.out | apply below_alloc | apply pw_below_drewN | apply below_drew1 | refine below_set ?_ GE116.out | refine below_set ?_ GE123.out) | exact HB.out))⟩); rintro e w59 ⟨rfl, hb⟩; refine ⟨_, rfl, ?_⟩; have n0_ := Aside0.mk (Kd.R_below (by (with_reducible repeat (first | apply Kd.R_alloc | apply Kd.R_drewN | apply Kd.R_drew)); exact (Kd.R_mono (Kd.R_far (p := ⟨gb123, 4, none⟩) (Kd.R_types HO_4.out BK123.out (by decide)) (fun _ hk => hk.2) (.slice Ao57 t134.length co57)) (fun _ h_ => h_.1))) hb); have n1_ := Aside0.mk (Kd.R_below (by (with_reducible repeat (first | apply Kd.R_alloc | apply Kd.R_drewN | apply Kd.R_drew)); exact (Kd.R_mono (Kd.R_far (p := ⟨gb123, 4, none⟩) (Kd.R_types HO132.out BK123.out (by decide)) (fun _ hk => hk.2) (.slice Ao57 t134.length co57)) (fun _ h_ => h_.1))) hb); have n2_ := Aside0.mk (Kd.R_below (by (with_reducible repeat (first | apply Kd.R_alloc | apply Kd.R_drewN | apply Kd.R_drew)); exact (Kd.R_mono (Kd.R_far (p := ⟨gb123, 4, none⟩) (Kd.R_types HO137.out BK123.out (by decide)) (fun _ hk => hk.2) (.slice Ao57 t134.length co57)) (fun _ h_ => h_.1))) hb); have n3_ := Aside0.mk (blk_below (g := gb116) (o := .cells #[.string (⟨#[]⟩ : ByteArray), .string (⟨#[]⟩ : ByteArray), .int .i64 0, .slice none 0 0, .slice none 0 0] 26 (0, 0)) (by (with_reducible repeat (first | refine blk_drewN ?_ _ | refine blk_drew ?_ | refine blk_alloc ?_ _)); refine blk_far ?_ NB116_123.out _; (with_reducible repeat (first | refine blk_drewN ?_ _ | refine blk_drew ?_ | refine blk_alloc ?_ _)); exact BK116.out) hb); have n4_ := Aside0.mk (blk_below (g := gb123) (o := .cells #[.string (rdOf ByteArray.empty t117 0), .string (rdOf ByteArray.empty t117 1), .int .i64 (wrap64 (ji14)), .slice Ao54 t129.length co54, .slice Ao57 t134.length co57] 26 (0, 0)) (by (with_reducible repeat (first | refine blk_drewN ?_ _ | refine blk_drew ?_ | refine blk_alloc ?_ _)); refine blk_put (cs := #[.string (rdOf ByteArray.empty t117 0), .string (rdOf ByteArray.empty t117 1), .int .i64 (wrap64 (ji14)), .slice Ao54 t129.length co54, .slice none 0 0]) ?_ 4 _ rfl; (with_reducible repeat (first | refine blk_drewN ?_ _ | refine blk_drew ?_ | refine blk_alloc ?_ _)); exact BK123.out) hb); have n5_ := Aside0.mk (below_step (by repeat (first | (with_reducible first | exact HB.out | apply below_alloc | apply pw_below_drewN | apply below_drew1 | refine below_set ?_ GE116.out | refine below_set ?_ GE123.out) | exact HB.out)) hb); clear HO_4; clear HO132; clear HO137; clear BK116; clear BK123; clear HB; have HO_4 := n0_; have HO132 := n1_; have HO137 := n2_; have BK116 := n3_; have BK123 := n4_; have HB := n5_; clear n0_ n1_ n2_ n3_ n4_ n5_; (try clear hb); (try clear hb2); (try clear hk); (try clear hi); have hcz60_0 : w59.cell? ⟨gb116, 0, none⟩ = some (.string (⟨#[]⟩ : ByteArray)) := (blk_cell BK116.out 0).trans rfl; have hcz60_1 : w59.cell? ⟨gb116, 1, none⟩ = some (.string (⟨#[]⟩ : ByteArray)) := (blk_cell BK116.out 1).trans rfl; have hcz60_2 : w59.cell? ⟨gb116, 2, none⟩ = some (.int .i64 0) := (blk_cell BK116.out 2).trans rfl; have hcz60_3 : w59.cell? ⟨gb116, 3, none⟩ = some (.slice none 0 0) := (blk_cell BK116.out 3).trans rfl; have hcz60_4 : w59.cell? ⟨gb116, 4, none⟩ = some (.slice none 0 0) := (blk_cell BK116.out 4).trans rfl; have hfz60_0 := blk_frozen BK116.out 0; have hfz60_1 := blk_frozen BK116.out 1; have hfz60_2 := blk_frozen BK116.out 2; have hfz60_3 := blk_frozen BK116.out 3; have hfz60_4 := blk_frozen BK116.out 4))
           refine bodyPost_ret (results_ct rfl _ _ gb116 26 #[.string (⟨#[]⟩ : ByteArray), .string (⟨#[]⟩ : ByteArray), .int .i64 0, .slice none 0 0, .slice none 0 0] (0, 0) _ rfl (by (with_reducible repeat (first | refine blk_drewN ?_ _ | refine blk_drew ?_ | refine blk_alloc ?_ _)); refine blk_put (cs := #[.string (⟨#[]⟩ : ByteArray), .string (⟨#[]⟩ : ByteArray), .int .i64 0, .slice none 0 0, .slice none 0 0]) ?_ 4 _ rfl; (with_reducible repeat (first | refine blk_drewN ?_ _ | refine blk_drew ?_ | refine blk_alloc ?_ _)); refine blk_put (cs := #[.string (⟨#[]⟩ : ByteArray), .string (⟨#[]⟩ : ByteArray), .int .i64 0, .slice none 0 0, .slice none 0 0]) ?_ 3 _ rfl; (with_reducible repeat (first | refine blk_drewN ?_ _ | refine blk_drew ?_ | refine blk_alloc ?_ _)); refine blk_put (cs := #[.string (⟨#[]⟩ : ByteArray), .string (⟨#[]⟩ : ByteArray), .int .i64 0, .slice none 0 0, .slice none 0 0]) ?_ 2 _ rfl; (with_reducible repeat (first | refine blk_drewN ?_ _ | refine blk_drew ?_ | refine blk_alloc ?_ _)); refine blk_put (cs := #[.string (⟨#[]⟩ : ByteArray), .string (⟨#[]⟩ : ByteArray), .int .i64 0, .slice none 0 0, .slice none 0 0]) ?_ 1 _ rfl; (with_reducible repeat (first | refine blk_drewN ?_ _ | refine blk_drew ?_ | refine blk_alloc ?_ _)); refine blk_put (cs := #[.string (⟨#[]⟩ : ByteArray), .string (⟨#[]⟩ : ByteArray), .int .i64 0, .slice none 0 0, .slice none 0 0]) ?_ 0 _ rfl; (with_reducible repeat (first | refine blk_drewN ?_ _ | refine blk_drew ?_ | refine blk_alloc ?_ _)); exact BK116.out) Tryd.underlying26 rfl (by kernel_rfl)) rfl ?_
           exact ⟨_, _, by first | rfl | (simp [errW_none, errW_some] <;> rfl) | (simp only [← hji14]; first | rfl | (simp [errW_none, errW_some] <;> rfl)) | (simp [*, errW_none, errW_some] <;> rfl), by first | exact Kd.R_nil _ _ _ _ _ | exact Kd.N_nil _ _ _ _ _ | exact Kd.V_nil _ _ _ _ _ | exact Kd.Q_nil _ _ _ _ _ | exact Kd.S_nil _ _ _ _ _, by first | exact Kd.R_nil _ _ _ _ _ | exact Kd.N_nil _ _ _ _ _ | exact Kd.V_nil _ _ _ _ _ | exact Kd.Q_nil _ _ _ _ _ | exact Kd.S_nil _ _ _ _ _, by repeat (first | (with_reducible first | exact HB.out | apply below_alloc | apply pw_below_drewN | apply below_drew1 | refine below_set ?_ GE116.out | refine below_set ?_ GE123.out) | exact HB.out)⟩
         ·rw [if_neg c20] at H
          have c20b0 : (t139 == 0) = false := beq_eq_false_iff_ne.mpr c20
          have c20b1 : (t139 != 0) = true := bne_iff_ne.mpr c20
          simp only [Option.some.injEq, Prod.mk.injEq] at H
          obtain ⟨rfl, rfl, rfl, rfl, rfl, rfl⟩ := H
          try go_wp2
          have n0_ := Aside0.mk (Kd.R_drew HO_4.out)
          have n1_ := Aside0.mk (blk_drew BK116.out)
          have n2_ := Aside0.mk (below_drew1 HB.out)
          clear HO_4
          clear BK116
          clear HB
          have HO_4 := n0_
          have BK116 := n1_
          have HB := n2_
          clear n0_ n1_ n2_
          obtain ⟨Ao62, co62, eo62⟩ := Kd.R_slice HO_4.out
          (first | subst eo62 | (injection eo62 with f1_ f2_ f3_; have f4_ := f1_.symm; have f5_ := f3_.symm; clear f1_ f2_ f3_; subst f4_; subst f5_))
          have p121 : 0 ≤ (0 : Int) := (by omega)
          have q121 : 0 < (t117.length : Int) := of_decide_eq_true (by first | (with_reducible assumption) | assumption)
          obtain ⟨ad121, e121, hx121_0⟩ := Kd.at_string (Kd.R_reads' HO_4.out).2.2 0 p121 q121
          cases e121
          have qi121 : (0 < t117.length) = True := eq_true (by omega)
          (try rw [show ((0 : Int)).toNat = 0 from rfl] at hx121_0)
          (try rw [Addr.add_zero'] at hx121_0)
          replace p121 := eq_true p121
          replace q121 := eq_true q121
          have p122 : 0 ≤ (1 : Int) := (by omega)
          have q122 : 1 < (t117.length : Int) := of_decide_eq_true (by first | (with_reducible assumption) | assumption)
          obtain ⟨ad122, e122, hx122_0⟩ := Kd.at_string (Kd.R_reads' HO_4.out).2.2 1 p122 q122
          obtain rfl : ad121 = ad122 := (by injection e122)
          (try simp only [show (1 : Int).toNat = 1 from rfl, Nat.reduceMul, Nat.reduceEqDiff, Go.Addr.add, ↓reduceIte] at hx122_0)
          have qi122 : (1 < t117.length) = True := eq_true (by omega)
          (try rw [show ((1 : Int)).toNat = 1 from rfl] at hx122_0)
          replace p122 := eq_true p122
          replace q122 := eq_true q122
          refine start_ (n := 9) (S := fun w' => w'.cell? ad121 = some (.string (rdOf ByteArray.empty t117 0)) ∧ w'.cell? ⟨ad121.block, ad121.off + 1, none⟩ = some (.string (rdOf ByteArray.empty t117 1))) (ds := []) #[false, false, false, false, false, false, false, false, false] (by kernel_rfl) rfl rfl ⟨hx121_0, hx122_0⟩ (fun hHeld => ?_); refine with_tabW rights_Take.tab4 rights_Take.bits4 (fun HT_ HW_ => ?_)
          generalize wc.drew = w61 at HO_4 BK116 HB hx121_0 hx122_0 hHeld ⊢
          refine pure_ (i := 0) (N := some 25) (v := ?_) (a' := ?_) #[true, false, false, false, false, false, false, false, false] rfl rfl (any_of HT_.out (by kernel_rfl)) (fun _ _ _ h => h) (Or.inl ⟨by rfl, ?_⟩) ?_ ?_
          rotate_left
          ·intro w'
           go_simp
           with_reducible rfl
          rotate_left
          ·simp only [Act.put, List.setIfInBounds_toArray, List.set_cons_zero, List.set_cons_succ, i64_w, i32_w]
           rfl
          refine pure_ (i := 1) (N := some 26) (v := ?_) (a' := ?_) #[true, true, false, false, false, false, false, false, false] rfl rfl (any_of HT_.out (by kernel_rfl)) (fun _ _ _ h => h) (Or.inl ⟨by rfl, ?_⟩) ?_ ?_
          rotate_left
          ·intro w'
           go_simp
           with_reducible rfl
          rotate_left
          ·simp only [Act.put, List.setIfInBounds_toArray, List.set_cons_zero, List.set_cons_succ, i64_w, i32_w]
           rfl
          refine pure_ (i := 3) (N := some 28) (v := ?_) (a' := ?_) #[true, true, false, true, false, false, false, false, false] rfl rfl (any_of HT_.out (by kernel_rfl)) (fun _ _ _ h => h) (Or.inl ⟨by rfl, ?_⟩) ?_ ?_
          rotate_left
          ·intro w'
           go_simp
           with_reducible rfl
          rotate_left
          ·simp only [Act.put, List.setIfInBounds_toArray, List.set_cons_zero, List.set_cons_succ, i64_w, i32_w]
           rfl
          refine pure_ (i := 4) (N := some 29) (v := ?_) (a' := ?_) #[true, true, false, true, true, false, false, false, false] rfl rfl (any_of HT_.out (by kernel_rfl)) (fun _ _ _ h => h) (Or.inl ⟨by rfl, ?_⟩) ?_ ?_
          rotate_left
          ·intro w'
           go_simp
           with_reducible rfl
          rotate_left
          ·simp only [Act.put, List.setIfInBounds_toArray, List.set_cons_zero, List.set_cons_succ, i64_w, i32_w]
           rfl
          refine take_ (i := 2) (N := some 27) (v := ?_) (a' := ?_) #[true, true, true, true, true, false, false, false, false] rfl rfl (take_ofW HT_.out HW_.out (by kernel_rfl)) (fun _ _ _ h => h) (Or.inl ⟨by rfl, ?_⟩) hHeld ?_ ?_
          rotate_left
          ·rintro w' ⟨s0, s1⟩
           go_simp
           with_reducible rfl
          rotate_left
          ·simp only [Act.put, List.setIfInBounds_toArray, List.set_cons_zero, List.set_cons_succ, i64_w, i32_w]
           rfl
          refine take_ (i := 5) (N := some 30) (v := ?_) (a' := ?_) #[true, true, true, true, true, true, false, false, false] rfl rfl (take_ofW HT_.out HW_.out (by kernel_rfl)) (fun _ _ _ h => h) (Or.inl ⟨by rfl, ?_⟩) hHeld ?_ ?_
          rotate_left
          ·rintro w' ⟨s0, s1⟩
           go_simp
           with_reducible rfl
          rotate_left
          ·simp only [Act.put, List.setIfInBounds_toArray, List.set_cons_zero, List.set_cons_succ, i64_w, i32_w]
           rfl
          refine pure_ (i := 6) (N := some 31) (v := ?_) (a' := ?_) #[true, true, true, true, true, true, true, false, false] rfl rfl (any_of HT_.out (by kernel_rfl)) (fun _ _ _ h => h) (Or.inl ⟨by rfl, ?_⟩) ?_ ?_
          rotate_left
          ·intro w'
           go_simp
           with_reducible rfl
          rotate_left
          ·simp only [Act.put, List.setIfInBounds_toArray, List.set_cons_zero, List.set_cons_succ, i64_w, i32_w]
           rfl
          refine one_ (i := 7) (N := some 6) #[true, true, true, true, true, true, true, true, false] rfl rfl (one_of HT_.out (by kernel_rfl)) (by decide) (fun K hK => ?_)
          refine box_step ?hg (N := 6) ?hd (cs := #[.string (⟨#[]⟩ : ByteArray), .string (⟨#[]⟩ : ByteArray), .int .i64 0, .slice none 0 0, .slice none 0 0]) (t := 26) ?hr ?_; (case hd => rfl); (case hg => rfl); (case hr => first | (go_simp; done) | (go_simp; rfl))
          intro gb123 hg w63 hbox hb
          have HS0_ := (hb.cell (World.block_lt_of_cell? _ _ (hHeld.1))).trans (hHeld.1)
          have HS1_ := (hb.cell (World.block_lt_of_cell? _ _ (hHeld.2))).trans (hHeld.2)
          have n0_ := Aside0.mk (Kd.R_below (by (with_reducible repeat (first | apply Kd.R_alloc | apply Kd.R_drewN | apply Kd.R_drew)); exact HO_4.out) hb)
          have n1_ := Aside0.mk (blk_below (g := gb116) (o := .cells #[.string (⟨#[]⟩ : ByteArray), .string (⟨#[]⟩ : ByteArray), .int .i64 0, .slice none 0 0, .slice none 0 0] 26 (0, 0)) (by (with_reducible repeat (first | refine blk_drewN ?_ _ | refine blk_drew ?_ | refine blk_alloc ?_ _)); exact BK116.out) hb)
          have n2_ := Aside0.mk (below_step (by repeat (first | (with_reducible first | exact HB.out | apply below_alloc | apply pw_below_drewN | apply below_drew1 | refine below_set ?_ GE116.out) | exact HB.out)) hb)
          have n3_ := Aside0.mk (hbox)
          have n4_ := Aside0.mk ((by rw [hg]; exact (below_size (by repeat (first | (with_reducible first | exact HB.out | apply below_alloc | apply pw_below_drewN | apply below_drew1 | refine below_set ?_ GE116.out) | exact HB.out))) : w.heap.size ≤ gb123))
          have n5_ := Aside0.mk ((by rw [hg]; exact (below_size (by repeat (first | (with_reducible first | exact HB.out | apply below_alloc | apply pw_below_drewN | apply below_drew1 | refine below_set ?_ GE116.out) | exact HB.out))) : w.heap.size ≤ gb123))
          have n6_ := Aside0.mk ((by rw [hg]; exact Nat.ne_of_lt (blk_lt (g := gb116) (o := .cells #[.string (⟨#[]⟩ : ByteArray), .string (⟨#[]⟩ : ByteArray), .int .i64 0, .slice none 0 0, .slice none 0 0] 26 (0, 0)) (by (with_reducible repeat (first | refine blk_drewN ?_ _ | refine blk_drew ?_ | refine blk_alloc ?_ _)); exact BK116.out)) : gb116 ≠ gb123))
          have n7_ := Aside0.mk ((by rw [hg]; exact Nat.ne_of_gt (blk_lt (g := gb116) (o := .cells #[.string (⟨#[]⟩ : ByteArray), .string (⟨#[]⟩ : ByteArray), .int .i64 0, .slice none 0 0, .slice none 0 0] 26 (0, 0)) (by (with_reducible repeat (first | refine blk_drewN ?_ _ | refine blk_drew ?_ | refine blk_alloc ?_ _)); exact BK116.out)) : gb123 ≠ gb116))
          clear HO_4
          clear BK116
          clear HB
          have HO_4 := n0_
          have BK116 := n1_
          have HB := n2_
          have BK123 := n3_
          have GW123 := n4_
          have GE123 := n5_
          have NB116_123 := n6_
          have NB123_116 := n7_
          clear n0_ n1_ n2_ n3_ n4_ n5_ n6_ n7_
          clear hb hbox hg
          refine hK.out _ _ ⟨HS0_, HS1_⟩ (fun hHeld => ?_)
          clear hK K
          refine norm_ (a' := ?_) ?_ ?_
          rotate_left
          ·show Act.put _ (some 6) _ = _
           simp only [Act.put, List.setIfInBounds_toArray, List.set_cons_zero, List.set_cons_succ, i64_w, i32_w]
           rfl
          refine one_ (i := 8) (N := none) #[true, true, true, true, true, true, true, true, true] rfl rfl (one_of HT_.out (by kernel_rfl)) (by decide) (fun K hK => ?_)
          have hs64 : w63.cell? ⟨gb123, 0, none⟩ = some (.string (⟨#[]⟩ : ByteArray)) := (blk_cell BK123.out 0).trans rfl
          have hfs64 := blk_frozen BK123.out 0
          have hns64_0 := NB116_123.out
          have hms64_0 := NB123_116.out
          have hs65 : w63.cell? ⟨gb123, 1, none⟩ = some (.string (⟨#[]⟩ : ByteArray)) := (blk_cell BK123.out 1).trans rfl
          have hfs65 := blk_frozen BK123.out 1
          have hns65_0 := NB116_123.out
          have hms65_0 := NB123_116.out
          have hs66 : w63.cell? ⟨gb123, 2, none⟩ = some (.int .i64 0) := (blk_cell BK123.out 2).trans rfl
          have hfs66 := blk_frozen BK123.out 2
          have hns66_0 := NB116_123.out
          have hms66_0 := NB123_116.out
          have hs67 : w63.cell? ⟨gb123, 3, none⟩ = some (.slice none 0 0) := (blk_cell BK123.out 3).trans rfl
          have hfs67 := blk_frozen BK123.out 3
          have hns67_0 := NB116_123.out
          have hms67_0 := NB123_116.out
          have hs68 : w63.cell? ⟨gb123, 4, none⟩ = some (.slice none 0 0) := (blk_cell BK123.out 4).trans rfl
          have hfs68 := blk_frozen BK123.out 4
          have hns68_0 := NB116_123.out
          have hms68_0 := NB123_116.out
          refine skip_ (w1 := ?_) (by rfl) rfl ?_ ?_
          rotate_left
          ·go_simp
           rfl
          refine hK.out _ _ ⟨((cell_far (p := ⟨gb123, _, none⟩) (by first | exact Kd.own_blk (Kd.R_ne HO_4.out BK123.out (by decide)) | (rw [add_block]; exact Kd.own_blk (Kd.R_ne HO_4.out BK123.out (by decide))) | (show (Addr.add _ _).block ≠ _; rw [add_block]; exact Kd.own_blk (Kd.R_ne HO_4.out BK123.out (by decide))) | (dsimp only; exact Kd.own_blk (Kd.R_ne HO_4.out BK123.out (by decide)))) _).trans (((cell_far (p := ⟨gb123, _, none⟩) (by first | exact Kd.own_blk (Kd.R_ne HO_4.out BK123.out (by decide)) | (rw [add_block]; exact Kd.own_blk (Kd.R_ne HO_4.out BK123.out (by decide))) | (show (Addr.add _ _).block ≠ _; rw [add_block]; exact Kd.own_blk (Kd.R_ne HO_4.out BK123.out (by decide))) | (dsimp only; exact Kd.own_blk (Kd.R_ne HO_4.out BK123.out (by decide)))) _).trans (((cell_far (p := ⟨gb123, _, none⟩) (by first | exact Kd.own_blk (Kd.R_ne HO_4.out BK123.out (by decide)) | (rw [add_block]; exact Kd.own_blk (Kd.R_ne HO_4.out BK123.out (by decide))) | (show (Addr.add _ _).block ≠ _; rw [add_block]; exact Kd.own_blk (Kd.R_ne HO_4.out BK123.out (by decide))) | (dsimp only; exact Kd.own_blk (Kd.R_ne HO_4.out BK123.out (by decide)))) _).trans (((cell_far (p := ⟨gb123, _, none⟩) (by first | exact Kd.own_blk (Kd.R_ne HO_4.out BK123.out (by decide)) | (rw [add_block]; exact Kd.own_blk (Kd.R_ne HO_4.out BK123.out (by decide))) | (show (Addr.add _ _).block ≠ _; rw [add_block]; exact Kd.own_blk (Kd.R_ne HO_4.out BK123.out (by decide))) | (dsimp only; exact Kd.own_blk (Kd.R_ne HO_4.out BK123.out (by decide)))) _).trans (((cell_far (p := ⟨gb123, _, none⟩) (by first | exact Kd.own_blk (Kd.R_ne HO_4.out BK123.out (by decide)) | (rw [add_block]; exact Kd.own_blk (Kd.R_ne HO_4.out BK123.out (by decide))) | (show (Addr.add _ _).block ≠ _; rw [add_block]; exact Kd.own_blk (Kd.R_ne HO_4.out BK123.out (by decide))) | (dsimp only; exact Kd.own_blk (Kd.R_ne HO_4.out BK123.out (by decide)))) _).trans (hHeld.1)))))))))), ((cell_far (p := ⟨gb123, _, none⟩) (by first | exact Kd.own_blk (Kd.R_ne HO_4.out BK123.out (by decide)) | (rw [add_block]; exact Kd.own_blk (Kd.R_ne HO_4.out BK123.out (by decide))) | (show (Addr.add _ _).block ≠ _; rw [add_block]; exact Kd.own_blk (Kd.R_ne HO_4.out BK123.out (by decide))) | (dsimp only; exact Kd.own_blk (Kd.R_ne HO_4.out BK123.out (by decide)))) _).trans (((cell_far (p := ⟨gb123, _, none⟩) (by first | exact Kd.own_blk (Kd.R_ne HO_4.out BK123.out (by decide)) | (rw [add_block]; exact Kd.own_blk (Kd.R_ne HO_4.out BK123.out (by decide))) | (show (Addr.add _ _).block ≠ _; rw [add_block]; exact Kd.own_blk (Kd.R_ne HO_4.out BK123.out (by decide))) | (dsimp only; exact Kd.own_blk (Kd.R_ne HO_4.out BK123.out (by decide)))) _).trans (((cell_far (p := ⟨gb123, _, none⟩) (by first | exact Kd.own_blk (Kd.R_ne HO_4.out BK123.out (by decide)) | (rw [add_block]; exact Kd.own_blk (Kd.R_ne HO_4.out BK123.out (by decide))) | (show (Addr.add _ _).block ≠ _; rw [add_block]; exact Kd.own_blk (Kd.R_ne HO_4.out BK123.out (by decide))) | (dsimp only; exact Kd.own_blk (Kd.R_ne HO_4.out BK123.out (by decide)))) _).trans (((cell_far (p := ⟨gb123, _, none⟩) (by first | exact Kd.own_blk (Kd.R_ne HO_4.out BK123.out (by decide)) | (rw [add_block]; exact Kd.own_blk (Kd.R_ne HO_4.out BK123.out (by decide))) | (show (Addr.add _ _).block ≠ _; rw [add_block]; exact Kd.own_blk (Kd.R_ne HO_4.out BK123.out (by decide))) | (dsimp only; exact Kd.own_blk (Kd.R_ne HO_4.out BK123.out (by decide)))) _).trans (((cell_far (p := ⟨gb123, _, none⟩) (by first | exact Kd.own_blk (Kd.R_ne HO_4.out BK123.out (by decide)) | (rw [add_block]; exact Kd.own_blk (Kd.R_ne HO_4.out BK123.out (by decide))) | (show (Addr.add _ _).block ≠ _; rw [add_block]; exact Kd.own_blk (Kd.R_ne HO_4.out BK123.out (by decide))) | (dsimp only; exact Kd.own_blk (Kd.R_ne HO_4.out BK123.out (by decide)))) _).trans (hHeld.2))))))))))⟩ (fun hHeld => ?_)
          clear hK K
          refine done_ (done_of HT_.out (by kernel_rfl)) ?_
          have p124 : 0 ≤ (2 : Int) := (by omega)
          have q124 : 2 < (t117.length : Int) := of_decide_eq_true (by first | (with_reducible assumption) | assumption)
          obtain ⟨ad124, e124, hx124_0⟩ := Kd.at_string (Kd.R_reads' HO_4.out).2.2 2 p124 q124
          obtain rfl : ad121 = ad124 := (by injection e124)
          (try simp only [show (2 : Int).toNat = 2 from rfl, Nat.reduceMul, Nat.reduceEqDiff, Go.Addr.add, ↓reduceIte] at hx124_0)
          have qi124 : (2 < t117.length) = True := eq_true (by omega)
          (try rw [show ((2 : Int)).toNat = 2 from rfl] at hx124_0)
          have hn124_0 : ad121.block ≠ gb123 := Kd.own_blk (Kd.R_ne HO_4.out BK123.out (by decide))
          have hn124_1 : ad121.block ≠ gb123 := Kd.own_blk (Kd.R_ne HO_4.out BK123.out (by decide))
          have hn124_2 : ad121.block ≠ gb123 := Kd.own_blk (Kd.R_ne HO_4.out BK123.out (by decide))
          have hn124_3 : ad121.block ≠ gb123 := Kd.own_blk (Kd.R_ne HO_4.out BK123.out (by decide))
          have hn124_4 : ad121.block ≠ gb123 := Kd.own_blk (Kd.R_ne HO_4.out BK123.out (by decide))
          replace hx124_0 := (cell_far (p := ⟨gb123, 0, none⟩) (by first | (rw [add_block]; exact hn124_0) | (show (Addr.add _ _).block ≠ _; rw [add_block]; exact hn124_0) | exact hn124_0) (.string (rdOf ByteArray.empty t117 0))).trans hx124_0
          replace hx124_0 := (cell_far (p := ⟨gb123, 1, none⟩) (by first | (rw [add_block]; exact hn124_1) | (show (Addr.add _ _).block ≠ _; rw [add_block]; exact hn124_1) | exact hn124_1) (.string (rdOf ByteArray.empty t117 1))).trans hx124_0
          replace hx124_0 := (cell_far (p := ⟨gb123, 2, none⟩) (by first | (rw [add_block]; exact hn124_2) | (show (Addr.add _ _).block ≠ _; rw [add_block]; exact hn124_2) | exact hn124_2) (.int .i64 0)).trans hx124_0
          replace hx124_0 := (cell_far (p := ⟨gb123, 3, none⟩) (by first | (rw [add_block]; exact hn124_3) | (show (Addr.add _ _).block ≠ _; rw [add_block]; exact hn124_3) | exact hn124_3) (.slice none 0 0)).trans hx124_0
          replace hx124_0 := (cell_far (p := ⟨gb123, 4, none⟩) (by first | (rw [add_block]; exact hn124_4) | (show (Addr.add _ _).block ≠ _; rw [add_block]; exact hn124_4) | exact hn124_4) (.slice none 0 0)).trans hx124_0
          clear hn124_0
          clear hn124_1
          clear hn124_2
          clear hn124_3
          clear hn124_4
          replace p124 := eq_true p124
          replace q124 := eq_true q124
          try go_wp2_with (first | ((with_reducible refine gate_callee (f := 46) rfl ?_); refine goesL_ (some 36) rfl rfl Tryd.func46 (by kernel_rfl) rfl #[.string (rdOf ByteArray.empty t117 2)] rfl (by (try simp only [List.map_toArray, List.map_cons, List.map_nil]); first | done | rfl | (simp only [List.length_drop, List.length_take]; rfl)) ?_; (with_reducible refine (wire_Take.calls (rdOf ByteArray.empty t117 2) t125 t126 t127 _ A13.out).mono ?_); rintro e w69 ⟨rfl, hb⟩; refine ⟨_, rfl, ?_⟩; have n0_ := Aside0.mk (Kd.R_below (by (with_reducible repeat (first | apply Kd.R_alloc | apply Kd.R_drewN | apply Kd.R_drew)); exact (Kd.R_mono (Kd.R_far (p := ⟨gb123, 4, none⟩) (Kd.R_far (p := ⟨gb123, 3, none⟩) (Kd.R_far (p := ⟨gb123, 2, none⟩) (Kd.R_far (p := ⟨gb123, 1, none⟩) (Kd.R_far (p := ⟨gb123, 0, none⟩) (Kd.R_types HO_4.out BK123.out (by decide)) (fun _ hk => hk.2) (.string (rdOf ByteArray.empty t117 0))) (fun _ hk => hk.2) (.string (rdOf ByteArray.empty t117 1))) (fun _ hk => hk.2) (.int .i64 0)) (fun _ hk => hk.2) (.slice none 0 0)) (fun _ hk => hk.2) (.slice none 0 0)) (fun _ h_ => h_.1))) hb); have n1_ := Aside0.mk (blk_below (g := gb116) (o := .cells #[.string (⟨#[]⟩ : ByteArray), .string (⟨#[]⟩ : ByteArray), .int .i64 0, .slice none 0 0, .slice none 0 0] 26 (0, 0)) (by (with_reducible repeat (first | refine blk_drewN ?_ _ | refine blk_drew ?_ | refine blk_alloc ?_ _)); refine blk_far ?_ NB116_123.out _; (with_reducible repeat (first | refine blk_drewN ?_ _ | refine blk_drew ?_ | refine blk_alloc ?_ _)); refine blk_far ?_ NB116_123.out _; (with_reducible repeat (first | refine blk_drewN ?_ _ | refine blk_drew ?_ | refine blk_alloc ?_ _)); refine blk_far ?_ NB116_123.out _; (with_reducible repeat (first | refine blk_drewN ?_ _ | refine blk_drew ?_ | refine blk_alloc ?_ _)); refine blk_far ?_ NB116_123.out _; (with_reducible repeat (first | refine blk_drewN ?_ _ | refine blk_drew ?_ | refine blk_alloc ?_ _)); refine blk_far ?_ NB116_123.out _; (with_reducible repeat (first | refine blk_drewN ?_ _ | refine blk_drew ?_ | refine blk_alloc ?_ _)); exact BK116.out) hb); have n2_ := Aside0.mk (blk_below (g := gb123) (o := .cells #[.string (rdOf ByteArray.empty t117 0), .string (rdOf ByteArray.empty t117 1), .int .i64 0, .slice none 0 0, .slice none 0 0] 26 (0, 0)) (by (with_reducible repeat (first | refine blk_drewN ?_ _ | refine blk_drew ?_ | refine blk_alloc ?_ _)); refine blk_put (cs := #[.string (rdOf ByteArray.empty t117 0), .string (rdOf ByteArray.empty t117 1), .int .i64 0, .slice none 0 0, .slice none 0 0]) ?_ 4 _ rfl; (with_reducible repeat (first | refine blk_drewN ?_ _ | refine blk_drew ?_ | refine blk_alloc ?_ _)); refine blk_put (cs := #[.string (rdOf ByteArray.empty t117 0), .string (rdOf ByteArray.empty t117 1), .int .i64 0, .slice none 0 0, .slice none 0 0]) ?_ 3 _ rfl; (with_reducible repeat (first | refine blk_drewN ?_ _ | refine blk_drew ?_ | refine blk_alloc ?_ _)); refine blk_put (cs := #[.string (rdOf ByteArray.empty t117 0), .string (rdOf ByteArray.empty t117 1), .int .i64 0, .slice none 0 0, .slice none 0 0]) ?_ 2 _ rfl; (with_reducible repeat (first | refine blk_drewN ?_ _ | refine blk_drew ?_ | refine blk_alloc ?_ _)); refine blk_put (cs := #[.string (rdOf ByteArray.empty t117 0), .string (⟨#[]⟩ : ByteArray), .int .i64 0, .slice none 0 0, .slice none 0 0]) ?_ 1 _ rfl; (with_reducible repeat (first | refine blk_drewN ?_ _ | refine blk_drew ?_ | refine blk_alloc ?_ _)); refine blk_put (cs := #[.string (⟨#[]⟩ : ByteArray), .string (⟨#[]⟩ : ByteArray), .int .i64 0, .slice none 0 0, .slice none 0 0]) ?_ 0 _ rfl; (with_reducible repeat (first | refine blk_drewN ?_ _ | refine blk_drew ?_ | refine blk_alloc ?_ _)); exact BK123.out) hb); have n3_ := Aside0.mk (below_step (by repeat (first | (with_reducible first | exact HB.out | apply below_alloc | apply pw_below_drewN | apply below_drew1 | refine below_set ?_ GE116.out | refine below_set ?_ GE123.out) | exact HB.out)) hb); clear HO_4; clear BK116; clear BK123; clear HB; have HO_4 := n0_; have BK116 := n1_; have BK123 := n2_; have HB := n3_; clear n0_ n1_ n2_ n3_; (try clear hb); (try clear hb2); (try clear hk); (try clear hi); have hnb70 := NB123_116.out; have hnc70 := NB116_123.out; have hcz71_0 : w69.cell? ⟨gb123, 0, none⟩ = some (.string (rdOf ByteArray.empty t117 0)) := (blk_cell BK123.out 0).trans rfl; have hcz71_1 : w69.cell? ⟨gb123, 1, none⟩ = some (.string (rdOf ByteArray.empty t117 1)) := (blk_cell BK123.out 1).trans rfl; have hcz71_2 : w69.cell? ⟨gb123, 2, none⟩ = some (.int .i64 0) := (blk_cell BK123.out 2).trans rfl; have hcz71_3 : w69.cell? ⟨gb123, 3, none⟩ = some (.slice none 0 0) := (blk_cell BK123.out 3).trans rfl; have hcz71_4 : w69.cell? ⟨gb123, 4, none⟩ = some (.slice none 0 0) := (blk_cell BK123.out 4).trans rfl; have hfz71_0 := blk_frozen BK123.out 0; have hfz71_1 := blk_frozen BK123.out 1; have hfz71_2 := blk_frozen BK123.out 2; have hfz71_3 := blk_frozen BK123.out 3; have hfz71_4 := blk_frozen BK123.out 4; have p128 : 0 ≤ (3 : Int) := (by omega); have q128 : 3 < (t117.length : Int) := of_decide_eq_true (by first | (with_reducible assumption) | assumption); obtain ⟨ad128, e128, hx128_0⟩ := Kd.at_string (Kd.R_reads' HO_4.out).2.2 3 p128 q128; obtain rfl : ad121 = ad128 := (by injection e128); (try simp only [show (3 : Int).toNat = 3 from rfl, Nat.reduceMul, Nat.reduceEqDiff, Go.Addr.add, ↓reduceIte] at hx128_0); have qi128 : (3 < t117.length) = True := eq_true (by omega); (try rw [show ((3 : Int)).toNat = 3 from rfl] at hx128_0); have hn128_0 : ad121.block ≠ gb123 := Kd.own_blk (Kd.R_ne HO_4.out BK123.out (by decide)); replace hx128_0 := (cell_far (p := ⟨gb123, 2, none⟩) (by first | (rw [add_block]; exact hn128_0) | (show (Addr.add _ _).block ≠ _; rw [add_block]; exact hn128_0) | exact hn128_0) (.int .i64 (wrap64 (ji14)))).trans hx128_0; clear hn128_0; replace p128 := eq_true p128; replace q128 := eq_true q128) | ((with_reducible refine gate_callee (f := 45) rfl ?_); refine goesL_ (some 48) rfl rfl Tryd.func45 (by kernel_rfl) rfl #[.string (rdOf ByteArray.empty t117 3), .int .i64 5, .int .i64 4000] rfl (by (try simp only [List.map_toArray, List.map_cons, List.map_nil]); first | done | rfl | (simp only [List.length_drop, List.length_take]; rfl)) ?_; (with_reducible refine (wire_TakeAll.calls (rdOf ByteArray.empty t117 3) 5 4000 t129 t130 _ A16.out).mono ?_); rintro e w72 ⟨v131, rfl, ho0, hb⟩; refine ⟨_, rfl, ?_⟩; have n0_ := Aside0.mk (Kd.R_elder' (by (with_reducible repeat (first | apply Kd.R_alloc | apply Kd.R_drewN | apply Kd.R_drew)); exact (Kd.R_mono (Kd.R_far (p := ⟨gb123, 2, none⟩) (Kd.R_types HO_4.out BK123.out (by decide)) (fun _ hk => hk.2) (.int .i64 (wrap64 (ji14)))) (fun _ h_ => h_.1))) (Kd.R_base ho0) hb); have n1_ := Aside0.mk (Kd.R_lower (Kd.R_new' ho0 (Kd.R_lt (by (with_reducible repeat (first | apply Kd.R_alloc | apply Kd.R_drewN | apply Kd.R_drew)); exact (Kd.R_mono (Kd.R_far (p := ⟨gb123, 2, none⟩) (Kd.R_types HO_4.out BK123.out (by decide)) (fun _ hk => hk.2) (.int .i64 (wrap64 (ji14)))) (fun _ h_ => h_.1))))) (below_size (by repeat (first | (with_reducible first | exact HB.out | apply below_alloc | apply pw_below_drewN | apply below_drew1 | refine below_set ?_ GE116.out | refine below_set ?_ GE123.out) | exact HB.out)))); have n2_ := Aside0.mk (blk_below (g := gb116) (o := .cells #[.string (⟨#[]⟩ : ByteArray), .string (⟨#[]⟩ : ByteArray), .int .i64 0, .slice none 0 0, .slice none 0 0] 26 (0, 0)) (by (with_reducible repeat (first | refine blk_drewN ?_ _ | refine blk_drew ?_ | refine blk_alloc ?_ _)); refine blk_far ?_ NB116_123.out _; (with_reducible repeat (first | refine blk_drewN ?_ _ | refine blk_drew ?_ | refine blk_alloc ?_ _)); exact BK116.out) hb); have n3_ := Aside0.mk (blk_below (g := gb123) (o := .cells #[.string (rdOf ByteArray.empty t117 0), .string (rdOf ByteArray.empty t117 1), .int .i64 (wrap64 (ji14)), .slice none 0 0, .slice none 0 0] 26 (0, 0)) (by (with_reducible repeat (first | refine blk_drewN ?_ _ | refine blk_drew ?_ | refine blk_alloc ?_ _)); refine blk_put (cs := #[.string (rdOf ByteArray.empty t117 0), .string (rdOf ByteArray.empty t117 1), .int .i64 0, .slice none 0 0, .slice none 0 0]) ?_ 2 _ rfl; (with_reducible repeat (first | refine blk_drewN ?_ _ | refine blk_drew ?_ | refine blk_alloc ?_ _)); exact BK123.out) hb); have n4_ := Aside0.mk (below_step (by repeat (first | (with_reducible first | exact HB.out | apply below_alloc | apply pw_below_drewN | apply below_drew1 | refine below_set ?_ GE116.out | refine below_set ?_ GE123.out) | exact HB.out)) hb); clear HO_4; clear BK116; clear BK123; clear HB; have HO_4 := n0_; have HO132 := n1_; have BK116 := n2_; have BK123 := n3_; have HB := n4_; clear n0_ n1_ n2_ n3_ n4_; (try clear hb); (try clear hb2); (try clear hk); (try clear hi); (try clear ho0); obtain ⟨Ao73, co73, eo73⟩ := Kd.R_slice HO132.out; subst eo73; have hcz74_0 : w72.cell? ⟨gb123, 0, none⟩ = some (.string (rdOf ByteArray.empty t117 0)) := (blk_cell BK123.out 0).trans rfl; have hcz74_1 : w72.cell? ⟨gb123, 1, none⟩ = some (.string (rdOf ByteArray.empty t117 1)) := (blk_cell BK123.out 1).trans rfl; have hcz74_2 : w72.cell? ⟨gb123, 2, none⟩ = some (.int .i64 (wrap64 (ji14))) := (blk_cell BK123.out 2).trans rfl; have hcz74_3 : w72.cell? ⟨gb123, 3, none⟩ = some (.slice none 0 0) := (blk_cell BK123.out 3).trans rfl; have hcz74_4 : w72.cell? ⟨gb123, 4, none⟩ = some (.slice none 0 0) := (blk_cell BK123.out 4).trans rfl; have hfz74_0 := blk_frozen BK123.out 0; have hfz74_1 := blk_frozen BK123.out 1; have hfz74_2 := blk_frozen BK123.out 2; have hfz74_3 := blk_frozen BK123.out 3; have hfz74_4 := blk_frozen BK123.out 4; have p133 : 0 ≤ (4 : Int) := (by omega); have q133 : 4 < (t117.length : Int) := of_decide_eq_true (by first | (with_reducible assumption) | assumption); obtain ⟨ad133, e133, hx133_0⟩ := Kd.at_string (Kd.R_reads' HO_4.out).2.2 4 p133 q133; obtain rfl : ad121 = ad133 := (by injection e133); (try simp only [show (4 : Int).toNat = 4 from rfl, Nat.reduceMul, Nat.reduceEqDiff, Go.Addr.add, ↓reduceIte] at hx133_0); have qi133 : (4 < t117.length) = True := eq_true (by omega); (try rw [show ((4 : Int)).toNat = 4 from rfl] at hx133_0); have hn133_0 : ad121.block ≠ gb123 := Kd.own_blk (Kd.R_ne HO_4.out BK123.out (by decide)); replace hx133_0 := (cell_far (p := ⟨gb123, 3, none⟩) (by first | (rw [add_block]; exact hn133_0) | (show (Addr.add _ _).block ≠ _; rw [add_block]; exact hn133_0) | exact hn133_0) (.slice Ao73 t129.length co73)).trans hx133_0; clear hn133_0; replace p133 := eq_true p133; replace q133 := eq_true q133) | ((with_reducible refine gate_callee (f := 45) rfl ?_); refine goesL_ (some 56) rfl rfl Tryd.func45 (by kernel_rfl) rfl #[.string (rdOf ByteArray.empty t117 4), .int .i64 5, .int .i64 4000] rfl (by (try simp only [List.map_toArray, List.map_cons, List.map_nil]); first | done | rfl | (simp only [List.length_drop, List.length_take]; rfl)) ?_; (with_reducible refine (wire_TakeAll.calls (rdOf ByteArray.empty t117 4) 5 4000 t134 t135 _ A18.out).mono ?_); rintro e w75 ⟨v136, rfl, ho0, hb⟩; refine ⟨_, rfl, ?_⟩; have n0_ := Aside0.mk (Kd.R_elder' (by (with_reducible repeat (first | apply Kd.R_alloc | apply Kd.R_drewN | apply Kd.R_drew)); exact (Kd.R_mono (Kd.R_far (p := ⟨gb123, 3, none⟩) (Kd.R_types HO_4.out BK123.out (by decide)) (fun _ hk => hk.2) (.slice Ao73 t129.length co73)) (fun _ h_ => h_.1))) (Kd.R_base ho0) hb); have n1_ := Aside0.mk (Kd.R_elder' (by (with_reducible repeat (first | apply Kd.R_alloc | apply Kd.R_drewN | apply Kd.R_drew)); exact (Kd.R_mono (Kd.R_far (p := ⟨gb123, 3, none⟩) (Kd.R_types HO132.out BK123.out (by decide)) (fun _ hk => hk.2) (.slice Ao73 t129.length co73)) (fun _ h_ => h_.1))) (Kd.R_base ho0) hb); have n2_ := Aside0.mk (Kd.R_lower (Kd.R_new' (Kd.R_new' ho0 (Kd.R_lt (by (with_reducible repeat (first | apply Kd.R_alloc | apply Kd.R_drewN | apply Kd.R_drew)); exact (Kd.R_mono (Kd.R_far (p := ⟨gb123, 3, none⟩) (Kd.R_types HO_4.out BK123.out (by decide)) (fun _ hk => hk.2) (.slice Ao73 t129.length co73)) (fun _ h_ => h_.1))))) (Kd.R_lt (by (with_reducible repeat (first | apply Kd.R_alloc | apply Kd.R_drewN | apply Kd.R_drew)); exact (Kd.R_mono (Kd.R_far (p := ⟨gb123, 3, none⟩) (Kd.R_types HO132.out BK123.out (by decide)) (fun _ hk => hk.2) (.slice Ao73 t129.length co73)) (fun _ h_ => h_.1))))) (below_size (by repeat (first | (with_reducible first | exact HB.out | apply below_alloc | apply pw_below_drewN | apply below_drew1 | refine below_set ?_ GE116.out | refine below_set ?_ GE123.out) | exact HB.out)))); have n3_ := Aside0.mk (blk_below (g := gb116) (o := .cells #[.string (⟨#[]⟩ : ByteArray), .string (⟨#[]⟩ : ByteArray), .int .i64 0, .slice none 0 0, .slice none 0 0] 26 (0, 0)) (by (with_reducible repeat (first | refine blk_drewN ?_ _ | refine blk_drew ?_ | refine blk_alloc ?_ _)); refine blk_far ?_ NB116_123.out _; (with_reducible repeat (first | refine blk_drewN ?_ _ | refine blk_drew ?_ | refine blk_alloc ?_ _)); exact BK116.out) hb); have n4_ := Aside0.mk (blk_below (g := gb123) (o := .cells #[.string (rdOf ByteArray.empty t117 0), .string (rdOf ByteArray.empty t117 1), .int .i64 (wrap64 (ji14)), .slice Ao73 t129.length co73, .slice none 0 0] 26 (0, 0)) (by (with_reducible repeat (first | refine blk_drewN ?_ _ | refine blk_drew ?_ | refine blk_alloc ?_ _)); refine blk_put (cs := #[.string (rdOf ByteArray.empty t117 0), .string (rdOf ByteArray.empty t117 1), .int .i64 (wrap64 (ji14)), .slice none 0 0, .slice none 0 0]) ?_ 3 _ rfl; (with_reducible repeat (first | refine blk_drewN ?_ _ | refine blk_drew ?_ | refine blk_alloc ?_ _)); exact BK123.out) hb); have n5_ := Aside0.mk (below_step (by repeat (first | (with_reducible first | exact HB.out | apply below_alloc | apply pw_below_drewN | apply below_drew1 | refine below_set ?_ GE116.out | refine below_set ?_ GE123.out) | exact HB.out)) hb); clear HO_4; clear HO132; clear BK116; clear BK123; clear HB; have HO_4 := n0_; have HO132 := n1_; have HO137 := n2_; have BK116 := n3_; have BK123 := n4_; have HB := n5_; clear n0_ n1_ n2_ n3_ n4_ n5_; (try clear hb); (try clear hb2); (try clear hk); (try clear hi); (try clear ho0); obtain ⟨Ao76, co76, eo76⟩ := Kd.R_slice HO137.out; subst eo76; have hcz77_0 : w75.cell? ⟨gb123, 0, none⟩ = some (.string (rdOf ByteArray.empty t117 0)) := (blk_cell BK123.out 0).trans rfl; have hcz77_1 : w75.cell? ⟨gb123, 1, none⟩ = some (.string (rdOf ByteArray.empty t117 1)) := (blk_cell BK123.out 1).trans rfl; have hcz77_2 : w75.cell? ⟨gb123, 2, none⟩ = some (.int .i64 (wrap64 (ji14))) := (blk_cell BK123.out 2).trans rfl; have hcz77_3 : w75.cell? ⟨gb123, 3, none⟩ = some (.slice Ao73 t129.length co73) := (blk_cell BK123.out 3).trans rfl; have hcz77_4 : w75.cell? ⟨gb123, 4, none⟩ = some (.slice none 0 0) := (blk_cell BK123.out 4).trans rfl; have hfz77_0 := blk_frozen BK123.out 0; have hfz77_1 := blk_frozen BK123.out 1; have hfz77_2 := blk_frozen BK123.out 2; have hfz77_3 := blk_frozen BK123.out 3; have hfz77_4 := blk_frozen BK123.out 4) | ((with_reducible refine gate_callee (f := 19) rfl ?_); refine goesL_ (some 62) rfl rfl Tryd.func19 (by kernel_rfl) rfl #[.agg #[.string (rdOf ByteArray.empty t117 0), .string (rdOf ByteArray.empty t117 1), .int .i64 (wrap64 (ji14)), .slice Ao73 t129.length co73, .slice Ao76 t134.length co76]] rfl (by (try simp only [List.map_toArray, List.map_cons, List.map_nil]); first | done | (simp only [hji14]; rfl) | rfl | (simp only [List.length_drop, List.length_take]; rfl)) ?_; (with_reducible refine (rights_Put.calls (rdOf ByteArray.empty t117 0) (rdOf ByteArray.empty t117 1) (wrap64 (ji14)) _ _ t129 _ _ t134 t138 t139 _ ?side5 ?side1 ?side2 ?side3 ?side4 A19.out).mono ?_); (case side1 => refine (Kd.R_reads' (e := 9) (base := w.heap.size) (ok := fun k_ => ((True ∧ some k_ ≠ (.slice (some ad121) t117.length co62 : Value).ownBlock) ∧ some k_ ≠ (.slice Ao76 t134.length co76 : Value).ownBlock)) (n := t129.length) (c := co73) ?_).2.2; exact (by (with_reducible repeat (first | apply Kd.R_alloc | apply Kd.R_drewN | apply Kd.R_drew)); exact (Kd.R_mono (Kd.R_far (p := ⟨gb123, 4, none⟩) (Kd.R_types HO132.out BK123.out (by decide)) (fun _ hk => hk.2) (.slice Ao76 t134.length co76)) (fun _ h_ => h_.1)))); (case side2 => exact (Kd.R_reads' HO132.out).2.1); (case side3 => refine (Kd.R_reads' (e := 9) (base := w.heap.size) (ok := fun k_ => ((True ∧ some k_ ≠ (.slice (some ad121) t117.length co62 : Value).ownBlock) ∧ some k_ ≠ (.slice Ao73 t129.length co73 : Value).ownBlock)) (n := t134.length) (c := co76) ?_).2.2; exact (by (with_reducible repeat (first | apply Kd.R_alloc | apply Kd.R_drewN | apply Kd.R_drew)); exact (Kd.R_mono (Kd.R_far (p := ⟨gb123, 4, none⟩) (Kd.R_types HO137.out BK123.out (by decide)) (fun _ hk => hk.2) (.slice Ao76 t134.length co76)) (fun _ h_ => h_.1)))); (case side4 => exact (Kd.R_reads' HO137.out).2.1); (case side5 => exact ⟨Tabs.below HTB.out (by repeat (first | (with_reducible first | exact HB.out | apply below_alloc | apply pw_below_drewN | apply below_drew1 | refine below_set ?_ GE116.out | refine below_set ?_ GE123.out) | exact HB.out))⟩); rintro e w78 ⟨rfl, hb⟩; refine ⟨_, rfl, ?_⟩; have n0_ := Aside0.mk (Kd.R_below (by (with_reducible repeat (first | apply Kd.R_alloc | apply Kd.R_drewN | apply Kd.R_drew)); exact (Kd.R_mono (Kd.R_far (p := ⟨gb123, 4, none⟩) (Kd.R_types HO_4.out BK123.out (by decide)) (fun _ hk => hk.2) (.slice Ao76 t134.length co76)) (fun _ h_ => h_.1))) hb); have n1_ := Aside0.mk (Kd.R_below (by (with_reducible repeat (first | apply Kd.R_alloc | apply Kd.R_drewN | apply Kd.R_drew)); exact (Kd.R_mono (Kd.R_far (p := ⟨gb123, 4, none⟩) (Kd.R_types HO132.out BK123.out (by decide)) (fun _ hk => hk.2) (.slice Ao76 t134.length co76)) (fun _ h_ => h_.1))) hb); have n2_ := Aside0.mk (Kd.R_below (by (with_reducible repeat (first | apply Kd.R_alloc | apply Kd.R_drewN | apply Kd.R_drew)); exact (Kd.R_mono (Kd.R_far (p := ⟨gb123, 4, none⟩) (Kd.R_types HO137.out BK123.out (by decide)) (fun _ hk => hk.2) (.slice Ao76 t134.length co76)) (fun _ h_ => h_.1))) hb); have n3_ := Aside0.mk (blk_below (g := gb116) (o := .cells #[.string (⟨#[]⟩ : ByteArray), .string (⟨#[]⟩ : ByteArray), .int .i64 0, .slice none 0 0, .slice none 0 0] 26 (0, 0)) (by (with_reducible repeat (first | refine blk_drewN ?_ _ | refine blk_drew ?_ | refine blk_alloc ?_ _)); refine blk_far ?_ NB116_123.out _; (with_reducible repeat (first | refine blk_drewN ?_ _ | refine blk_drew ?_ | refine blk_alloc ?_ _)); exact BK116.out) hb); have n4_ := Aside0.mk (blk_below (g := gb123) (o := .cells #[.string (rdOf ByteArray.empty t117 0), .string (rdOf ByteArray.empty t117 1), .int .i64 (wrap64 (ji14)), .slice Ao73 t129.length co73, .slice Ao76 t134.length co76] 26 (0, 0)) (by (with_reducible repeat (first | refine blk_drewN ?_ _ | refine blk_drew ?_ | refine blk_alloc ?_ _)); refine blk_put (cs := #[.string (rdOf ByteArray.empty t117 0), .string (rdOf ByteArray.empty t117 1), .int .i64 (wrap64 (ji14)), .slice Ao73 t129.length co73, .slice none 0 0]) ?_ 4 _ rfl; (with_reducible repeat (first | refine blk_drewN ?_ _ | refine blk_drew ?_ | refine blk_alloc ?_ _)); exact BK123.out) hb); have n5_ := Aside0.mk (below_step (by repeat (first | (with_reducible first | exact HB.out | apply below_alloc | apply pw_below_drewN | apply below_drew1 | refine below_set ?_ GE116.out | refine below_set ?_ GE123.out) | exact HB.out)) hb); clear HO_4; clear HO132; clear HO137; clear BK116; clear BK123; clear HB; have HO_4 := n0_; have HO132 := n1_; have HO137 := n2_; have BK116 := n3_; have BK123 := n4_; have HB := n5_; clear n0_ n1_ n2_ n3_ n4_ n5_; (try clear hb); (try clear hb2); (try clear hk); (try clear hi); have hcz79_0 : w78.cell? ⟨gb116, 0, none⟩ = some (.string (⟨#[]⟩ : ByteArray)) := (blk_cell BK116.out 0).trans rfl; have hcz79_1 : w78.cell? ⟨gb116, 1, none⟩ = some (.string (⟨#[]⟩ : ByteArray)) := (blk_cell BK116.out 1).trans rfl; have hcz79_2 : w78.cell? ⟨gb116, 2, none⟩ = some (.int .i64 0) := (blk_cell BK116.out 2).trans rfl; have hcz79_3 : w78.cell? ⟨gb116, 3, none⟩ = some (.slice none 0 0) := (blk_cell BK116.out 3).trans rfl; have hcz79_4 : w78.cell? ⟨gb116, 4, none⟩ = some (.slice none 0 0) := (blk_cell BK116.out 4).trans rfl; have hfz79_0 := blk_frozen BK116.out 0; have hfz79_1 := blk_frozen BK116.out 1; have hfz79_2 := blk_frozen BK116.out 2; have hfz79_3 := blk_frozen BK116.out 3; have hfz79_4 := blk_frozen BK116.out 4))
          refine bodyPost_ret (results_ct rfl _ _ gb116 26 #[.string (⟨#[]⟩ : ByteArray), .string (⟨#[]⟩ : ByteArray), .int .i64 0, .slice none 0 0, .slice none 0 0] (0, 0) _ rfl (by (with_reducible repeat (first | refine blk_drewN ?_ _ | refine blk_drew ?_ | refine blk_alloc ?_ _)); refine blk_put (cs := #[.string (⟨#[]⟩ : ByteArray), .string (⟨#[]⟩ : ByteArray), .int .i64 0, .slice none 0 0, .slice none 0 0]) ?_ 4 _ rfl; (with_reducible repeat (first | refine blk_drewN ?_ _ | refine blk_drew ?_ | refine blk_alloc ?_ _)); refine blk_put (cs := #[.string (⟨#[]⟩ : ByteArray), .string (⟨#[]⟩ : ByteArray), .int .i64 0, .slice none 0 0, .slice none 0 0]) ?_ 3 _ rfl; (with_reducible repeat (first | refine blk_drewN ?_ _ | refine blk_drew ?_ | refine blk_alloc ?_ _)); refine blk_put (cs := #[.string (⟨#[]⟩ : ByteArray), .string (⟨#[]⟩ : ByteArray), .int .i64 0, .slice none 0 0, .slice none 0 0]) ?_ 2 _ rfl; (with_reducible repeat (first | refine blk_drewN ?_ _ | refine blk_drew ?_ | refine blk_alloc ?_ _)); refine blk_put (cs := #[.string (⟨#[]⟩ : ByteArray), .string (⟨#[]⟩ : ByteArray), .int .i64 0, .slice none 0 0, .slice none 0 0]) ?_ 1 _ rfl; (with_reducible repeat (first | refine blk_drewN ?_ _ | refine blk_drew ?_ | refine blk_alloc ?_ _)); refine blk_put (cs := #[.string (⟨#[]⟩ : ByteArray), .string (⟨#[]⟩ : ByteArray), .int .i64 0, .slice none 0 0, .slice none 0 0]) ?_ 0 _ rfl; (with_reducible repeat (first | refine blk_drewN ?_ _ | refine blk_drew ?_ | refine blk_alloc ?_ _)); exact BK116.out) Tryd.underlying26 rfl (by kernel_rfl)) rfl ?_
          exact ⟨_, _, by first | rfl | (simp [errW_none, errW_some] <;> rfl) | (simp only [← hji14]; first | rfl | (simp [errW_none, errW_some] <;> rfl)) | (simp [*, errW_none, errW_some] <;> rfl), by first | exact Kd.R_nil _ _ _ _ _ | exact Kd.N_nil _ _ _ _ _ | exact Kd.V_nil _ _ _ _ _ | exact Kd.Q_nil _ _ _ _ _ | exact Kd.S_nil _ _ _ _ _, by first | exact Kd.R_nil _ _ _ _ _ | exact Kd.N_nil _ _ _ _ _ | exact Kd.V_nil _ _ _ _ _ | exact Kd.Q_nil _ _ _ _ _ | exact Kd.S_nil _ _ _ _ _, by repeat (first | (with_reducible first | exact HB.out | apply below_alloc | apply pw_below_drewN | apply below_drew1 | refine below_set ?_ GE116.out | refine below_set ?_ GE123.out) | exact HB.out)⟩
        ·rw [if_neg c17] at H
         exact absurd H (by simp)
       ·rw [if_neg c15] at H
        exact absurd H (by simp)
      ·rw [if_neg c12] at H
       exact absurd H (by simp)
     ·rw [if_neg c11] at H
      exact absurd H (by simp)
    ·rw [if_neg c10] at H
     exact absurd H (by simp)
end Go.Proofs.YtfhanoloaejmkaaDoor.PC
end
