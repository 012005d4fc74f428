/- Contracts and laws that the statement of LawRightsTell leans on (packed from this claim's own texts): part 9. -/
import Derived.LoopTactic
import Derived.RegionTactic
import Derived.Deep.RegionHeld3
import Derived.Deep.RegionWith
import Derived.Outline
import Derived.Deep.Grids
import Derived.ChangeArms
import Derived.ChangeSame
import Derived.Test.YtfhanoloaejmkaaDoorQT3
import Derived.Test.YtfhanoloaejmkaaDoorQT6
import Derived.Test.YtfhanoloaejmkaaDoorQT7
import Derived.Test.YtfhanoloaejmkaaDoorQT8
section

namespace Go.Proofs.YtfhanoloaejmkaaDoor.PB
open Go.RowKit Go.Proofs.YtfhanoloaejmkaaDoorW.PrintWords Go.Proofs.YtfhanoloaejmkaaDoorW.PrintLast Go.Proofs.YtfhanoloaejmkaaDoorW.PrintMore
attribute [local go_sem] max2_int min2_int max_two min_two max_three min_three max_four min_four   -- for this text's walks alone
set_option linter.unusedVariables false
set_option linter.unusedSimpArgs false
def rights_asked.f (k : Nat) (a0_0 : ByteArray) (a0_1 : ByteArray) (a0_2 : Int) (l0_3 : List ByteArray) (l0_4 : List ByteArray) (a1 : ByteArray) : Option (Int) := (rights_Right.f k a0_0 a0_1 a0_2 l0_3 l0_4).bind fun t121 => (if t121 = true then ((name_Right.f a1).bind fun t122 => (if t122 = true then (some 0) else (some 3))) else (some 1))
set_option maxHeartbeats 8000000 in
set_option maxRecDepth 100000 in
theorem rights_asked.calls (k : Nat) (a0_0 : ByteArray) (a0_1 : ByteArray) (a0_2 : Int) (A0_3 : Option Addr) (c0_3 : Nat) (l0_3 : List ByteArray) (A0_4 : Option Addr) (c0_4 : Nat) (l0_4 : List ByteArray) (a1 : ByteArray) (r : Int) (w : World) (HTB : Aside0 (Tabs w)) (hr0_3 : Kd.C Kd.string w A0_3 l0_3.length l0_3) (hc0_3 : l0_3.length ≤ c0_3) (hr0_4 : Kd.C Kd.string w A0_4 l0_4.length l0_4) (hc0_4 : l0_4.length ≤ c0_4) (h : rights_asked.f k a0_0 a0_1 a0_2 l0_3 l0_4 a1 = some r) :
  Calls Tryd.prog 31 #[.agg #[.string a0_0, .string a0_1, .int .i64 a0_2, .slice A0_3 l0_3.length c0_3, .slice A0_4 l0_4.length c0_4], .string a1] w fun e w' => e = .returned (.int .i64 r) ∧ Below w.heap.size w w' := by
 have hu26 := Tryd.underlying26
 have HR0_3 := Aside0.mk hr0_3
 have HC0_3 := Aside0.mk hc0_3
 clear hr0_3 hc0_3
 have HR0_4 := Aside0.mk hr0_4
 have HC0_4 := Aside0.mk hc0_4
 clear hr0_4 hc0_4
 have HB := Aside0.mk (Below.refl w.heap.size w)
 have H : ((rights_Right.f k a0_0 a0_1 a0_2 l0_3 l0_4).bind fun t121 => (if t121 = true then ((name_Right.f a1).bind fun t122 => (if t122 = true then (some 0) else (some 3))) else (some 1))) = some r := h
 clear h
 replace H := Option.bind_eq_some_iff.mp H
 obtain ⟨t121, A30, H⟩ := H
 replace H : (if t121 = true then ((name_Right.f a1).bind fun t122 => (if t122 = true then (some 0) else (some 3))) else (some 1)) = some r := H
 have A3 := Aside0.mk A30
 clear A30
 by_cases c4 : t121 = true
 ·subst c4
  have H1 : ((name_Right.f a1).bind fun t122 => (if t122 = true then (some 0) else (some 3))) = some r := by rw [if_pos rfl] at H; exact H
  clear H
  have H := H1
  clear H1
  replace H := Option.bind_eq_some_iff.mp H
  obtain ⟨t122, A50, H⟩ := H
  replace H : (if t122 = true then (some 0) else (some 3)) = some r := H
  have A5 := Aside0.mk A50
  clear A50
  by_cases c6 : t122 = true
  ·subst c6
   have H1 : (some 0) = some r := by rw [if_pos rfl] at H; exact H
   clear H
   have H := H1
   clear H1
   obtain rfl := Option.some.inj H
   go_enter Tryd.func31, Tryd.ntmps31
   go_wp2_with (first | ((with_reducible refine gate_dst (N := 2) rfl ?_); refine box_event ?hg (N := 2) ?hd (cs := #[.string a0_0, .string a0_1, .int .i64 a0_2, .slice A0_3 l0_3.length c0_3, .slice A0_4 l0_4.length c0_4]) (t := 26) ?hr ?_; (case hd => rfl); (case hg => rfl); (case hr => first | (go_simp; done) | (go_simp; rfl)); intro gb120 hg w7 hbox hb; have n0_ := Aside0.mk (below_step (by repeat (first | (with_reducible first | exact HB.out | apply below_alloc | apply pw_below_drewN | apply below_drew1) | exact HB.out)) hb); have n1_ := Aside0.mk (hbox); have n2_ := Aside0.mk ((by rw [hg]; exact (below_size (by repeat (first | (with_reducible first | exact HB.out | apply below_alloc | apply pw_below_drewN | apply below_drew1) | exact HB.out))) : w.heap.size ≤ gb120)); have n3_ := Aside0.mk ((by rw [hg]; exact (below_size (by repeat (first | (with_reducible first | exact HB.out | apply below_alloc | apply pw_below_drewN | apply below_drew1) | exact HB.out))) : w.heap.size ≤ gb120)); clear HB; have HB := n0_; have BK120 := n1_; have GW120 := n2_; have GE120 := n3_; clear n0_ n1_ n2_ n3_; clear hb hbox hg; have hcz8_0 : w7.cell? ⟨gb120, 0, none⟩ = some (.string a0_0) := (blk_cell BK120.out 0).trans rfl; have hcz8_1 : w7.cell? ⟨gb120, 1, none⟩ = some (.string a0_1) := (blk_cell BK120.out 1).trans rfl; have hcz8_2 : w7.cell? ⟨gb120, 2, none⟩ = some (.int .i64 a0_2) := (blk_cell BK120.out 2).trans rfl; have hcz8_3 : w7.cell? ⟨gb120, 3, none⟩ = some (.slice A0_3 l0_3.length c0_3) := (blk_cell BK120.out 3).trans rfl; have hcz8_4 : w7.cell? ⟨gb120, 4, none⟩ = some (.slice A0_4 l0_4.length c0_4) := (blk_cell BK120.out 4).trans rfl; have hfz8_0 := blk_frozen BK120.out 0; have hfz8_1 := blk_frozen BK120.out 1; have hfz8_2 := blk_frozen BK120.out 2; have hfz8_3 := blk_frozen BK120.out 3; have hfz8_4 := blk_frozen BK120.out 4) | ((with_reducible refine gate_callee (f := 17) rfl ?_); refine goesL_ (some 7) rfl rfl Tryd.func17 (by kernel_rfl) rfl #[.agg #[.string a0_0, .string a0_1, .int .i64 a0_2, .slice A0_3 l0_3.length c0_3, .slice A0_4 l0_4.length c0_4]] rfl (by (try simp only [List.map_toArray, List.map_cons, List.map_nil]); first | done | rfl | (simp only [List.length_drop, List.length_take]; rfl)) ?_; (with_reducible refine (rights_Right.calls k a0_0 a0_1 a0_2 (fun k_ => k_ < w.heap.size) _ _ l0_3 (fun k_ => k_ < w.heap.size) _ _ l0_4 true _ ?side3 ?side1 ?side2 A3.out).mono ?_); (case side1 => exact Kd.V_mk HC0_3.out (Kd.F_below (Kd.C_F Kd.heap_string HR0_3.out) (by repeat (first | (with_reducible first | exact HB.out | apply below_alloc | apply pw_below_drewN | apply below_drew1 | refine below_set ?_ GE120.out) | exact HB.out)))); (case side2 => exact Kd.V_mk HC0_4.out (Kd.F_below (Kd.C_F Kd.heap_string HR0_4.out) (by repeat (first | (with_reducible first | exact HB.out | apply below_alloc | apply pw_below_drewN | apply below_drew1 | refine below_set ?_ GE120.out) | exact HB.out)))); (case side3 => exact ⟨Tabs.below HTB.out (by repeat (first | (with_reducible first | exact HB.out | apply below_alloc | apply pw_below_drewN | apply below_drew1 | refine below_set ?_ GE120.out) | exact HB.out))⟩); rintro e w9 ⟨rfl, hb⟩; refine ⟨_, rfl, ?_⟩; have n0_ := Aside0.mk (blk_below (g := gb120) (o := .cells #[.string a0_0, .string a0_1, .int .i64 a0_2, .slice A0_3 l0_3.length c0_3, .slice A0_4 l0_4.length c0_4] 26 (0, 0)) (by (with_reducible repeat (first | refine blk_drewN ?_ _ | refine blk_drew ?_ | refine blk_alloc ?_ _)); exact BK120.out) hb); have n1_ := Aside0.mk (below_step (by repeat (first | (with_reducible first | exact HB.out | apply below_alloc | apply pw_below_drewN | apply below_drew1 | refine below_set ?_ GE120.out) | exact HB.out)) hb); clear BK120; clear HB; have BK120 := n0_; have HB := n1_; clear n0_ n1_; (try clear hb); (try clear hb2); (try clear hk); (try clear hi)) | ((with_reducible refine gate_callee (f := 21) rfl ?_); refine goesL_ (some 11) rfl rfl Tryd.func21 (by kernel_rfl) rfl #[.string a1] rfl (by (try simp only [List.map_toArray, List.map_cons, List.map_nil]); first | done | rfl | (simp only [List.length_drop, List.length_take]; rfl)) ?_; (with_reducible refine (name_Right.calls a1 true _ ?side1 A5.out).mono ?_); (case side1 => exact ⟨Tabs.below HTB.out (by repeat (first | (with_reducible first | exact HB.out | apply below_alloc | apply pw_below_drewN | apply below_drew1 | refine below_set ?_ GE120.out) | exact HB.out))⟩); rintro e w10 ⟨rfl, hb⟩; refine ⟨_, rfl, ?_⟩; have n0_ := Aside0.mk (blk_below (g := gb120) (o := .cells #[.string a0_0, .string a0_1, .int .i64 a0_2, .slice A0_3 l0_3.length c0_3, .slice A0_4 l0_4.length c0_4] 26 (0, 0)) (by (with_reducible repeat (first | refine blk_drewN ?_ _ | refine blk_drew ?_ | refine blk_alloc ?_ _)); exact BK120.out) hb); have n1_ := Aside0.mk (below_step (by repeat (first | (with_reducible first | exact HB.out | apply below_alloc | apply pw_below_drewN | apply below_drew1 | refine below_set ?_ GE120.out) | exact HB.out)) hb); clear BK120; clear HB; have BK120 := n0_; have HB := n1_; clear n0_ n1_; (try clear hb); (try clear hb2); (try clear hk); (try clear hi)))
   go_ret
   exact ⟨by first | rfl | (simp [errW_none, errW_some] <;> rfl) | (simp [*, errW_none, errW_some] <;> rfl), by repeat (first | (with_reducible first | exact HB.out | apply below_alloc | apply pw_below_drewN | apply below_drew1 | refine below_set ?_ GE120.out) | exact HB.out)⟩
  ·replace c6 := Bool.eq_false_iff.mpr c6
   subst c6
   have H1 : (some 3) = some r := by rw [if_neg (show ¬ (false = true) by decide)] at H; exact H
   clear H
   have H := H1
   clear H1
   obtain rfl := Option.some.inj H
   go_enter Tryd.func31, Tryd.ntmps31
   go_wp2_with (first | ((with_reducible refine gate_dst (N := 2) rfl ?_); refine box_event ?hg (N := 2) ?hd (cs := #[.string a0_0, .string a0_1, .int .i64 a0_2, .slice A0_3 l0_3.length c0_3, .slice A0_4 l0_4.length c0_4]) (t := 26) ?hr ?_; (case hd => rfl); (case hg => rfl); (case hr => first | (go_simp; done) | (go_simp; rfl)); intro gb120 hg w11 hbox hb; have n0_ := Aside0.mk (below_step (by repeat (first | (with_reducible first | exact HB.out | apply below_alloc | apply pw_below_drewN | apply below_drew1) | exact HB.out)) hb); have n1_ := Aside0.mk (hbox); have n2_ := Aside0.mk ((by rw [hg]; exact (below_size (by repeat (first | (with_reducible first | exact HB.out | apply below_alloc | apply pw_below_drewN | apply below_drew1) | exact HB.out))) : w.heap.size ≤ gb120)); have n3_ := Aside0.mk ((by rw [hg]; exact (below_size (by repeat (first | (with_reducible first | exact HB.out | apply below_alloc | apply pw_below_drewN | apply below_drew1) | exact HB.out))) : w.heap.size ≤ gb120)); clear HB; have HB := n0_; have BK120 := n1_; have GW120 := n2_; have GE120 := n3_; clear n0_ n1_ n2_ n3_; clear hb hbox hg; have hcz12_0 : w11.cell? ⟨gb120, 0, none⟩ = some (.string a0_0) := (blk_cell BK120.out 0).trans rfl; have hcz12_1 : w11.cell? ⟨gb120, 1, none⟩ = some (.string a0_1) := (blk_cell BK120.out 1).trans rfl; have hcz12_2 : w11.cell? ⟨gb120, 2, none⟩ = some (.int .i64 a0_2) := (blk_cell BK120.out 2).trans rfl; have hcz12_3 : w11.cell? ⟨gb120, 3, none⟩ = some (.slice A0_3 l0_3.length c0_3) := (blk_cell BK120.out 3).trans rfl; have hcz12_4 : w11.cell? ⟨gb120, 4, none⟩ = some (.slice A0_4 l0_4.length c0_4) := (blk_cell BK120.out 4).trans rfl; have hfz12_0 := blk_frozen BK120.out 0; have hfz12_1 := blk_frozen BK120.out 1; have hfz12_2 := blk_frozen BK120.out 2; have hfz12_3 := blk_frozen BK120.out 3; have hfz12_4 := blk_frozen BK120.out 4) | ((with_reducible refine gate_callee (f := 17) rfl ?_); refine goesL_ (some 7) rfl rfl Tryd.func17 (by kernel_rfl) rfl #[.agg #[.string a0_0, .string a0_1, .int .i64 a0_2, .slice A0_3 l0_3.length c0_3, .slice A0_4 l0_4.length c0_4]] rfl (by (try simp only [List.map_toArray, List.map_cons, List.map_nil]); first | done | rfl | (simp only [List.length_drop, List.length_take]; rfl)) ?_; (with_reducible refine (rights_Right.calls k a0_0 a0_1 a0_2 (fun k_ => k_ < w.heap.size) _ _ l0_3 (fun k_ => k_ < w.heap.size) _ _ l0_4 true _ ?side3 ?side1 ?side2 A3.out).mono ?_); (case side1 => exact Kd.V_mk HC0_3.out (Kd.F_below (Kd.C_F Kd.heap_string HR0_3.out) (by repeat (first | (with_reducible first | exact HB.out | apply below_alloc | apply pw_below_drewN | apply below_drew1 | refine below_set ?_ GE120.out) | exact HB.out)))); (case side2 => exact Kd.V_mk HC0_4.out (Kd.F_below (Kd.C_F Kd.heap_string HR0_4.out) (by repeat (first | (with_reducible first | exact HB.out | apply below_alloc | apply pw_below_drewN | apply below_drew1 | refine below_set ?_ GE120.out) | exact HB.out)))); (case side3 => exact ⟨Tabs.below HTB.out (by repeat (first | (with_reducible first | exact HB.out | apply below_alloc | apply pw_below_drewN | apply below_drew1 | refine below_set ?_ GE120.out) | exact HB.out))⟩); rintro e w13 ⟨rfl, hb⟩; refine ⟨_, rfl, ?_⟩; have n0_ := Aside0.mk (blk_below (g := gb120) (o := .cells #[.string a0_0, .string a0_1, .int .i64 a0_2, .slice A0_3 l0_3.length c0_3, .slice A0_4 l0_4.length c0_4] 26 (0, 0)) (by (with_reducible repeat (first | refine blk_drewN ?_ _ | refine blk_drew ?_ | refine blk_alloc ?_ _)); exact BK120.out) hb); have n1_ := Aside0.mk (below_step (by repeat (first | (with_reducible first | exact HB.out | apply below_alloc | apply pw_below_drewN | apply below_drew1 | refine below_set ?_ GE120.out) | exact HB.out)) hb); clear BK120; clear HB; have BK120 := n0_; have HB := n1_; clear n0_ n1_; (try clear hb); (try clear hb2); (try clear hk); (try clear hi)) | ((with_reducible refine gate_callee (f := 21) rfl ?_); refine goesL_ (some 11) rfl rfl Tryd.func21 (by kernel_rfl) rfl #[.string a1] rfl (by (try simp only [List.map_toArray, List.map_cons, List.map_nil]); first | done | rfl | (simp only [List.length_drop, List.length_take]; rfl)) ?_; (with_reducible refine (name_Right.calls a1 false _ ?side1 A5.out).mono ?_); (case side1 => exact ⟨Tabs.below HTB.out (by repeat (first | (with_reducible first | exact HB.out | apply below_alloc | apply pw_below_drewN | apply below_drew1 | refine below_set ?_ GE120.out) | exact HB.out))⟩); rintro e w14 ⟨rfl, hb⟩; refine ⟨_, rfl, ?_⟩; have n0_ := Aside0.mk (blk_below (g := gb120) (o := .cells #[.string a0_0, .string a0_1, .int .i64 a0_2, .slice A0_3 l0_3.length c0_3, .slice A0_4 l0_4.length c0_4] 26 (0, 0)) (by (with_reducible repeat (first | refine blk_drewN ?_ _ | refine blk_drew ?_ | refine blk_alloc ?_ _)); exact BK120.out) hb); have n1_ := Aside0.mk (below_step (by repeat (first | (with_reducible first | exact HB.out | apply below_alloc | apply pw_below_drewN | apply below_drew1 | refine below_set ?_ GE120.out) | exact HB.out)) hb); clear BK120; clear HB; have BK120 := n0_; have HB := n1_; clear n0_ n1_; (try clear hb); (try clear hb2); (try clear hk); (try clear hi)))
   go_ret
   exact ⟨by first | rfl | (simp [errW_none, errW_some] <;> rfl) | (simp [*, errW_none, errW_some] <;> rfl), by repeat (first | (with_reducible first | exact HB.out | apply below_alloc | apply pw_below_drewN | apply below_drew1 | refine below_set ?_ GE120.out) | exact HB.out)⟩
 ·replace c4 := Bool.eq_false_iff.mpr c4
  subst c4
  have H1 : (some 1) = some r := by rw [if_neg (show ¬ (false = true) by decide)] at H; exact H
  clear H
  have H := H1
  clear H1
  obtain rfl := Option.some.inj H
  go_enter Tryd.func31, Tryd.ntmps31
  go_wp2_with (first | ((with_reducible refine gate_dst (N := 2) rfl ?_); refine box_event ?hg (N := 2) ?hd (cs := #[.string a0_0, .string a0_1, .int .i64 a0_2, .slice A0_3 l0_3.length c0_3, .slice A0_4 l0_4.length c0_4]) (t := 26) ?hr ?_; (case hd => rfl); (case hg => rfl); (case hr => first | (go_simp; done) | (go_simp; rfl)); intro gb120 hg w15 hbox hb; have n0_ := Aside0.mk (below_step (by repeat (first | (with_reducible first | exact HB.out | apply below_alloc | apply pw_below_drewN | apply below_drew1) | exact HB.out)) hb); have n1_ := Aside0.mk (hbox); have n2_ := Aside0.mk ((by rw [hg]; exact (below_size (by repeat (first | (with_reducible first | exact HB.out | apply below_alloc | apply pw_below_drewN | apply below_drew1) | exact HB.out))) : w.heap.size ≤ gb120)); have n3_ := Aside0.mk ((by rw [hg]; exact (below_size (by repeat (first | (with_reducible first | exact HB.out | apply below_alloc | apply pw_below_drewN | apply below_drew1) | exact HB.out))) : w.heap.size ≤ gb120)); clear HB; have HB := n0_; have BK120 := n1_; have GW120 := n2_; have GE120 := n3_; clear n0_ n1_ n2_ n3_; clear hb hbox hg; have hcz16_0 : w15.cell? ⟨gb120, 0, none⟩ = some (.string a0_0) := (blk_cell BK120.out 0).trans rfl; have hcz16_1 : w15.cell? ⟨gb120, 1, none⟩ = some (.string a0_1) := (blk_cell BK120.out 1).trans rfl; have hcz16_2 : w15.cell? ⟨gb120, 2, none⟩ = some (.int .i64 a0_2) := (blk_cell BK120.out 2).trans rfl; have hcz16_3 : w15.cell? ⟨gb120, 3, none⟩ = some (.slice A0_3 l0_3.length c0_3) := (blk_cell BK120.out 3).trans rfl; have hcz16_4 : w15.cell? ⟨gb120, 4, none⟩ = some (.slice A0_4 l0_4.length c0_4) := (blk_cell BK120.out 4).trans rfl; have hfz16_0 := blk_frozen BK120.out 0; have hfz16_1 := blk_frozen BK120.out 1; have hfz16_2 := blk_frozen BK120.out 2; have hfz16_3 := blk_frozen BK120.out 3; have hfz16_4 := blk_frozen BK120.out 4) | ((with_reducible refine gate_callee (f := 17) rfl ?_); refine goesL_ (some 7) rfl rfl Tryd.func17 (by kernel_rfl) rfl #[.agg #[.string a0_0, .string a0_1, .int .i64 a0_2, .slice A0_3 l0_3.length c0_3, .slice A0_4 l0_4.length c0_4]] rfl (by (try simp only [List.map_toArray, List.map_cons, List.map_nil]); first | done | rfl | (simp only [List.length_drop, List.length_take]; rfl)) ?_; (with_reducible refine (rights_Right.calls k a0_0 a0_1 a0_2 (fun k_ => k_ < w.heap.size) _ _ l0_3 (fun k_ => k_ < w.heap.size) _ _ l0_4 false _ ?side3 ?side1 ?side2 A3.out).mono ?_); (case side1 => exact Kd.V_mk HC0_3.out (Kd.F_below (Kd.C_F Kd.heap_string HR0_3.out) (by repeat (first | (with_reducible first | exact HB.out | apply below_alloc | apply pw_below_drewN | apply below_drew1 | refine below_set ?_ GE120.out) | exact HB.out)))); (case side2 => exact Kd.V_mk HC0_4.out (Kd.F_below (Kd.C_F Kd.heap_string HR0_4.out) (by repeat (first | (with_reducible first | exact HB.out | apply below_alloc | apply pw_below_drewN | apply below_drew1 | refine below_set ?_ GE120.out) | exact HB.out)))); (case side3 => exact ⟨Tabs.below HTB.out (by repeat (first | (with_reducible first | exact HB.out | apply below_alloc | apply pw_below_drewN | apply below_drew1 | refine below_set ?_ GE120.out) | exact HB.out))⟩); rintro e w17 ⟨rfl, hb⟩; refine ⟨_, rfl, ?_⟩; have n0_ := Aside0.mk (blk_below (g := gb120) (o := .cells #[.string a0_0, .string a0_1, .int .i64 a0_2, .slice A0_3 l0_3.length c0_3, .slice A0_4 l0_4.length c0_4] 26 (0, 0)) (by (with_reducible repeat (first | refine blk_drewN ?_ _ | refine blk_drew ?_ | refine blk_alloc ?_ _)); exact BK120.out) hb); have n1_ := Aside0.mk (below_step (by repeat (first | (with_reducible first | exact HB.out | apply below_alloc | apply pw_below_drewN | apply below_drew1 | refine below_set ?_ GE120.out) | exact HB.out)) hb); clear BK120; clear HB; have BK120 := n0_; have HB := n1_; clear n0_ n1_; (try clear hb); (try clear hb2); (try clear hk); (try clear hi)))
  go_ret
  exact ⟨by first | rfl | (simp [errW_none, errW_some] <;> rfl) | (simp [*, errW_none, errW_some] <;> rfl), by repeat (first | (with_reducible first | exact HB.out | apply below_alloc | apply pw_below_drewN | apply below_drew1 | refine below_set ?_ GE120.out) | exact HB.out)⟩
def rights_other.f (a0_0 : ByteArray) (a0_1 : ByteArray) (a0_2 : Int) (l0_3 : List ByteArray) (l0_4 : List ByteArray) (a1 : ByteArray) : Option (Bool) := (rights_has_string.f l0_3 a1).bind fun t124 => (if t124 = true then (some true) else ((rights_has_string.f l0_4 a1).bind fun t125 => (some t125)))
set_option maxHeartbeats 8000000 in
set_option maxRecDepth 100000 in
theorem rights_other.calls (a0_0 : ByteArray) (a0_1 : ByteArray) (a0_2 : Int) (A0_3 : Option Addr) (c0_3 : Nat) (l0_3 : List ByteArray) (A0_4 : Option Addr) (c0_4 : Nat) (l0_4 : List ByteArray) (a1 : ByteArray) (r : Bool) (w : World) (hr0_3 : Kd.C Kd.string w A0_3 l0_3.length l0_3) (hc0_3 : l0_3.length ≤ c0_3) (hr0_4 : Kd.C Kd.string w A0_4 l0_4.length l0_4) (hc0_4 : l0_4.length ≤ c0_4) (h : rights_other.f a0_0 a0_1 a0_2 l0_3 l0_4 a1 = some r) :
  Calls Tryd.prog 32 #[.agg #[.string a0_0, .string a0_1, .int .i64 a0_2, .slice A0_3 l0_3.length c0_3, .slice A0_4 l0_4.length c0_4], .string a1] w fun e w' => e = .returned (.bool r) ∧ Below w.heap.size w w' := by
 have hu26 := Tryd.underlying26
 have HR0_3 := Aside0.mk hr0_3
 have HC0_3 := Aside0.mk hc0_3
 clear hr0_3 hc0_3
 have HR0_4 := Aside0.mk hr0_4
 have HC0_4 := Aside0.mk hc0_4
 clear hr0_4 hc0_4
 have HB := Aside0.mk (Below.refl w.heap.size w)
 have H : ((rights_has_string.f l0_3 a1).bind fun t124 => (if t124 = true then (some true) else ((rights_has_string.f l0_4 a1).bind fun t125 => (some t125)))) = some r := h
 clear h
 replace H := Option.bind_eq_some_iff.mp H
 obtain ⟨t124, A30, H⟩ := H
 replace H : (if t124 = true then (some true) else ((rights_has_string.f l0_4 a1).bind fun t125 => (some t125))) = some r := H
 have A3 := Aside0.mk A30
 clear A30
 by_cases c4 : t124 = true
 ·subst c4
  have H1 : (some true) = some r := by rw [if_pos rfl] at H; exact H
  clear H
  have H := H1
  clear H1
  obtain rfl := Option.some.inj H
  go_enter Tryd.func32, Tryd.ntmps32
  go_wp2_with (first | ((with_reducible refine gate_dst (N := 2) rfl ?_); refine box_event ?hg (N := 2) ?hd (cs := #[.string a0_0, .string a0_1, .int .i64 a0_2, .slice A0_3 l0_3.length c0_3, .slice A0_4 l0_4.length c0_4]) (t := 26) ?hr ?_; (case hd => rfl); (case hg => rfl); (case hr => first | (go_simp; done) | (go_simp; rfl)); intro gb123 hg w5 hbox hb; have n0_ := Aside0.mk (below_step (by repeat (first | (with_reducible first | exact HB.out | apply below_alloc | apply pw_below_drewN | apply below_drew1) | exact HB.out)) hb); have n1_ := Aside0.mk (hbox); have n2_ := Aside0.mk ((by rw [hg]; exact (below_size (by repeat (first | (with_reducible first | exact HB.out | apply below_alloc | apply pw_below_drewN | apply below_drew1) | exact HB.out))) : w.heap.size ≤ gb123)); have n3_ := Aside0.mk ((by rw [hg]; exact (below_size (by repeat (first | (with_reducible first | exact HB.out | apply below_alloc | apply pw_below_drewN | apply below_drew1) | exact HB.out))) : w.heap.size ≤ gb123)); clear HB; have HB := n0_; have BK123 := n1_; have GW123 := n2_; have GE123 := n3_; clear n0_ n1_ n2_ n3_; clear hb hbox hg; have hcz6_0 : w5.cell? ⟨gb123, 0, none⟩ = some (.string a0_0) := (blk_cell BK123.out 0).trans rfl; have hcz6_1 : w5.cell? ⟨gb123, 1, none⟩ = some (.string a0_1) := (blk_cell BK123.out 1).trans rfl; have hcz6_2 : w5.cell? ⟨gb123, 2, none⟩ = some (.int .i64 a0_2) := (blk_cell BK123.out 2).trans rfl; have hcz6_3 : w5.cell? ⟨gb123, 3, none⟩ = some (.slice A0_3 l0_3.length c0_3) := (blk_cell BK123.out 3).trans rfl; have hcz6_4 : w5.cell? ⟨gb123, 4, none⟩ = some (.slice A0_4 l0_4.length c0_4) := (blk_cell BK123.out 4).trans rfl; have hfz6_0 := blk_frozen BK123.out 0; have hfz6_1 := blk_frozen BK123.out 1; have hfz6_2 := blk_frozen BK123.out 2; have hfz6_3 := blk_frozen BK123.out 3; have hfz6_4 := blk_frozen BK123.out 4) | ((with_reducible refine gate_callee (f := 38) rfl ?_); refine goesL_ (some 8) rfl rfl Tryd.func38 (by kernel_rfl) rfl #[.slice A0_3 l0_3.length c0_3, .string a1] rfl (by (try simp only [List.map_toArray, List.map_cons, List.map_nil]); first | done | rfl | (simp only [List.length_drop, List.length_take]; rfl)) ?_; (with_reducible refine (rights_has_string.calls _ _ l0_3 a1 true _ ?side1 ?side2 A3.out).mono ?_); (case side1 => repeat (first | exact (Kd.C_below HR0_3.out HB.out) | (with_reducible refine Kd.C_alloc ?_ _) | (with_reducible refine Kd.C_drewN ?_ _) | (with_reducible refine Kd.C_drew ?_))); (case side2 => exact HC0_3.out); rintro e w7 ⟨rfl, hb⟩; refine ⟨_, rfl, ?_⟩; have n0_ := Aside0.mk (blk_below (g := gb123) (o := .cells #[.string a0_0, .string a0_1, .int .i64 a0_2, .slice A0_3 l0_3.length c0_3, .slice A0_4 l0_4.length c0_4] 26 (0, 0)) (by (with_reducible repeat (first | refine blk_drewN ?_ _ | refine blk_drew ?_ | refine blk_alloc ?_ _)); exact BK123.out) hb); have n1_ := Aside0.mk (below_step (by repeat (first | (with_reducible first | exact HB.out | apply below_alloc | apply pw_below_drewN | apply below_drew1 | refine below_set ?_ GE123.out) | exact HB.out)) hb); clear BK123; clear HB; have BK123 := n0_; have HB := n1_; clear n0_ n1_; (try clear hb); (try clear hb2); (try clear hk); (try clear hi)))
  go_ret
  exact ⟨by first | rfl | (simp [errW_none, errW_some] <;> rfl) | (simp [*, errW_none, errW_some] <;> rfl), by repeat (first | (with_reducible first | exact HB.out | apply below_alloc | apply pw_below_drewN | apply below_drew1 | refine below_set ?_ GE123.out) | exact HB.out)⟩
 ·replace c4 := Bool.eq_false_iff.mpr c4
  subst c4
  have H1 : ((rights_has_string.f l0_4 a1).bind fun t125 => (some t125)) = some r := by rw [if_neg (show ¬ (false = true) by decide)] at H; exact H
  clear H
  have H := H1
  clear H1
  replace H := Option.bind_eq_some_iff.mp H
  obtain ⟨t125, A80, H⟩ := H
  replace H : (some t125) = some r := H
  have A8 := Aside0.mk A80
  clear A80
  obtain rfl := Option.some.inj H
  go_enter Tryd.func32, Tryd.ntmps32
  go_wp2_with (first | ((with_reducible refine gate_dst (N := 2) rfl ?_); refine box_event ?hg (N := 2) ?hd (cs := #[.string a0_0, .string a0_1, .int .i64 a0_2, .slice A0_3 l0_3.length c0_3, .slice A0_4 l0_4.length c0_4]) (t := 26) ?hr ?_; (case hd => rfl); (case hg => rfl); (case hr => first | (go_simp; done) | (go_simp; rfl)); intro gb123 hg w9 hbox hb; have n0_ := Aside0.mk (below_step (by repeat (first | (with_reducible first | exact HB.out | apply below_alloc | apply pw_below_drewN | apply below_drew1) | exact HB.out)) hb); have n1_ := Aside0.mk (hbox); have n2_ := Aside0.mk ((by rw [hg]; exact (below_size (by repeat (first | (with_reducible first | exact HB.out | apply below_alloc | apply pw_below_drewN | apply below_drew1) | exact HB.out))) : w.heap.size ≤ gb123)); have n3_ := Aside0.mk ((by rw [hg]; exact (below_size (by repeat (first | (with_reducible first | exact HB.out | apply below_alloc | apply pw_below_drewN | apply below_drew1) | exact HB.out))) : w.heap.size ≤ gb123)); clear HB; have HB := n0_; have BK123 := n1_; have GW123 := n2_; have GE123 := n3_; clear n0_ n1_ n2_ n3_; clear hb hbox hg; have hcz10_0 : w9.cell? ⟨gb123, 0, none⟩ = some (.string a0_0) := (blk_cell BK123.out 0).trans rfl; have hcz10_1 : w9.cell? ⟨gb123, 1, none⟩ = some (.string a0_1) := (blk_cell BK123.out 1).trans rfl; have hcz10_2 : w9.cell? ⟨gb123, 2, none⟩ = some (.int .i64 a0_2) := (blk_cell BK123.out 2).trans rfl; have hcz10_3 : w9.cell? ⟨gb123, 3, none⟩ = some (.slice A0_3 l0_3.length c0_3) := (blk_cell BK123.out 3).trans rfl; have hcz10_4 : w9.cell? ⟨gb123, 4, none⟩ = some (.slice A0_4 l0_4.length c0_4) := (blk_cell BK123.out 4).trans rfl; have hfz10_0 := blk_frozen BK123.out 0; have hfz10_1 := blk_frozen BK123.out 1; have hfz10_2 := blk_frozen BK123.out 2; have hfz10_3 := blk_frozen BK123.out 3; have hfz10_4 := blk_frozen BK123.out 4) | ((with_reducible refine gate_callee (f := 38) rfl ?_); refine goesL_ (some 8) rfl rfl Tryd.func38 (by kernel_rfl) rfl #[.slice A0_3 l0_3.length c0_3, .string a1] rfl (by (try simp only [List.map_toArray, List.map_cons, List.map_nil]); first | done | rfl | (simp only [List.length_drop, List.length_take]; rfl)) ?_; (with_reducible refine (rights_has_string.calls _ _ l0_3 a1 false _ ?side1 ?side2 A3.out).mono ?_); (case side1 => repeat (first | exact (Kd.C_below HR0_3.out HB.out) | (with_reducible refine Kd.C_alloc ?_ _) | (with_reducible refine Kd.C_drewN ?_ _) | (with_reducible refine Kd.C_drew ?_))); (case side2 => exact HC0_3.out); rintro e w11 ⟨rfl, hb⟩; refine ⟨_, rfl, ?_⟩; have n0_ := Aside0.mk (blk_below (g := gb123) (o := .cells #[.string a0_0, .string a0_1, .int .i64 a0_2, .slice A0_3 l0_3.length c0_3, .slice A0_4 l0_4.length c0_4] 26 (0, 0)) (by (with_reducible repeat (first | refine blk_drewN ?_ _ | refine blk_drew ?_ | refine blk_alloc ?_ _)); exact BK123.out) hb); have n1_ := Aside0.mk (below_step (by repeat (first | (with_reducible first | exact HB.out | apply below_alloc | apply pw_below_drewN | apply below_drew1 | refine below_set ?_ GE123.out) | exact HB.out)) hb); clear BK123; clear HB; have BK123 := n0_; have HB := n1_; clear n0_ n1_; (try clear hb); (try clear hb2); (try clear hk); (try clear hi); have hcz12_0 : w11.cell? ⟨gb123, 0, none⟩ = some (.string a0_0) := (blk_cell BK123.out 0).trans rfl; have hcz12_1 : w11.cell? ⟨gb123, 1, none⟩ = some (.string a0_1) := (blk_cell BK123.out 1).trans rfl; have hcz12_2 : w11.cell? ⟨gb123, 2, none⟩ = some (.int .i64 a0_2) := (blk_cell BK123.out 2).trans rfl; have hcz12_3 : w11.cell? ⟨gb123, 3, none⟩ = some (.slice A0_3 l0_3.length c0_3) := (blk_cell BK123.out 3).trans rfl; have hcz12_4 : w11.cell? ⟨gb123, 4, none⟩ = some (.slice A0_4 l0_4.length c0_4) := (blk_cell BK123.out 4).trans rfl; have hfz12_0 := blk_frozen BK123.out 0; have hfz12_1 := blk_frozen BK123.out 1; have hfz12_2 := blk_frozen BK123.out 2; have hfz12_3 := blk_frozen BK123.out 3; have hfz12_4 := blk_frozen BK123.out 4) | (go_at_call 38; (with_reducible refine (rights_has_string.calls _ _ l0_4 a1 t125 _ ?side1 ?side2 A8.out).mono ?_); (case side1 => repeat (first | exact (Kd.C_below HR0_4.out HB.out) | (with_reducible refine Kd.C_alloc ?_ _) | (with_reducible refine Kd.C_drewN ?_ _) | (with_reducible refine Kd.C_drew ?_))); (case side2 => exact HC0_4.out); rintro e w13 ⟨rfl, hb⟩; have n0_ := Aside0.mk (blk_below (g := gb123) (o := .cells #[.string a0_0, .string a0_1, .int .i64 a0_2, .slice A0_3 l0_3.length c0_3, .slice A0_4 l0_4.length c0_4] 26 (0, 0)) (by (with_reducible repeat (first | refine blk_drewN ?_ _ | refine blk_drew ?_ | refine blk_alloc ?_ _)); exact BK123.out) hb); have n1_ := Aside0.mk (below_step (by repeat (first | (with_reducible first | exact HB.out | apply below_alloc | apply pw_below_drewN | apply below_drew1 | refine below_set ?_ GE123.out) | exact HB.out)) hb); clear BK123; clear HB; have BK123 := n0_; have HB := n1_; clear n0_ n1_; (try clear hb); (try clear hb2); (try clear hk); (try clear hi)))
  go_ret
  exact ⟨by first | rfl | (simp [errW_none, errW_some] <;> rfl) | (simp [*, errW_none, errW_some] <;> rfl), by repeat (first | (with_reducible first | exact HB.out | apply below_alloc | apply pw_below_drewN | apply below_drew1 | refine below_set ?_ GE123.out) | exact HB.out)⟩
end Go.Proofs.YtfhanoloaejmkaaDoor.PB
end
section

namespace Go.Proofs.YtfhanoloaejmkaaDoor.Ref
open Go.RowKit Go.Proofs.YtfhanoloaejmkaaDoor Go.Proofs.YtfhanoloaejmkaaDoor.PB Go.Proofs.YtfhanoloaejmkaaDoorW.PrintWords Go.Proofs.YtfhanoloaejmkaaDoorW.PrintLast
set_option linter.unusedVariables false
theorem list_eq (a b : ByteArray) : a.toList = b.toList ↔ a = b := ⟨fun h => bs_inj (by rwa [bytes_toList, bytes_toList] at h), fun h => by rw [h]⟩
theorem rdOf_nth (l : List ByteArray) (i : Nat) : rdOf ByteArray.empty l (i : Int) = nth l i := by
 unfold rdOf nth; rw [Int.toNat_natCast]
theorem has_val (l : List ByteArray) (x : ByteArray) (h : l.length ≤ 140737488355328) : rights_has_string.f l x = some (searchB l x) := by
 unfold rights_has_string.f rights_place.f
 rw [if_pos h]; rfl
theorem right_val (a : ByteArray) (h : a.size ≤ 9223372036854775807) : name_Right.f a = some (rightN (bytes a)) := by unfold name_Right.f; rw [if_pos h]
theorem rises_loop (l : List ByteArray) (hl : l.length ≤ 1000000) (m i : Nat) (hm : i + m = l.length) (h : ∀ j, j + 1 < i → (h : j + 1 < l.length) → ltB (l[j]'(by omega)) l[j + 1] = true) :
  Ev (fun k => rights_rises_string.l0 k l (l.length : Int) (i : Int)) (risesL l) := by
 induction m generalizing i with
 | zero =>
  refine Ev.step (fun _ => rfl) (Ev.neg (by omega) ?_)
  have : risesL l = true := rises_get.2 fun j hj => h j (by omega) hj
  rw [this]; exact Ev.now _
 | succ m ih =>
  refine Ev.step (fun _ => rfl) (Ev.pos (by omega) ?_)
  by_cases h0 : i = 0
  ·subst h0
   refine Ev.neg (by omega) ?_
   rw [show wrap64 (((0 : Nat) : Int) + 1) = ((1 : Nat) : Int) by rw [w64 (by omega) (by omega)]; rfl]
   exact ih 1 (by omega) (fun j hj => by omega)
  ·obtain ⟨j, rfl⟩ : ∃ j, i = j + 1 := ⟨i - 1, by omega⟩
   have e1 : wrap64 (((j + 1 : Nat) : Int) - 1) = (j : Int) := by rw [w64 (by omega) (by omega)]; omega
   have e2 : wrap64 (((j + 1 : Nat) : Int) + 1) = ((j + 2 : Nat) : Int) := by rw [w64 (by omega) (by omega)]; omega
   rw [e1, e2, rdOf_nth, rdOf_nth, lessB]
   refine Ev.pos (by omega) (Ev.pos (by omega) (Ev.pos (by omega) (Ev.pos (by omega) (Ev.pos (by omega) ?_))))
   have e3 : ltB (nth l j) (nth l (j + 1)) = ltB (l[j]'(by omega)) (l[j + 1]'(by omega)) := by rw [nth_get (by omega), nth_get (by omega)]
   by_cases hlt : ltB (nth l j) (nth l (j + 1)) = true
   ·refine Ev.pos hlt (ih (j + 2) (by omega) (fun q hq hq2 => ?_))
    by_cases hqj : q = j
    ·subst hqj; rw [← e3]; exact hlt
    ·exact h q (by omega) hq2
   ·refine Ev.neg hlt ?_
    have : risesL l = false := by
     cases hr : risesL l with
     | false => rfl
     | true => exact absurd (e3 ▸ rises_get.1 hr j (by omega)) hlt
    rw [this]; exact Ev.now _
theorem rises_ev (l : List ByteArray) (hl : l.length ≤ 1000000) : Ev (fun k => rights_rises_string.f k l) (risesL l) := rises_loop l hl l.length 0 (by omega) (fun j hj => by omega)
def smallS (s : ByteArray) : Bool := decide (s.size ≤ 1000000)
def smallR (r : Rt) : Bool := smallS r.o && smallS r.f && decide (-9223372036854775808 ≤ r.e ∧ r.e ≤ 9223372036854775807) && decide (r.rs.length ≤ 1000) && decide (r.ws.length ≤ 1000) && r.rs.all smallS && r.ws.all smallS
theorem small_parts {r : Rt} (h : smallR r = true) : r.o.size ≤ 1000000 ∧ r.f.size ≤ 1000000 ∧ (-9223372036854775808 ≤ r.e ∧ r.e ≤ 9223372036854775807) ∧ r.rs.length ≤ 1000 ∧ r.ws.length ≤ 1000 ∧ (∀ s ∈ r.rs, s.size ≤ 1000000) ∧ ∀ s ∈ r.ws, s.size ≤ 1000000 := by
 unfold smallR smallS at h
 simp only [Bool.and_eq_true, List.all_eq_true, decide_eq_true_eq] at h
 obtain ⟨⟨⟨⟨⟨⟨h1, h2⟩, h3⟩, h4⟩, h5⟩, h6⟩, h7⟩ := h
 exact ⟨h1, h2, h3, h4, h5, h6, h7⟩
theorem small_mk {r : Rt} (h1 : r.o.size ≤ 1000000) (h2 : r.f.size ≤ 1000000) (h3 : -9223372036854775808 ≤ r.e ∧ r.e ≤ 9223372036854775807) (h4 : r.rs.length ≤ 1000) (h5 : r.ws.length ≤ 1000) (h6 : ∀ s ∈ r.rs, s.size ≤ 1000000) (h7 : ∀ s ∈ r.ws, s.size ≤ 1000000) : smallR r = true := by
 unfold smallR smallS
 simp only [Bool.and_eq_true, List.all_eq_true, decide_eq_true_eq]
 exact ⟨⟨⟨⟨⟨⟨h1, h2⟩, h3⟩, h4⟩, h5⟩, h6⟩, h7⟩
theorem right_loop (l : List ByteArray) (o f : ByteArray) (e : Int) (rs ws : List ByteArray) (hl : l.length ≤ 1000000) (hs : ∀ s ∈ l, s.size ≤ 1000000) (hr : rs.length ≤ 1000) (hw : ws.length ≤ 1000) (m i : Nat) (hm : i + m = l.length) :
  Ev (fun k => rights_Right.l0 k l (l.length : Int) (i : Int) o f e rs ws) ((l.drop i).all fun s => rightN (bytes s) && !decide (s = o) && !(searchB rs s && searchB ws s)) := by
 induction m generalizing i with
 | zero =>
  rw [List.drop_eq_nil_of_le (by omega)]
  exact Ev.step (fun _ => rfl) (Ev.neg (by omega) (Ev.now _))
 | succ m ih =>
  have hi : i < l.length := by omega
  have ih := ih (i + 1) (by omega)
  have hsz := hs l[i] (List.getElem_mem hi)
  rw [List.drop_eq_getElem_cons hi, List.all_cons]
  refine Ev.step (fun _ => rfl) (Ev.pos (by omega) (Ev.pos (by omega) (Ev.pos (by omega) ?_)))
  rw [rdOf_nth, nth_get hi, w64 (n := (i : Int) + 1) (by omega) (by omega)]
  refine Ev.put (right_val _ (by omega)) ?_
  cases h1 : rightN (bytes l[i]) with
  | false => exact Ev.neg (by simp) (Ev.now _)
  | true =>
   refine Ev.pos rfl ?_
   by_cases h2 : l[i] = o
   ·rw [decide_eq_true h2]
    exact Ev.pos ((list_eq _ _).2 h2) (Ev.now _)
   ·rw [decide_eq_false h2]
    refine Ev.neg (fun h => h2 ((list_eq _ _).1 h)) ?_
    refine Ev.put (has_val _ _ (by omega)) ?_
    cases h3 : searchB rs l[i] with
    | false =>
     refine Ev.neg (by simp) ?_
     simpa using ih
    | true =>
     refine Ev.pos rfl ?_
     refine Ev.put (has_val _ _ (by omega)) ?_
     cases h4 : searchB ws l[i] with
     | true => exact Ev.pos rfl (Ev.now _)
     | false =>
      refine Ev.neg (by simp) ?_
      simpa using ih
theorem right_ev (r : Rt) (h : smallR r = true) : Ev (fun k => rights_Right.f k r.o r.f r.e r.rs r.ws) (rightR r) := by
 obtain ⟨h1, h2, h3, h4, h5, h6, h7⟩ := small_parts h
 have hno : ∀ b : Bool, (∀ k, rights_Right.j0 (k + 1) b r.o r.f r.e r.rs r.ws = if b = true then some false else (slices_Concat.f [r.rs, r.ws]).bind fun t => rights_Right.l0 k t (t.length : Int) 0 r.o r.f r.e r.rs r.ws) := fun b k => rfl
 have hbad : Ev (fun k => rights_Right.j0 k true r.o r.f r.e r.rs r.ws) false := Ev.step (hno true) (Ev.pos rfl (Ev.now _))
 rw [← right_walk]
 unfold rights_Right.f
 refine Ev.put (right_val _ (by omega)) ?_
 cases rightN (bytes r.o) with
 | false => exact Ev.neg (by simp) (ev_cast hbad (by simp))
 | true =>
 refine Ev.pos rfl (Ev.put (right_val _ (by omega)) ?_)
 cases rightN (bytes r.f) with
 | false => exact Ev.neg (by simp) (ev_cast hbad (by simp))
 | true =>
 refine Ev.pos rfl ?_
 by_cases c1 : r.e < 0
 ·refine Ev.pos c1 (ev_cast hbad ?_)
  rw [decide_eq_false (by omega)]; simp
 refine Ev.neg c1 ?_
 by_cases c2 : r.e ≥ 8
 ·refine Ev.pos c2 (ev_cast hbad ?_)
  rw [decide_eq_false (by omega)]; simp
 refine Ev.neg c2 ?_
 rw [decide_eq_true (show 0 ≤ r.e ∧ r.e ≤ 7 by omega), w64 (n := (r.rs.length : Int) + r.ws.length) (by omega) (by omega)]
 by_cases c3 : (r.rs.length : Int) + r.ws.length > 5
 ·refine Ev.pos c3 (ev_cast hbad ?_)
  rw [decide_eq_false (by omega)]; simp
 refine Ev.neg c3 ?_
 rw [decide_eq_true (show r.rs.length + r.ws.length ≤ 5 by omega)]
 refine Ev.bind (rises_ev r.rs (by omega)) ?_
 cases risesL r.rs with
 | false => exact Ev.neg (by simp) (ev_cast hbad (by simp))
 | true =>
 refine Ev.pos rfl (Ev.bind (rises_ev r.ws (by omega)) ?_)
 cases risesL r.ws with
 | false => exact ev_cast hbad (by simp)
 | true =>
 refine Ev.step (hno _) (Ev.neg (by simp) ?_)
 have hc : slices_Concat.f [r.rs, r.ws] = some (r.rs ++ r.ws) := by
  unfold slices_Concat.f
  rw [if_pos (by simp; omega)]
  simp
 refine Ev.put hc ?_
 have hlen : (r.rs ++ r.ws).length ≤ 1000000 := by rw [List.length_append]; omega
 refine ev_cast (right_loop (r.rs ++ r.ws) r.o r.f r.e r.rs r.ws hlen (fun s hs => (List.mem_append.1 hs).elim (h6 s) (h7 s)) h4 h5 (r.rs ++ r.ws).length 0 (by omega)) ?_
 simp only [List.drop_zero, Bool.true_and]
def askedF (r : Rt) (u : ByteArray) : Int := if rightR r = true then (if rightN (bytes u) = true then 0 else 3) else 1
theorem asked_ev (r : Rt) (u : ByteArray) (h : smallR r = true) (hu : u.size ≤ 1000000) : Ev (fun k => rights_asked.f k r.o r.f r.e r.rs r.ws u) (askedF r u) := by
 unfold rights_asked.f askedF
 refine Ev.bind (right_ev r h) ?_
 cases rightR r with
 | false => exact Ev.neg (by simp) (Ev.now _)
 | true =>
  refine Ev.pos rfl (Ev.put (right_val _ (by omega)) ?_)
  cases rightN (bytes u) with
  | false => exact Ev.neg (by simp) (Ev.now _)
  | true => exact Ev.pos rfl (Ev.now _)
end Go.Proofs.YtfhanoloaejmkaaDoor.Ref
end
section

namespace Go.Proofs.YtfhanoloaejmkaaDoor
open Go.RowKit Go.Proofs.YtfhanoloaejmkaaDoorW.PrintWords Go.Proofs.YtfhanoloaejmkaaDoor.Ref
set_option linter.unusedVariables false
set_option linter.unusedSimpArgs false
theorem asked_call (r : Rt) (u : ByteArray) (A : Option Addr) (c : Nat) (A' : Option Addr) (c' : Nat) (w : World) (HTB : Aside0 (Tabs w)) (hs : smallR r = true) (hu : u.size ≤ 1000000) (h1 : Kd.C Kd.string w A r.rs.length r.rs) (h2 : r.rs.length ≤ c) (h3 : Kd.C Kd.string w A' r.ws.length r.ws) (h4 : r.ws.length ≤ c') :
  Calls Tryd.prog 31 #[.agg #[.string r.o, .string r.f, .int .i64 r.e, .slice A r.rs.length c, .slice A' r.ws.length c'], .string u] w fun e w' => e = .returned (.int .i64 (askedF r u)) ∧ Below w.heap.size w w' := by
 obtain ⟨K, h⟩ := asked_ev r u hs hu
 exact PB.rights_asked.calls K r.o r.f r.e A c r.rs A' c' r.ws u _ w HTB h1 h2 h3 h4 (h K (Nat.le_refl _))
theorem other_call (r : Rt) (u : ByteArray) (A : Option Addr) (c : Nat) (A' : Option Addr) (c' : Nat) (w : World) (hs : smallR r = true) (h1 : Kd.C Kd.string w A r.rs.length r.rs) (h2 : r.rs.length ≤ c) (h3 : Kd.C Kd.string w A' r.ws.length r.ws) (h4 : r.ws.length ≤ c') :
  Calls Tryd.prog 32 #[.agg #[.string r.o, .string r.f, .int .i64 r.e, .slice A r.rs.length c, .slice A' r.ws.length c'], .string u] w fun e w' => e = .returned (.bool (searchB r.rs u || searchB r.ws u)) ∧ Below w.heap.size w w' := by
 obtain ⟨_, _, _, q1, q2, _⟩ := small_parts hs
 refine PB.rights_other.calls r.o r.f r.e A c r.rs A' c' r.ws u _ w h1 h2 h3 h4 ?_
 unfold PB.rights_other.f
 rw [has_val _ _ (by omega), has_val _ _ (by omega)]
 cases searchB r.rs u <;> simp
def BoxAt (w : World) (b : Nat) (r : Rt) (v3 v4 : Value) : Prop := ∃ cs : Array Value, cs = #[.string r.o, .string r.f, .int .i64 r.e, v3, v4] ∧ w.heap[b]? = some (.cells cs 26 (0, 0))
theorem BoxAt.cell {w : World} {b : Nat} {r : Rt} {v3 v4 : Value} (h : BoxAt w b r v3 v4) : w.cell? ⟨b, 0, none⟩ = some (.string r.o) ∧ w.cell? ⟨b, 1, none⟩ = some (.string r.f) ∧ w.cell? ⟨b, 2, none⟩ = some (.int .i64 r.e) ∧ w.cell? ⟨b, 3, none⟩ = some v3 ∧ w.cell? ⟨b, 4, none⟩ = some v4 := by
 obtain ⟨cs, rfl, h⟩ := h
 exact ⟨blk_cell h 0, blk_cell h 1, blk_cell h 2, blk_cell h 3, blk_cell h 4⟩
theorem BoxAt.free {w : World} {b : Nat} {r : Rt} {v3 v4 : Value} (h : BoxAt w b r v3 v4) (i : Nat) : w.frozen? ⟨b, i, none⟩ = false := by
 obtain ⟨cs, rfl, h⟩ := h
 exact blk_frozen h i
theorem BoxAt.below {w w1 : World} {b : Nat} {r : Rt} {v3 v4 : Value} (h : BoxAt w b r v3 v4) (hb : Below w.heap.size w w1) : BoxAt w1 b r v3 v4 := by
 obtain ⟨cs, rfl, h⟩ := h
 exact ⟨_, rfl, by rw [hb.block b (blk_lt h)]; exact h⟩
theorem BoxAt.put {w : World} {b : Nat} {r : Rt} {v3 v4 : Value} (h : BoxAt w b r v3 v4) (r' : Rt) (v3' v4' : Value) :
  BoxAt (((((w.setCell ⟨b, 0, none⟩ (.string r'.o)).setCell ⟨b, 1, none⟩ (.string r'.f)).setCell ⟨b, 2, none⟩ (.int .i64 r'.e)).setCell ⟨b, 3, none⟩ v3').setCell ⟨b, 4, none⟩ v4') b r' v3' v4' := by
 obtain ⟨cs, rfl, h⟩ := h
 exact ⟨_, rfl, blk_set (blk_set (blk_set (blk_set (blk_set h 0 _) 1 _) 2 _) 3 _) 4 _⟩
theorem BoxAt.put_below {B : Nat} {w0 w : World} {b : Nat} (hb : Below B w0 w) (hB : B ≤ b) (r' : Rt) (v3' v4' : Value) :
  Below B w0 (((((w.setCell ⟨b, 0, none⟩ (.string r'.o)).setCell ⟨b, 1, none⟩ (.string r'.f)).setCell ⟨b, 2, none⟩ (.int .i64 r'.e)).setCell ⟨b, 3, none⟩ v3').setCell ⟨b, 4, none⟩ v4') :=
 ((((hb.setCell hB _).setCell hB _).setCell hB _).setCell hB _).setCell hB _
structure St (w0 W : World) (r : Rt) (v3 v4 : Value) (l3 l4 : List ByteArray) : Prop where
 bel : Below w0.heap.size w0 W
 box : BoxAt W w0.heap.size r v3 v4
 res : BoxAt W (w0.heap.size + 1) noRt (.slice none 0 0) (.slice none 0 0)
 own3 : W.ownsRow (w0.heap.size + 2) 9 1 v3 l3.length (strs l3)
 own4 : W.ownsRow (w0.heap.size + 2) 9 1 v4 l4.length (strs l4)
 apart : ∀ k, v3.ownBlock = some k → v4.ownBlock ≠ some k
theorem St.below {w0 W W' : World} {r : Rt} {v3 v4 : Value} {l3 l4 : List ByteArray} (h : St w0 W r v3 v4 l3 l4) (hb : Below W.heap.size W W') : St w0 W' r v3 v4 l3 l4 :=
 ⟨below_step h.bel hb, h.box.below hb, h.res.below hb, pw_own_below h.own3 hb, pw_own_below h.own4 hb, h.apart⟩
theorem BoxAt.grown {w w1 : World} {b : Nat} {r : Rt} {v3 v4 : Value} {row : Option Nat} (h : BoxAt w b r v3 v4) (hg : w.grownBy w1 row) (hne : some b ≠ row) : BoxAt w1 b r v3 v4 := by
 obtain ⟨cs, rfl, h⟩ := h
 exact ⟨_, rfl, blk_grown h hg hne⟩
theorem BoxAt.far {w : World} {b : Nat} {r : Rt} {v3 v4 : Value} (h : BoxAt w b r v3 v4) {p : Addr} (hp : b ≠ p.block) (u : Value) : BoxAt (w.setCell p u) b r v3 v4 := by
 obtain ⟨cs, rfl, h⟩ := h
 exact ⟨_, rfl, blk_far h hp u⟩
theorem BoxAt.set3 {w : World} {b : Nat} {r : Rt} {v3 v4 : Value} (h : BoxAt w b r v3 v4) (u : Value) : BoxAt (w.setCell ⟨b, 3, none⟩ u) b r u v4 := by
 obtain ⟨cs, rfl, h⟩ := h
 exact ⟨_, rfl, blk_set h 3 u⟩
theorem BoxAt.set4 {w : World} {b : Nat} {r : Rt} {v3 v4 : Value} (h : BoxAt w b r v3 v4) (u : Value) : BoxAt (w.setCell ⟨b, 4, none⟩ u) b r v3 u := by
 obtain ⟨cs, rfl, h⟩ := h
 exact ⟨_, rfl, blk_set h 4 u⟩
theorem own_not {W : World} {B : Nat} {v : Value} {l : List ByteArray} (h : W.ownsRow B 9 1 v l.length (strs l)) {b : Nat} (hb : b < B) : some b ≠ v.ownBlock := fun e => by
 have := own_base h b e.symm
 omega
theorem St.set3 {w0 W W' : World} {r : Rt} {v3 v4 v3' : Value} {l3 l4 l3' : List ByteArray} (h : St w0 W r v3 v4 l3 l4) (hg : W.grownBy W' v3.ownBlock) (ho : W'.ownsRow (w0.heap.size + 2) 9 1 v3' l3'.length (strs l3')) (hat : v3'.ownBlock = v3.ownBlock ∨ ∃ b, v3'.ownBlock = some b ∧ W.heap.size ≤ b) :
  St w0 (W'.setCell ⟨w0.heap.size, 3, none⟩ v3') r v3' v4 l3' l4 := by
 have n4 : v4.ownBlock ≠ v3.ownBlock ∨ v4.ownBlock = none := by
  cases e : v4.ownBlock with
  | none => exact Or.inr rfl
  | some k => exact Or.inl fun e2 => h.apart k e2.symm e
 have o4 : W'.ownsRow (w0.heap.size + 2) 9 1 v4 l4.length (strs l4) := by
  rcases n4 with n4 | n4
  ·exact own_other h.own4 hg (Or.inr n4)
  ·rcases own_row h.own4 with ⟨rfl, rfl⟩ | ⟨g, cap, cur, rfl, _⟩
   ·exact own_nil _ _ _ _
   ·simp [Value.ownBlock] at n4
 refine ⟨(h.bel.grown hg (by have := h.bel.size; omega) (fun k hk => by have := own_base h.own3 k hk; omega)).setCell (Nat.le_refl _) _, (h.box.grown hg (own_not h.own3 (by omega))).set3 _, (h.res.grown hg (own_not h.own3 (by omega))).far (by show _ ≠ w0.heap.size; omega) _, own_setCell ho (own_not ho (by show w0.heap.size < _; omega)) _, own_setCell o4 (own_not o4 (by show w0.heap.size < _; omega)) _, fun k hk => ?_⟩
 rcases hat with hat | ⟨b, hat, hle⟩
 ·exact h.apart k (hat ▸ hk)
 ·intro e
  have h1 := own_lt h.own4 k e
  rw [hk] at hat
  cases hat
  omega
theorem St.set4 {w0 W W' : World} {r : Rt} {v3 v4 v4' : Value} {l3 l4 l4' : List ByteArray} (h : St w0 W r v3 v4 l3 l4) (hg : W.grownBy W' v4.ownBlock) (ho : W'.ownsRow (w0.heap.size + 2) 9 1 v4' l4'.length (strs l4')) (hat : v4'.ownBlock = v4.ownBlock ∨ ∃ b, v4'.ownBlock = some b ∧ W.heap.size ≤ b) :
  St w0 (W'.setCell ⟨w0.heap.size, 4, none⟩ v4') r v3 v4' l3 l4' := by
 have n3 : v3.ownBlock ≠ v4.ownBlock ∨ v3.ownBlock = none := by
  cases e : v3.ownBlock with
  | none => exact Or.inr rfl
  | some k => exact Or.inl fun e2 => h.apart k e e2.symm
 have o3 : W'.ownsRow (w0.heap.size + 2) 9 1 v3 l3.length (strs l3) := by
  rcases n3 with n3 | n3
  ·exact own_other h.own3 hg (Or.inr n3)
  ·rcases own_row h.own3 with ⟨rfl, rfl⟩ | ⟨g, cap, cur, rfl, _⟩
   ·exact own_nil _ _ _ _
   ·simp [Value.ownBlock] at n3
 refine ⟨(h.bel.grown hg (by have := h.bel.size; omega) (fun k hk => by have := own_base h.own4 k hk; omega)).setCell (Nat.le_refl _) _, (h.box.grown hg (own_not h.own4 (by omega))).set4 _, (h.res.grown hg (own_not h.own4 (by omega))).far (by show _ ≠ w0.heap.size; omega) _, own_setCell o3 (own_not o3 (by show w0.heap.size < _; omega)) _, own_setCell ho (own_not ho (by show w0.heap.size < _; omega)) _, fun k hk e => ?_⟩
 rcases hat with hat | ⟨b, hat, hle⟩
 ·exact h.apart k hk (hat ▸ e)
 ·have h1 := own_lt h.own3 k hk
  rw [e] at hat
  cases hat
  omega
theorem St.start {w0 W W3 W4 : World} {r : Rt} {v3 v4 u3 u4 : Value} {l3 l4 : List ByteArray} (hb : Below w0.heap.size w0 W) (hx : BoxAt W w0.heap.size r u3 u4) (hy : BoxAt W (w0.heap.size + 1) noRt (.slice none 0 0) (.slice none 0 0)) (h3 : W3.ownsRow W.heap.size 9 1 v3 l3.length (strs l3)) (b3 : Below W.heap.size W W3)
  (h4 : W4.ownsRow W3.heap.size 9 1 v4 l4.length (strs l4)) (b4 : Below W3.heap.size W3 W4) : St w0 ((W4.setCell ⟨w0.heap.size, 3, none⟩ v3).setCell ⟨w0.heap.size, 4, none⟩ v4) r v3 v4 l3 l4 := by
 have hs : w0.heap.size + 2 ≤ W.heap.size := by
  obtain ⟨cs, rfl, h⟩ := hy
  have := blk_lt h
  omega
 have hs3 := b3.size
 have o3 := pw_own_below (own_weaken h3 hs) b4
 have o4 := own_weaken h4 (show w0.heap.size + 2 ≤ W3.heap.size by omega)
 have q : w0.heap.size < w0.heap.size + 2 := by omega
 refine ⟨((below_step (below_step hb b3) b4).setCell (Nat.le_refl _) _).setCell (Nat.le_refl _) _, (((hx.below b3).below b4).set3 _).set4 _, (((hy.below b3).below b4).far (by show _ ≠ w0.heap.size; omega) _).far (by show _ ≠ w0.heap.size; omega) _, own_setCell (own_setCell o3 (own_not o3 q) _) (own_not o3 q) _, own_setCell (own_setCell o4 (own_not o4 q) _) (own_not o4 q) _, fun k hk e => ?_⟩
 have := own_lt h3 k hk
 have := own_base h4 k e
 omega
theorem own_C {W : World} {B : Nat} {v : Value} {l : List ByteArray} (h : W.ownsRow B 9 1 v l.length (strs l)) : ∃ A c, v = .slice A l.length c ∧ l.length ≤ c ∧ Kd.C Kd.string W A l.length l :=
 Kd.R_reads (ok := fun _ => True) (Kd.R_of_own h (fun _ _ => trivial))
theorem St.rows {w0 W : World} {r : Rt} {v3 v4 : Value} {l3 l4 : List ByteArray} (h : St w0 W r v3 v4 l3 l4) :
  Kd.R Kd.string 9 W w0.heap.size (fun k_ => some k_ ≠ (v4 : Value).ownBlock) v3 l3 ∧ Kd.R Kd.string 9 W w0.heap.size (fun k_ => some k_ ≠ (v3 : Value).ownBlock) v4 l4 :=
 ⟨Kd.R_of_own (own_weaken h.own3 (by omega)) (fun k hk e => h.apart k hk e.symm), Kd.R_of_own (own_weaken h.own4 (by omega)) (fun k hk e => h.apart k e.symm hk)⟩
theorem own_set {W : World} {B b i : Nat} {v : Value} {l : List ByteArray} (h : W.ownsRow B 9 1 v l.length (strs l)) (hb : b < B) (u : Value) : (W.setCell ⟨b, i, none⟩ u).ownsRow B 9 1 v l.length (strs l) := own_setCell h (own_not h hb) u
theorem St.fin {w0 W : World} {r : Rt} {v3 v4 : Value} {l3 l4 : List ByteArray} (h : St w0 W r v3 v4 l3 l4) (a b c d e : Value) :
  Kd.R Kd.string 9 (((((W.setCell ⟨w0.heap.size + 1, 0, none⟩ a).setCell ⟨w0.heap.size + 1, 1, none⟩ b).setCell ⟨w0.heap.size + 1, 2, none⟩ c).setCell ⟨w0.heap.size + 1, 3, none⟩ d).setCell ⟨w0.heap.size + 1, 4, none⟩ e) w0.heap.size (fun k_ => some k_ ≠ (v4 : Value).ownBlock) v3 l3 ∧
   Kd.R Kd.string 9 (((((W.setCell ⟨w0.heap.size + 1, 0, none⟩ a).setCell ⟨w0.heap.size + 1, 1, none⟩ b).setCell ⟨w0.heap.size + 1, 2, none⟩ c).setCell ⟨w0.heap.size + 1, 3, none⟩ d).setCell ⟨w0.heap.size + 1, 4, none⟩ e) w0.heap.size (fun k_ => some k_ ≠ (v3 : Value).ownBlock) v4 l4 := by
 have q : w0.heap.size + 1 < w0.heap.size + 2 := by omega
 have h3 := own_set (i := 4) (own_set (i := 3) (own_set (i := 2) (own_set (i := 1) (own_set (i := 0) h.own3 q a) q b) q c) q d) q e
 have h4 := own_set (i := 4) (own_set (i := 3) (own_set (i := 2) (own_set (i := 1) (own_set (i := 0) h.own4 q a) q b) q c) q d) q e
 exact ⟨Kd.R_of_own (own_weaken h3 (by omega)) (fun k hk e => h.apart k hk e.symm), Kd.R_of_own (own_weaken h4 (by omega)) (fun k hk e => h.apart k e.symm hk)⟩
theorem own_C' {W : World} {B c : Nat} {A : Option Addr} {l : List ByteArray} (h : W.ownsRow B 9 1 (.slice A l.length c) l.length (strs l)) : l.length ≤ c ∧ Kd.C Kd.string W A l.length l := by
 obtain ⟨A', c', e, h1, h2⟩ := own_C h
 simp only [Value.slice.injEq] at e
 obtain ⟨rfl, _, rfl⟩ := e
 exact ⟨h1, h2⟩
theorem place_call (l : List ByteArray) (u : ByteArray) (A : Option Addr) (c B : Nat) (W : World) (hl : l.length ≤ 1000000) (ho : W.ownsRow B 9 1 (.slice A l.length c) l.length (strs l)) :
  Calls Tryd.prog 34 #[.slice A l.length c, .string u] W fun e w' => e = .returned (.tuple #[.int .i64 (searchN l u : Nat), .bool (searchB l u)]) ∧ Below W.heap.size W w' :=
 rights_place.calls A c l u _ _ W (own_C' ho).2 (own_C' ho).1 (by unfold rights_place.f; rw [if_pos (by omega)])
set_option maxHeartbeats 4000000 in
set_option maxRecDepth 100000 in
theorem grant_any (r : Rt) (u : ByteArray) (wr : Bool) (A : Option Addr) (c : Nat) (A' : Option Addr) (c' : Nat) (w : World) (HTB : Aside0 (Tabs w)) (hs : smallR r = true) (hu : u.size ≤ 1000000) (h1 : Kd.C Kd.string w A r.rs.length r.rs) (h2 : r.rs.length ≤ c) (h3 : Kd.C Kd.string w A' r.ws.length r.ws) (h4 : r.ws.length ≤ c') :
  Calls Tryd.prog 14 #[.agg #[.string r.o, .string r.f, .int .i64 r.e, .slice A r.rs.length c, .slice A' r.ws.length c'], .string u, .bool wr] w fun e w' => ∃ v3_ v4_ : Value, e = .returned (.tuple #[.agg #[.string (grantF r u wr).1.o, .string (grantF r u wr).1.f, .int .i64 (grantF r u wr).1.e, v3_, v4_], .int .i64 (grantF r u wr).2]) ∧ Kd.R Kd.string 9 w' w.heap.size (fun k_ => some k_ ≠ (v4_ : Value).ownBlock) v3_ (grantF r u wr).1.rs ∧ Kd.R Kd.string 9 w' w.heap.size (fun k_ => some k_ ≠ (v3_ : Value).ownBlock) v4_ (grantF r u wr).1.ws ∧ Below w.heap.size w w' := by
 obtain ⟨R, hR⟩ : ∃ R, grantF r u wr = R := ⟨_, rfl⟩
 rw [hR]
 have HR := Lib.hid hR
 clear hR
 go_enter Tryd.func14, Tryd.ntmps14
 have hb0 : Below w.heap.size w ((w.alloc (Obj.cells #[Value.string r.o, Value.string r.f, Value.int IntKind.i64 r.e, Value.slice A r.rs.length c, Value.slice A' r.ws.length c'] 26)).alloc (Obj.cells #[Value.string { data := #[] }, Value.string { data := #[] }, Value.int IntKind.i64 0, Value.slice none 0 0, Value.slice none 0 0] 26)) := below_alloc (below_alloc (Below.refl _ _) _) _
 have hx0 : BoxAt ((w.alloc (Obj.cells #[Value.string r.o, Value.string r.f, Value.int IntKind.i64 r.e, Value.slice A r.rs.length c, Value.slice A' r.ws.length c'] 26)).alloc (Obj.cells #[Value.string { data := #[] }, Value.string { data := #[] }, Value.int IntKind.i64 0, Value.slice none 0 0, Value.slice none 0 0] 26)) w.heap.size r (.slice A r.rs.length c) (.slice A' r.ws.length c') :=
  ⟨_, rfl, by rw [(World.grownBy_alloc _ _ none).block _ (by rw [World.size_alloc]; omega) (by simp)]; exact heap_new _ _ _ rfl⟩
 have hy0 : BoxAt ((w.alloc (Obj.cells #[Value.string r.o, Value.string r.f, Value.int IntKind.i64 r.e, Value.slice A r.rs.length c, Value.slice A' r.ws.length c'] 26)).alloc (Obj.cells #[Value.string { data := #[] }, Value.string { data := #[] }, Value.int IntKind.i64 0, Value.slice none 0 0, Value.slice none 0 0] 26)) (w.heap.size + 1) noRt (.slice none 0 0) (.slice none 0 0) :=
  ⟨_, rfl, heap_new _ _ _ (by rw [World.size_alloc])⟩
 have HA := Lib.hid (asked_call r u A c A' c' _ ⟨HTB.out.below hb0⟩ hs hu (Kd.C_below h1 hb0) h2 (Kd.C_below h3 hb0) h4)
 have HB0 := Lib.hid hb0
 have HX0 := Lib.hid hx0
 have HY0 := Lib.hid hy0
 have HS := Lib.hid hs
 have HC1 := Lib.hid h1
 have HC3 := Lib.hid h3
 clear hb0 hx0 hy0 hs h1 h3
 go_wp2_with fail
 refine HA.out.mono ?_
 rintro e w1 ⟨rfl, hb⟩
 have HB1 := Lib.hid (below_step HB0.out hb)
 have HX1 := Lib.hid (HX0.out.below hb)
 have HY1 := Lib.hid (HY0.out.below hb)
 clear hb HB0 HX0 HY0 HA
 by_cases ha : askedF r u = 0
 ·have hq : rightR r = true ∧ rightN (bytes u) = true := by
   unfold askedF at ha
   cases q1 : rightR r with
   | false => rw [q1] at ha; simp at ha
   | true =>
    cases q2 : rightN (bytes u) with
    | false => rw [q1, q2] at ha; simp at ha
    | true => exact ⟨rfl, rfl⟩
  obtain ⟨hq1, hq2⟩ := hq
  have hp := right_parts hq1
  obtain ⟨x0, x1, x2, x3, x4⟩ := HX1.out.cell
  rw [ha]
  clear ha
  by_cases e1 : u = r.o
  ·have HN : Hid (R.1 = noRt ∧ R.2 = 5) := by
    rw [← HR.out]
    unfold grantF
    rw [if_neg (by rw [hq1]; simp), if_neg (by rw [hq2]; simp), if_pos (Or.inl e1)]
    exact ⟨rfl, rfl⟩
   have hE : (u.toList == r.o.toList) = true := by rw [e1]; simp
   clear e1 hp hq1 hq2
   obtain ⟨y0, y1, y2, y3, y4⟩ := HY1.out.cell
   have z0 := HY1.out.free 0
   have z1 := HY1.out.free 1
   have z2 := HY1.out.free 2
   have z3 := HY1.out.free 3
   have z4 := HY1.out.free 4
   go_wp2
   obtain ⟨cs, hcs, hblk⟩ := HY1.out.put noRt (.slice none 0 0) (.slice none 0 0)
   have hbl := BoxAt.put_below (b := w.heap.size + 1) HB1.out (by omega) noRt (.slice none 0 0) (.slice none 0 0)
   subst hcs
   refine bodyPost_ret (results_ct rfl _ _ (w.heap.size + 1) 26 _ (0, 0) _ rfl hblk Tryd.underlying26 rfl (by kernel_rfl)) rfl ?_
   obtain ⟨R, er⟩ := R
   obtain ⟨rfl, rfl⟩ := (show Hid (R = noRt ∧ er = 5) from HN).out
   exact ⟨_, _, rfl, Kd.R_nil _ _ _ _ _, Kd.R_nil _ _ _ _ _, hbl⟩
  ·have hE : (u.toList == r.o.toList) = false := by rw [is_eq]; exact decide_eq_false e1
   have HO := Lib.hid (other_call r u A c A' c' w1 HS.out (Kd.C_below HC1.out HB1.out) h2 (Kd.C_below HC3.out HB1.out) h4)
   rw [searchB_eq hp.2.2.2.2.1, searchB_eq hp.2.2.2.2.2.1] at HO
   have HP := Lib.hid hp
   have HE1 := Lib.hid e1
   have HQ := Lib.hid (And.intro hq1 hq2)
   clear e1 hp hq1 hq2
   cases hoo : (decide (u ∈ r.rs) || decide (u ∈ r.ws)) with
   | true =>
    rw [hoo] at HO
    have HN : Hid (R.1 = noRt ∧ R.2 = 5) := by
     rw [← HR.out]
     unfold grantF
     rw [if_neg (by rw [HQ.out.1]; simp), if_neg (by rw [HQ.out.2]; simp), if_pos (by simpa [HE1.out] using hoo)]
     exact ⟨rfl, rfl⟩
    clear hoo
    go_wp2_with fail
    refine HO.out.mono ?_
    rintro e w2 ⟨rfl, hb⟩
    have HB2 := Lib.hid (below_step HB1.out hb)
    have HY2 := Lib.hid (HY1.out.below hb)
    clear hb HO HY1 HB1 x0 x1 x2 x3 x4
    obtain ⟨y0, y1, y2, y3, y4⟩ := HY2.out.cell
    have z0 := HY2.out.free 0
    have z1 := HY2.out.free 1
    have z2 := HY2.out.free 2
    have z3 := HY2.out.free 3
    have z4 := HY2.out.free 4
    go_wp2
    obtain ⟨cs, hcs, hblk⟩ := HY2.out.put noRt (.slice none 0 0) (.slice none 0 0)
    have hbl := BoxAt.put_below (b := w.heap.size + 1) HB2.out (by omega) noRt (.slice none 0 0) (.slice none 0 0)
    subst hcs
    refine bodyPost_ret (results_ct rfl _ _ (w.heap.size + 1) 26 _ (0, 0) _ rfl hblk Tryd.underlying26 rfl (by kernel_rfl)) rfl ?_
    obtain ⟨R, er⟩ := R
    obtain ⟨rfl, rfl⟩ := (show Hid (R = noRt ∧ er = 5) from HN).out
    exact ⟨_, _, rfl, Kd.R_nil _ _ _ _ _, Kd.R_nil _ _ _ _ _, hbl⟩
   | false =>
    rw [hoo] at HO
    have hno : u ∉ r.rs ∧ u ∉ r.ws := by simpa using hoo
    have HNO := Lib.hid hno
    clear hoo hno
    go_wp2_with fail
    refine HO.out.mono ?_
    rintro e w2 ⟨rfl, hb⟩
    have HB2 := Lib.hid (below_step HB1.out hb)
    have HY2 := Lib.hid (HY1.out.below hb)
    have HX2 := Lib.hid (HX1.out.below hb)
    clear hb HO HY1 HB1 HX1 x0 x1 x2 x3 x4
    obtain ⟨x0, x1, x2, x3, x4⟩ := HX2.out.cell
    have hlen : r.rs.length + r.ws.length ≤ 5 := HP.out.2.2.2.1
    by_cases h5 : r.rs.length + r.ws.length = 5
    ·have HN : Hid (R.1 = noRt ∧ R.2 = 10) := by
      rw [← HR.out]
      unfold grantF
      rw [if_neg (by rw [HQ.out.1]; simp), if_neg (by rw [HQ.out.2]; simp), if_neg (by rintro (h | h | h); exact HE1.out h; exact HNO.out.1 h; exact HNO.out.2 h), if_pos (by omega)]
      exact ⟨rfl, rfl⟩
     have hge : (r.rs.length : Int) + (r.ws.length : Int) ≥ 5 := by omega
     clear h5
     obtain ⟨y0, y1, y2, y3, y4⟩ := HY2.out.cell
     have z0 := HY2.out.free 0
     have z1 := HY2.out.free 1
     have z2 := HY2.out.free 2
     have z3 := HY2.out.free 3
     have z4 := HY2.out.free 4
     go_wp2
     obtain ⟨cs, hcs, hblk⟩ := HY2.out.put noRt (.slice none 0 0) (.slice none 0 0)
     have hbl := BoxAt.put_below (b := w.heap.size + 1) HB2.out (by omega) noRt (.slice none 0 0) (.slice none 0 0)
     subst hcs
     refine bodyPost_ret (results_ct rfl _ _ (w.heap.size + 1) 26 _ (0, 0) _ rfl hblk Tryd.underlying26 rfl (by kernel_rfl)) rfl ?_
     obtain ⟨R, er⟩ := R
     obtain ⟨rfl, rfl⟩ := (show Hid (R = noRt ∧ er = 10) from HN).out
     exact ⟨_, _, rfl, Kd.R_nil _ _ _ _ _, Kd.R_nil _ _ _ _ _, hbl⟩
    ·have hge : ¬ (r.rs.length : Int) + (r.ws.length : Int) ≥ 5 := by omega
     have hlt5 : r.rs.length + r.ws.length < 5 := by omega
     clear hlen h5
     have l1 : r.rs.length ≤ 1000000 := by omega
     have l2 : r.ws.length ≤ 1000000 := by omega
     go_wp2_with fail
     have HBd := Lib.hid (below_drew HB2.out)
     have HXd : Hid (BoxAt w2.drew w.heap.size r (.slice A r.rs.length c) (.slice A' r.ws.length c')) := HX2.out
     have HYd : Hid (BoxAt w2.drew (w.heap.size + 1) noRt (.slice none 0 0) (.slice none 0 0)) := HY2.out
     go_region_with
      (first
       | (go_at_call 33; (with_reducible refine (clone_any A c r.rs w2.drew (Kd.C_below HC1.out HBd.out) l1).mono ?_); rintro e w3 ⟨v3, rfl, ho3, hb3⟩; obtain ⟨A3, c3, rfl, _⟩ := own_C ho3; have HO3 := Lib.hid ho3; have HB3 := Lib.hid hb3; have HX3 := Lib.hid (HXd.out.below hb3); have HC33 := Lib.hid (Kd.C_below HC3.out (below_step HBd.out hb3)); obtain ⟨_, _, _, p3, p4⟩ := HX3.out.cell; clear ho3 hb3)
       | (go_at_call 33; (with_reducible refine (clone_any A' c' r.ws w3 HC33.out l2).mono ?_); rintro e w4 ⟨v4, rfl, ho4, hb4⟩; obtain ⟨A4, c4, rfl, _⟩ := own_C ho4; have HO4 := Lib.hid ho4; have HB4 := Lib.hid hb4; have HX4 := Lib.hid (HX3.out.below hb4); clear p3 p4; obtain ⟨_, _, _, q3, q4⟩ := HX4.out.cell; have z3 := HX4.out.free 3; have z4 := HX4.out.free 4; clear ho4 hb4))
     all_goals
      have hst := St.start (l3 := r.rs) (l4 := r.ws) HBd.out HXd.out HYd.out HO3.out HB3.out HO4.out HB4.out
      generalize ((w4.setCell ⟨w.heap.size, 3, none⟩ (.slice A3 r.rs.length c3)).setCell ⟨w.heap.size, 4, none⟩ (.slice A4 r.ws.length c4)) = W5 at hst ⊢
      have HST := Lib.hid hst
      clear hst HO3 HB3 HO4 HB4 HX3 HX4 HC33 q3 q4 z3 z4 x0 x1 x2 x3 x4 HBd HXd HYd HB2 HX2 HY2
      obtain ⟨x0, x1, x2, x3, x4⟩ := HST.out.box.cell
      cases wr with
      | false =>
       have HPL := Lib.hid (place_call r.rs u A3 c3 _ W5 l1 HST.out.own3)
       go_wp2_with fail
       refine HPL.out.mono ?_
       rintro e w6 ⟨rfl, hb⟩
       have HS6 := Lib.hid (HST.out.below hb)
       clear hb HPL HST x0 x1 x2 x3 x4
       obtain ⟨x0, x1, x2, x3, x4⟩ := HS6.out.box.cell
       have HIN := insert_any w6 (w.heap.size + 2) (.slice A3 r.rs.length c3) r.rs (searchN r.rs u) u HS6.out.own3 (by obtain ⟨cs, _, h⟩ := HS6.out.res; have := blk_lt h; omega) (search_le HP.out.2.2.2.2.1) l1
       rw [ins_take HP.out.2.2.2.2.1] at HIN
       have HIN := Lib.hid HIN
       go_wp2_with fail
       refine HIN.out.mono ?_
       rintro e w7 ⟨v', rfl, ho7, hg7, hat7⟩
       have HN : Hid (R = (⟨r.o, r.f, r.e, insL r.rs u, r.ws⟩, 0)) := by
        rw [← HR.out]
        unfold grantF
        rw [if_neg (by rw [HQ.out.1]; simp), if_neg (by rw [HQ.out.2]; simp), if_neg (by rintro (h | h | h); exact HE1.out h; exact HNO.out.1 h; exact HNO.out.2 h), if_neg (by omega)]
        rfl
       obtain ⟨A7, c7, rfl, _⟩ := own_C ho7
       have HX7 := Lib.hid (HS6.out.box.grown hg7 (own_not HS6.out.own3 (by omega)))
       have HY7 := Lib.hid (HS6.out.res.grown hg7 (own_not HS6.out.own3 (by omega)))
       have HS7 := Lib.hid (HS6.out.set3 hg7 ho7 hat7)
       clear ho7 hg7 hat7 HIN HS6 x0 x1 x2 x3 x4
       obtain ⟨x0, x1, x2, x3, x4⟩ := HX7.out.cell
       have f3 := HX7.out.free 3
       obtain ⟨y0, y1, y2, y3, y4⟩ := HY7.out.cell
       have z0 := HY7.out.free 0
       have z1 := HY7.out.free 1
       have z2 := HY7.out.free 2
       have z3 := HY7.out.free 3
       have z4 := HY7.out.free 4
       go_wp2
       obtain ⟨cs, hcs, hblk⟩ := HS7.out.res.put ⟨r.o, r.f, r.e, insL r.rs u, r.ws⟩ (.slice A7 (insL r.rs u).length c7) (.slice A4 r.ws.length c4)
       have hbl := BoxAt.put_below (b := w.heap.size + 1) HS7.out.bel (by omega) ⟨r.o, r.f, r.e, insL r.rs u, r.ws⟩ (.slice A7 (insL r.rs u).length c7) (.slice A4 r.ws.length c4)
       subst hcs
       refine bodyPost_ret (results_ct rfl _ _ (w.heap.size + 1) 26 _ (0, 0) _ rfl hblk Tryd.underlying26 rfl (by kernel_rfl)) rfl ?_
       have hrw := HS7.out.fin (.string r.o) (.string r.f) (.int .i64 r.e) (.slice A7 (insL r.rs u).length c7) (.slice A4 r.ws.length c4)
       obtain rfl := HN.out
       exact ⟨_, _, rfl, hrw.1, hrw.2, hbl⟩
      | true =>
       have HPL := Lib.hid (place_call r.ws u A4 c4 _ W5 l2 HST.out.own4)
       go_wp2_with fail
       refine HPL.out.mono ?_
       rintro e w6 ⟨rfl, hb⟩
       have HS6 := Lib.hid (HST.out.below hb)
       clear hb HPL HST x0 x1 x2 x3 x4
       obtain ⟨x0, x1, x2, x3, x4⟩ := HS6.out.box.cell
       have HIN := insert_any w6 (w.heap.size + 2) (.slice A4 r.ws.length c4) r.ws (searchN r.ws u) u HS6.out.own4 (by obtain ⟨cs, _, h⟩ := HS6.out.res; have := blk_lt h; omega) (search_le HP.out.2.2.2.2.2.1) l2
       rw [ins_take HP.out.2.2.2.2.2.1] at HIN
       have HIN := Lib.hid HIN
       go_wp2_with fail
       refine HIN.out.mono ?_
       rintro e w7 ⟨v', rfl, ho7, hg7, hat7⟩
       have HN : Hid (R = (⟨r.o, r.f, r.e, r.rs, insL r.ws u⟩, 0)) := by
        rw [← HR.out]
        unfold grantF
        rw [if_neg (by rw [HQ.out.1]; simp), if_neg (by rw [HQ.out.2]; simp), if_neg (by rintro (h | h | h); exact HE1.out h; exact HNO.out.1 h; exact HNO.out.2 h), if_neg (by omega)]
        rfl
       obtain ⟨A7, c7, rfl, _⟩ := own_C ho7
       have HX7 := Lib.hid (HS6.out.box.grown hg7 (own_not HS6.out.own4 (by omega)))
       have HY7 := Lib.hid (HS6.out.res.grown hg7 (own_not HS6.out.own4 (by omega)))
       have HS7 := Lib.hid (HS6.out.set4 hg7 ho7 hat7)
       clear ho7 hg7 hat7 HIN HS6 x0 x1 x2 x3 x4
       obtain ⟨x0, x1, x2, x3, x4⟩ := HX7.out.cell
       have f3 := HX7.out.free 4
       obtain ⟨y0, y1, y2, y3, y4⟩ := HY7.out.cell
       have z0 := HY7.out.free 0
       have z1 := HY7.out.free 1
       have z2 := HY7.out.free 2
       have z3 := HY7.out.free 3
       have z4 := HY7.out.free 4
       go_wp2
       obtain ⟨cs, hcs, hblk⟩ := HS7.out.res.put ⟨r.o, r.f, r.e, r.rs, insL r.ws u⟩ (.slice A3 r.rs.length c3) (.slice A7 (insL r.ws u).length c7)
       have hbl := BoxAt.put_below (b := w.heap.size + 1) HS7.out.bel (by omega) ⟨r.o, r.f, r.e, r.rs, insL r.ws u⟩ (.slice A3 r.rs.length c3) (.slice A7 (insL r.ws u).length c7)
       subst hcs
       refine bodyPost_ret (results_ct rfl _ _ (w.heap.size + 1) 26 _ (0, 0) _ rfl hblk Tryd.underlying26 rfl (by kernel_rfl)) rfl ?_
       have hrw := HS7.out.fin (.string r.o) (.string r.f) (.int .i64 r.e) (.slice A3 r.rs.length c3) (.slice A7 (insL r.ws u).length c7)
       obtain rfl := HN.out
       exact ⟨_, _, rfl, hrw.1, hrw.2, hbl⟩
 ·have HN : Hid ((R.1 = noRt) ∧ R.2 = askedF r u) := by
   rw [← HR.out]
   unfold grantF
   unfold askedF at ha ⊢
   cases q1 : rightR r with
   | false => exact ⟨rfl, rfl⟩
   | true =>
    cases q2 : rightN (bytes u) with
    | false => exact ⟨rfl, rfl⟩
    | true => rw [q1, q2] at ha; exact absurd rfl ha
  obtain ⟨y0, y1, y2, y3, y4⟩ := HY1.out.cell
  have z0 := HY1.out.free 0
  have z1 := HY1.out.free 1
  have z2 := HY1.out.free 2
  have z3 := HY1.out.free 3
  have z4 := HY1.out.free 4
  generalize askedF r u = ER at *
  have hE1 : ((ER : Int) == 0) = false := by rw [beq_eq_false_iff_ne]; exact ha
  have hE2 : ((ER : Int) != 0) = true := by rw [bne_iff_ne]; exact ha
  clear ha
  go_wp2
  obtain ⟨cs, hcs, hblk⟩ := HY1.out.put noRt (.slice none 0 0) (.slice none 0 0)
  have hbl := BoxAt.put_below (b := w.heap.size + 1) HB1.out (by omega) noRt (.slice none 0 0) (.slice none 0 0)
  subst hcs
  refine bodyPost_ret (results_ct rfl _ _ (w.heap.size + 1) 26 _ (0, 0) _ rfl hblk Tryd.underlying26 rfl (by kernel_rfl)) rfl ?_
  obtain ⟨R, er⟩ := R
  obtain ⟨rfl, rfl⟩ := HN.out
  exact ⟨_, _, rfl, Kd.R_nil _ _ _ _ _, Kd.R_nil _ _ _ _ _, hbl⟩
end Go.Proofs.YtfhanoloaejmkaaDoor
end
section

namespace Go.Proofs.YtfhanoloaejmkaaDoor
open Go.RowKit Go.Proofs.YtfhanoloaejmkaaDoorW.PrintWords Go.Proofs.YtfhanoloaejmkaaDoor.Ref
set_option linter.unusedVariables false
set_option linter.unusedSimpArgs false
structure Bx (w0 W : World) (r : Rt) (v3 v4 : Value) (u : ByteArray) : Prop where
 bel : Below w0.heap.size w0 W
 box : BoxAt W w0.heap.size r v3 v4
 usr : W.heap[w0.heap.size + 1]? = some (.cells #[.string u] 9 (0, 0))
 res : BoxAt W (w0.heap.size + 1 + 1) noRt (.slice none 0 0) (.slice none 0 0)
theorem Bx.below {w0 W W' : World} {r : Rt} {v3 v4 : Value} {u : ByteArray} (h : Bx w0 W r v3 v4 u) (hb : Below W.heap.size W W') : Bx w0 W' r v3 v4 u :=
 ⟨below_step h.bel hb, h.box.below hb, blk_below h.usr hb, h.res.below hb⟩
theorem Bx.size {w0 W : World} {r : Rt} {v3 v4 : Value} {u : ByteArray} (h : Bx w0 W r v3 v4 u) : w0.heap.size + 3 ≤ W.heap.size := by
 obtain ⟨cs, _, hc⟩ := h.res
 have := blk_lt hc
 omega
theorem Bx.grown {w0 W W' : World} {r : Rt} {v3 v4 : Value} {u : ByteArray} {row : Option Nat} (h : Bx w0 W r v3 v4 u) (hg : W.grownBy W' row) (hr : ∀ k, row = some k → w0.heap.size + 3 ≤ k) : Bx w0 W' r v3 v4 u := by
 have hs := h.size
 refine ⟨h.bel.grown hg (by omega) (fun k hk => by have := hr k hk; omega), h.box.grown hg (fun e => by have := hr _ e.symm; omega), blk_grown h.usr hg (fun e => by have := hr _ e.symm; omega), h.res.grown hg (fun e => by have := hr _ e.symm; omega)⟩
theorem Bx.cell {w0 W : World} {r : Rt} {v3 v4 : Value} {u : ByteArray} (h : Bx w0 W r v3 v4 u) : W.cell? ⟨w0.heap.size + 1, 0, none⟩ = some (.string u) := blk_cell h.usr 0
theorem BoxAt.set2 {w : World} {b : Nat} {r : Rt} {v3 v4 : Value} (h : BoxAt w b r v3 v4) (n : Int) : BoxAt (w.setCell ⟨b, 2, none⟩ (.int .i64 n)) b ⟨r.o, r.f, n, r.rs, r.ws⟩ v3 v4 := by
 obtain ⟨cs, rfl, h⟩ := h
 exact ⟨_, rfl, blk_set h 2 _⟩
theorem own_apart {W4 W5 W6 : World} {B : Nat} {v v5 : Value} {l l5 : List ByteArray} (h4 : W4.ownsRow B 9 1 v l.length (strs l)) (h : W5.ownsRow B 9 1 v l.length (strs l)) (h5 : W5.ownsRow W4.heap.size 9 1 v5 l5.length (strs l5)) (hg : W5.grownBy W6 v5.ownBlock) :
  W6.ownsRow B 9 1 v l.length (strs l) ∧ True := by
 refine ⟨own_other h hg ?_, trivial⟩
 cases e : v.ownBlock with
 | none => exact Or.inl rfl
 | some k =>
  refine Or.inr fun e2 => ?_
  have h1 := own_lt h4 k e
  have h2 := own_base h5 k e2.symm
  omega
theorem rows_fin {w0 W : World} {v3 v4 : Value} {l3 l4 : List ByteArray} (o3 : W.ownsRow (w0.heap.size + 3) 9 1 v3 l3.length (strs l3)) (o4 : W.ownsRow (w0.heap.size + 3) 9 1 v4 l4.length (strs l4)) (hap : ∀ k, v3.ownBlock = some k → v4.ownBlock ≠ some k) (p q n a b c d e : Value) :
  Kd.R Kd.string 9 ((((((((W.setCell ⟨w0.heap.size, 3, none⟩ p).setCell ⟨w0.heap.size, 4, none⟩ q).setCell ⟨w0.heap.size, 2, none⟩ n).setCell ⟨w0.heap.size + 1 + 1, 0, none⟩ a).setCell ⟨w0.heap.size + 1 + 1, 1, none⟩ b).setCell ⟨w0.heap.size + 1 + 1, 2, none⟩ c).setCell ⟨w0.heap.size + 1 + 1, 3, none⟩ d).setCell ⟨w0.heap.size + 1 + 1, 4, none⟩ e) w0.heap.size (fun k_ => some k_ ≠ (v4 : Value).ownBlock) v3 l3 ∧
   Kd.R Kd.string 9 ((((((((W.setCell ⟨w0.heap.size, 3, none⟩ p).setCell ⟨w0.heap.size, 4, none⟩ q).setCell ⟨w0.heap.size, 2, none⟩ n).setCell ⟨w0.heap.size + 1 + 1, 0, none⟩ a).setCell ⟨w0.heap.size + 1 + 1, 1, none⟩ b).setCell ⟨w0.heap.size + 1 + 1, 2, none⟩ c).setCell ⟨w0.heap.size + 1 + 1, 3, none⟩ d).setCell ⟨w0.heap.size + 1 + 1, 4, none⟩ e) w0.heap.size (fun k_ => some k_ ≠ (v3 : Value).ownBlock) v4 l4 := by
 have q1 : w0.heap.size < w0.heap.size + 3 := by omega
 have q2 : w0.heap.size + 1 + 1 < w0.heap.size + 3 := by omega
 have go : ∀ {v : Value} {l : List ByteArray}, W.ownsRow (w0.heap.size + 3) 9 1 v l.length (strs l) → ((((((((W.setCell ⟨w0.heap.size, 3, none⟩ p).setCell ⟨w0.heap.size, 4, none⟩ q).setCell ⟨w0.heap.size, 2, none⟩ n).setCell ⟨w0.heap.size + 1 + 1, 0, none⟩ a).setCell ⟨w0.heap.size + 1 + 1, 1, none⟩ b).setCell ⟨w0.heap.size + 1 + 1, 2, none⟩ c).setCell ⟨w0.heap.size + 1 + 1, 3, none⟩ d).setCell ⟨w0.heap.size + 1 + 1, 4, none⟩ e).ownsRow w0.heap.size 9 1 v l.length (strs l) := fun h =>
  own_weaken (own_set (own_set (own_set (own_set (own_set (own_set (own_set (own_set h q1 p) q1 q) q1 n) q2 a) q2 b) q2 c) q2 d) q2 e) (by omega)
 exact ⟨Kd.R_of_own (go o3) (fun k hk e => hap k hk e.symm), Kd.R_of_own (go o4) (fun k hk e => hap k e.symm hk)⟩
set_option maxHeartbeats 4000000 in
set_option maxRecDepth 100000 in
theorem revoke_any (r : Rt) (u : ByteArray) (A : Option Addr) (c : Nat) (A' : Option Addr) (c' : Nat) (w : World) (HTB : Aside0 (Tabs w)) (hs : smallR r = true) (hu : u.size ≤ 1000000) (h1 : Kd.C Kd.string w A r.rs.length r.rs) (h2 : r.rs.length ≤ c) (h3 : Kd.C Kd.string w A' r.ws.length r.ws) (h4 : r.ws.length ≤ c') :
  Calls Tryd.prog 15 #[.agg #[.string r.o, .string r.f, .int .i64 r.e, .slice A r.rs.length c, .slice A' r.ws.length c'], .string u] w fun e w' => ∃ v3_ v4_ : Value, e = .returned (.tuple #[.agg #[.string (revokeF r u).1.o, .string (revokeF r u).1.f, .int .i64 (revokeF r u).1.e, v3_, v4_], .int .i64 (revokeF r u).2]) ∧ Kd.R Kd.string 9 w' w.heap.size (fun k_ => some k_ ≠ (v4_ : Value).ownBlock) v3_ (revokeF r u).1.rs ∧ Kd.R Kd.string 9 w' w.heap.size (fun k_ => some k_ ≠ (v3_ : Value).ownBlock) v4_ (revokeF r u).1.ws ∧ Below w.heap.size w w' := by
 obtain ⟨R, hR⟩ : ∃ R, revokeF r u = R := ⟨_, rfl⟩
 rw [hR]
 have HR := Lib.hid hR
 clear hR
 go_enter Tryd.func15, Tryd.ntmps15
 have hb0 : Bx w (((w.alloc (Obj.cells #[Value.string r.o, Value.string r.f, Value.int IntKind.i64 r.e, Value.slice A r.rs.length c, Value.slice A' r.ws.length c'] 26)).alloc (Obj.cells #[Value.string u] 9)).alloc (Obj.cells #[Value.string { data := #[] }, Value.string { data := #[] }, Value.int IntKind.i64 0, Value.slice none 0 0, Value.slice none 0 0] 26)) r (.slice A r.rs.length c) (.slice A' r.ws.length c') u := by
  refine ⟨below_alloc (below_alloc (below_alloc (Below.refl _ _) _) _) _, ⟨_, rfl, ?_⟩, ?_, ⟨_, rfl, ?_⟩⟩
  ·rw [(World.grownBy_alloc _ _ none).block _ (by rw [World.size_alloc, World.size_alloc]; omega) (by simp), (World.grownBy_alloc _ _ none).block _ (by rw [World.size_alloc]; omega) (by simp)]
   exact heap_new _ _ _ rfl
  ·rw [(World.grownBy_alloc _ _ none).block _ (by rw [World.size_alloc, World.size_alloc]; omega) (by simp)]
   exact heap_new _ _ _ (by rw [World.size_alloc])
  ·exact heap_new _ _ _ (by rw [World.size_alloc, World.size_alloc])
 have HA := Lib.hid (asked_call r u A c A' c' _ ⟨HTB.out.below hb0.bel⟩ hs hu (Kd.C_below h1 hb0.bel) h2 (Kd.C_below h3 hb0.bel) h4)
 have HB0 := Lib.hid hb0
 have HS := Lib.hid hs
 have HC1 := Lib.hid h1
 have HC3 := Lib.hid h3
 clear hb0 hs h1 h3
 go_wp2_with fail
 refine HA.out.mono ?_
 rintro e w1 ⟨rfl, hb⟩
 have HB1 := Lib.hid (HB0.out.below hb)
 clear hb HB0 HA
 by_cases ha : askedF r u = 0
 ·have hq : rightR r = true ∧ rightN (bytes u) = true := by
   unfold askedF at ha
   cases q1 : rightR r with
   | false => rw [q1] at ha; simp at ha
   | true =>
    cases q2 : rightN (bytes u) with
    | false => rw [q1, q2] at ha; simp at ha
    | true => exact ⟨rfl, rfl⟩
  obtain ⟨hq1, hq2⟩ := hq
  have hp := right_parts hq1
  obtain ⟨x0, x1, x2, x3, x4⟩ := HB1.out.box.cell
  have x5 := HB1.out.cell
  rw [ha]
  clear ha
  have HO := Lib.hid (other_call r u A c A' c' w1 HS.out (Kd.C_below HC1.out HB1.out.bel) h2 (Kd.C_below HC3.out HB1.out.bel) h4)
  rw [searchB_eq hp.2.2.2.2.1, searchB_eq hp.2.2.2.2.2.1] at HO
  have HP := Lib.hid hp
  have HQ := Lib.hid (And.intro hq1 hq2)
  clear hp hq1 hq2
  cases hoo : (decide (u ∈ r.rs) || decide (u ∈ r.ws)) with
  | false =>
   rw [hoo] at HO
   have hno : u ∉ r.rs ∧ u ∉ r.ws := by simpa using hoo
   have HN : Hid (R.1 = noRt ∧ R.2 = 4) := by
    rw [← HR.out]
    unfold revokeF
    rw [if_neg (by rw [HQ.out.1]; simp), if_neg (by rw [HQ.out.2]; simp), if_pos (by rintro (h | h); exact hno.1 h; exact hno.2 h)]
    exact ⟨rfl, rfl⟩
   clear hoo hno
   go_wp2_with fail
   refine HO.out.mono ?_
   rintro e w2 ⟨rfl, hb⟩
   have HB2 := Lib.hid (HB1.out.below hb)
   clear hb HO HB1 x0 x1 x2 x3 x4 x5
   obtain ⟨y0, y1, y2, y3, y4⟩ := HB2.out.res.cell
   have z0 := HB2.out.res.free 0
   have z1 := HB2.out.res.free 1
   have z2 := HB2.out.res.free 2
   have z3 := HB2.out.res.free 3
   have z4 := HB2.out.res.free 4
   go_wp2
   obtain ⟨cs, hcs, hblk⟩ := HB2.out.res.put noRt (.slice none 0 0) (.slice none 0 0)
   have hbl := BoxAt.put_below (b := w.heap.size + 1 + 1) HB2.out.bel (by omega) noRt (.slice none 0 0) (.slice none 0 0)
   subst hcs
   refine bodyPost_ret (results_ct rfl _ _ (w.heap.size + 1 + 1) 26 _ (0, 0) _ rfl hblk Tryd.underlying26 rfl (by kernel_rfl)) rfl ?_
   obtain ⟨R, er⟩ := R
   obtain ⟨rfl, rfl⟩ := (show Hid (R = noRt ∧ er = 4) from HN).out
   exact ⟨_, _, rfl, Kd.R_nil _ _ _ _ _, Kd.R_nil _ _ _ _ _, hbl⟩
  | true =>
   rw [hoo] at HO
   have hno : u ∈ r.rs ∨ u ∈ r.ws := by simpa using hoo
   have HNO := Lib.hid hno
   clear hoo hno
   go_wp2_with fail
   refine HO.out.mono ?_
   rintro e w2 ⟨rfl, hb⟩
   have HB2 := Lib.hid (HB1.out.below hb)
   clear hb HO HB1 x0 x1 x2 x3 x4 x5
   obtain ⟨x0, x1, x2, x3, x4⟩ := HB2.out.box.cell
   have x5 := HB2.out.cell
   have he0 : 0 ≤ r.e := HP.out.2.2.1.1
   have he1 : r.e ≤ 7 := HP.out.2.2.1.2
   by_cases h7 : r.e = 7
   ·have HN : Hid (R.1 = noRt ∧ R.2 = 9) := by
     rw [← HR.out]
     unfold revokeF
     rw [if_neg (by rw [HQ.out.1]; simp), if_neg (by rw [HQ.out.2]; simp), if_neg (fun h => h HNO.out), if_pos h7]
     exact ⟨rfl, rfl⟩
    have h7b : (r.e == 7) = true := by rw [h7]; rfl
    clear h7
    obtain ⟨y0, y1, y2, y3, y4⟩ := HB2.out.res.cell
    have z0 := HB2.out.res.free 0
    have z1 := HB2.out.res.free 1
    have z2 := HB2.out.res.free 2
    have z3 := HB2.out.res.free 3
    have z4 := HB2.out.res.free 4
    go_wp2
    obtain ⟨cs, hcs, hblk⟩ := HB2.out.res.put noRt (.slice none 0 0) (.slice none 0 0)
    have hbl := BoxAt.put_below (b := w.heap.size + 1 + 1) HB2.out.bel (by omega) noRt (.slice none 0 0) (.slice none 0 0)
    subst hcs
    refine bodyPost_ret (results_ct rfl _ _ (w.heap.size + 1 + 1) 26 _ (0, 0) _ rfl hblk Tryd.underlying26 rfl (by kernel_rfl)) rfl ?_
    obtain ⟨R, er⟩ := R
    obtain ⟨rfl, rfl⟩ := (show Hid (R = noRt ∧ er = 9) from HN).out
    exact ⟨_, _, rfl, Kd.R_nil _ _ _ _ _, Kd.R_nil _ _ _ _ _, hbl⟩
   ·have h7b : (r.e == 7) = false := by rw [beq_eq_false_iff_ne]; exact h7
    have HN : Hid (R = (⟨r.o, r.f, r.e + 1, dropL r.rs u, dropL r.ws u⟩, 0)) := by
     rw [← HR.out]
     unfold revokeF
     rw [if_neg (by rw [HQ.out.1]; simp), if_neg (by rw [HQ.out.2]; simp), if_neg (fun h => h HNO.out), if_neg h7]
     exact Lib.hid rfl
    clear h7
    have l1 : r.rs.length ≤ 1000000 := by have := HP.out.2.2.2.1; omega
    have l2 : r.ws.length ≤ 1000000 := by have := HP.out.2.2.2.1; omega
    have HBd : Hid (Bx w w2.drew r (.slice A r.rs.length c) (.slice A' r.ws.length c') u) := Lib.hid ⟨below_drew HB2.out.bel, HB2.out.box, HB2.out.usr, HB2.out.res⟩
    go_wp2_with fail
    go_region_with
     (first
      | (go_at_call 33; (with_reducible refine (clone_any A c r.rs w2.drew (Kd.C_below HC1.out HBd.out.bel) l1).mono ?_); rintro e w3 ⟨v3, rfl, ho3, hb3⟩; obtain ⟨A3, c3, rfl, _⟩ := own_C ho3; have HB3 := Lib.hid (HBd.out.below hb3); have HO3 := Lib.hid (own_weaken ho3 HBd.out.size); obtain ⟨_, _, _, p3, p4⟩ := HB3.out.box.cell; have p5 := HB3.out.cell; clear ho3 hb3)
      | (go_at_call 37; (with_reducible refine (delete_any w3 (w.heap.size + 3) (w.heap.size + 1) (.slice A3 r.rs.length c3) r.rs u HO3.out l1 HB3.out.cell (own_not HO3.out (by omega))).mono ?_); rintro e w4 ⟨v4, rfl, ho4, hg4, hs4⟩; obtain ⟨A4, c4, rfl, _⟩ := own_C ho4; have HB4 := Lib.hid (HB3.out.grown hg4 (fun k hk => own_base HO3.out k hk)); have HO4 := Lib.hid ho4; have HC34 := Lib.hid (Kd.C_below HC3.out HB4.out.bel); clear p3 p4 p5; obtain ⟨_, _, _, q3, q4⟩ := HB4.out.box.cell; have q5 := HB4.out.cell; clear ho4 hg4 hs4)
      | (go_at_call 33; (with_reducible refine (clone_any A' c' r.ws w4 HC34.out l2).mono ?_); rintro e w5 ⟨v5, rfl, ho5, hb5⟩; obtain ⟨A5, c5, rfl, _⟩ := own_C ho5; have HB5 := Lib.hid (HB4.out.below hb5); have HO45 := Lib.hid (pw_own_below HO4.out hb5); have HO5 := Lib.hid ho5; have HW5 := Lib.hid hb5.size; clear q3 q4 q5; obtain ⟨_, _, _, s3, s4⟩ := HB5.out.box.cell; have s5 := HB5.out.cell; clear ho5 hb5)
      | (go_at_call 37; (with_reducible refine (delete_any w5 w4.heap.size (w.heap.size + 1) (.slice A5 r.ws.length c5) r.ws u HO5.out l2 HB5.out.cell (own_not HO5.out (by have := HB4.out.size; omega))).mono ?_); rintro e w6 ⟨v6, rfl, ho6, hg6, hs6⟩; obtain ⟨A6, c6, rfl, _⟩ := own_C ho6; have HB6 := Lib.hid (HB5.out.grown hg6 (fun k hk => by have := own_base HO5.out k hk; have := HB4.out.size; omega)); have HO6 := Lib.hid ho6; have HO46 := Lib.hid (own_apart HO4.out HO45.out HO5.out hg6); clear s3 s4 s5; obtain ⟨t0, t1, t2, t3, t4⟩ := HB6.out.box.cell; have f2 := HB6.out.box.free 2; have f3 := HB6.out.box.free 3; have f4 := HB6.out.box.free 4; clear ho6 hg6 hs6))
    all_goals
     obtain ⟨y0, y1, y2, y3, y4⟩ := HB6.out.res.cell
     have z0 := HB6.out.res.free 0
     have z1 := HB6.out.res.free 1
     have z2 := HB6.out.res.free 2
     have z3 := HB6.out.res.free 3
     have z4 := HB6.out.res.free 4
     go_wp2
     have hres := (((HB6.out.res.far (p := ⟨w.heap.size, 3, none⟩) (by show _ ≠ w.heap.size; omega) (.slice A4 (dropL r.rs u).length c4)).far (p := ⟨w.heap.size, 4, none⟩) (by show _ ≠ w.heap.size; omega) (.slice A6 (dropL r.ws u).length c6)).far (p := ⟨w.heap.size, 2, none⟩) (by show _ ≠ w.heap.size; omega) (.int .i64 (r.e + 1)))
     have hbel := ((HB6.out.bel.setCell (p := ⟨w.heap.size, 3, none⟩) (Nat.le_refl _) (.slice A4 (dropL r.rs u).length c4)).setCell (p := ⟨w.heap.size, 4, none⟩) (Nat.le_refl _) (.slice A6 (dropL r.ws u).length c6)).setCell (p := ⟨w.heap.size, 2, none⟩) (Nat.le_refl _) (.int .i64 (r.e + 1))
     obtain ⟨cs, hcs, hblk⟩ := hres.put ⟨r.o, r.f, r.e + 1, [], []⟩ (.slice A4 (dropL r.rs u).length c4) (.slice A6 (dropL r.ws u).length c6)
     have hbl := BoxAt.put_below (b := w.heap.size + 1 + 1) hbel (by omega) ⟨r.o, r.f, r.e + 1, [], []⟩ (.slice A4 (dropL r.rs u).length c4) (.slice A6 (dropL r.ws u).length c6)
     subst hcs
     refine bodyPost_ret (results_ct rfl _ _ (w.heap.size + 1 + 1) 26 _ (0, 0) _ rfl hblk Tryd.underlying26 rfl (by kernel_rfl)) rfl ?_
     have hrw := rows_fin (w0 := w) HO46.out.1 (own_weaken HO6.out HB4.out.size) (fun k hk e => by have h1 := own_base HO6.out k e; have h2 := own_lt HO4.out k hk; omega) (.slice A4 (dropL r.rs u).length c4) (.slice A6 (dropL r.ws u).length c6) (.int .i64 (r.e + 1)) (.string r.o) (.string r.f) (.int .i64 (r.e + 1)) (.slice A4 (dropL r.rs u).length c4) (.slice A6 (dropL r.ws u).length c6)
     obtain rfl := HN.out
     exact ⟨_, _, rfl, hrw.1, hrw.2, hbl⟩
 ·have HN : Hid ((R.1 = noRt) ∧ R.2 = askedF r u) := by
   rw [← HR.out]
   unfold revokeF
   unfold askedF at ha ⊢
   cases q1 : rightR r with
   | false => exact ⟨rfl, rfl⟩
   | true =>
    cases q2 : rightN (bytes u) with
    | false => exact ⟨rfl, rfl⟩
    | true => rw [q1, q2] at ha; exact absurd rfl ha
  generalize askedF r u = ER at *
  have hE1 : ((ER : Int) == 0) = false := by rw [beq_eq_false_iff_ne]; exact ha
  have hE2 : ((ER : Int) != 0) = true := by rw [bne_iff_ne]; exact ha
  clear ha
  obtain ⟨y0, y1, y2, y3, y4⟩ := HB1.out.res.cell
  have z0 := HB1.out.res.free 0
  have z1 := HB1.out.res.free 1
  have z2 := HB1.out.res.free 2
  have z3 := HB1.out.res.free 3
  have z4 := HB1.out.res.free 4
  go_wp2
  obtain ⟨cs, hcs, hblk⟩ := HB1.out.res.put noRt (.slice none 0 0) (.slice none 0 0)
  have hbl := BoxAt.put_below (b := w.heap.size + 1 + 1) HB1.out.bel (by omega) noRt (.slice none 0 0) (.slice none 0 0)
  subst hcs
  refine bodyPost_ret (results_ct rfl _ _ (w.heap.size + 1 + 1) 26 _ (0, 0) _ rfl hblk Tryd.underlying26 rfl (by kernel_rfl)) rfl ?_
  obtain ⟨R, er⟩ := R
  obtain ⟨rfl, rfl⟩ := (show Hid (R = noRt ∧ er = ER) from HN).out
  exact ⟨_, _, rfl, Kd.R_nil _ _ _ _ _, Kd.R_nil _ _ _ _ _, hbl⟩
end Go.Proofs.YtfhanoloaejmkaaDoor
end
section

section
namespace Go.Proofs.YtfhanoloaejmkaaDoor
open Go.RowKit Go.Proofs.YtfhanoloaejmkaaDoorW.PrintWords Go.Proofs.YtfhanoloaejmkaaDoor.Ref
set_option linter.unusedVariables false
set_option linter.unusedSimpArgs false
structure RowsAt (w : World) (B : Nat) (r : Rt) (A : Option Addr) (c : Nat) (A' : Option Addr) (c' : Nat) : Prop where
 h1 : Kd.C Kd.string w A r.rs.length r.rs
 h2 : r.rs.length ≤ c
 h3 : Kd.C Kd.string w A' r.ws.length r.ws
 h4 : r.ws.length ≤ c'
 h5 : ∀ ad, A = some ad → B ≤ ad.block
 h6 : ∀ ad, A' = some ad → B ≤ ad.block
theorem RowsAt.below {w w1 : World} {B : Nat} {r : Rt} {A : Option Addr} {c : Nat} {A' : Option Addr} {c' : Nat} (h : RowsAt w B r A c A' c') (hb : Below w.heap.size w w1) : RowsAt w1 B r A c A' c' :=
 ⟨Kd.C_below h.h1 hb, h.h2, Kd.C_below h.h3 hb, h.h4, h.h5, h.h6⟩
theorem RowsAt.lower {w : World} {B B' : Nat} {r : Rt} {A : Option Addr} {c : Nat} {A' : Option Addr} {c' : Nat} (h : RowsAt w B r A c A' c') (hb : B' ≤ B) : RowsAt w B' r A c A' c' :=
 ⟨h.h1, h.h2, h.h3, h.h4, fun ad e => Nat.le_trans hb (h.h5 ad e), fun ad e => Nat.le_trans hb (h.h6 ad e)⟩
theorem C_far {w : World} {A : Option Addr} {l : List ByteArray} (h : Kd.C Kd.string w A l.length l) {p : Addr} (hp : ∀ ad, A = some ad → ad.block ≠ p.block) (u : Value) : Kd.C Kd.string (w.setCell p u) A l.length l := by
 refine ⟨h.1, h.2.1, fun hn => ?_⟩
 obtain ⟨ad, rfl, hc⟩ := h.2.2 hn
 refine ⟨ad, rfl, fun j q hj => ?_⟩
 obtain ⟨cs, hl, hK, hz⟩ := hc j q hj
 refine ⟨cs, hl, hK, fun i x hx => ?_⟩
 rw [← hz i x hx]
 refine World.cell?_of_block (Below.heap_setCell w p u _ ?_)
 rw [add_block]
 exact hp ad rfl
theorem RowsAt.far {w : World} {B : Nat} {r : Rt} {A : Option Addr} {c : Nat} {A' : Option Addr} {c' : Nat} (h : RowsAt w B r A c A' c') {p : Addr} (hp : p.block < B) (u : Value) : RowsAt (w.setCell p u) B r A c A' c' :=
 ⟨C_far h.h1 (fun ad e => by have := h.h5 ad e; omega) u, h.h2, C_far h.h3 (fun ad e => by have := h.h6 ad e; omega) u, h.h4, h.h5, h.h6⟩
theorem RowsAt.put {w : World} {B b : Nat} {r : Rt} {A : Option Addr} {c : Nat} {A' : Option Addr} {c' : Nat} (h : RowsAt w B r A c A' c') (hp : b < B) (a1 a2 a3 a4 a5 : Value) :
  RowsAt (((((w.setCell ⟨b, 0, none⟩ a1).setCell ⟨b, 1, none⟩ a2).setCell ⟨b, 2, none⟩ a3).setCell ⟨b, 3, none⟩ a4).setCell ⟨b, 4, none⟩ a5) B r A c A' c' :=
 ((((h.far (p := ⟨b, 0, none⟩) hp a1).far (p := ⟨b, 1, none⟩) hp a2).far (p := ⟨b, 2, none⟩) hp a3).far (p := ⟨b, 3, none⟩) hp a4).far (p := ⟨b, 4, none⟩) hp a5
theorem C_nil (w : World) : Kd.C Kd.string w none ([] : List ByteArray).length [] := ⟨rfl, by simp, fun h => absurd h (Nat.lt_irrefl 0)⟩
theorem RowsAt.no (w : World) (B : Nat) : RowsAt w B noRt none 0 none 0 := ⟨C_nil w, Nat.le_refl _, C_nil w, Nat.le_refl _, (fun _ e => by cases e), (fun _ e => by cases e)⟩
theorem RowsAt.nil (w : World) (B : Nat) (o f : ByteArray) (e : Int) : RowsAt w B ⟨o, f, e, [], []⟩ none 0 none 0 := ⟨C_nil w, Nat.le_refl _, C_nil w, Nat.le_refl _, (fun _ e => by cases e), (fun _ e => by cases e)⟩
def Told (w : World) (R : Rt × Int) (e : Ending) (w' : World) : Prop := ∃ A c A' c', e = .returned (.tuple #[.agg #[.string R.1.o, .string R.1.f, .int .i64 R.1.e, .slice A R.1.rs.length c, .slice A' R.1.ws.length c'], .int .i64 R.2]) ∧ RowsAt w' w.heap.size R.1 A c A' c' ∧ Below w.heap.size w w'
theorem told_of {w : World} {R : Rt × Int} {e : Ending} {w' : World} {ok1 ok2 : Nat → Prop} {v3 v4 : Value} (he : e = .returned (.tuple #[.agg #[.string R.1.o, .string R.1.f, .int .i64 R.1.e, v3, v4], .int .i64 R.2])) (h3 : Kd.R Kd.string 9 w' w.heap.size ok1 v3 R.1.rs) (h4 : Kd.R Kd.string 9 w' w.heap.size ok2 v4 R.1.ws) (hb : Below w.heap.size w w') : Told w R e w' := by
 obtain ⟨A, c, rfl, a1, a2⟩ := Kd.R_reads h3
 obtain ⟨A', c', rfl, b1, b2⟩ := Kd.R_reads h4
 obtain ⟨_, inner, ho, _⟩ := h3
 obtain ⟨_, inner', ho', _⟩ := h4
 exact ⟨A, c, A', c', he, ⟨a2, a1, b2, b1, fun ad e => own_base ho ad.block (by rw [e]; rfl), fun ad e => own_base ho' ad.block (by rw [e]; rfl)⟩, hb⟩
theorem grant_call (r : Rt) (u : ByteArray) (wr : Bool) (A : Option Addr) (c : Nat) (A' : Option Addr) (c' : Nat) (w : World) (HTB : Aside0 (Tabs w)) (hs : smallR r = true) (hu : u.size ≤ 1000000) {B : Nat} (h : RowsAt w B r A c A' c') :
  Calls Tryd.prog 14 #[.agg #[.string r.o, .string r.f, .int .i64 r.e, .slice A r.rs.length c, .slice A' r.ws.length c'], .string u, .bool wr] w (Told w (grantF r u wr)) :=
 (grant_any r u wr A c A' c' w HTB hs hu h.h1 h.h2 h.h3 h.h4).mono fun e w' ⟨v3, v4, he, h3, h4, hb⟩ => told_of he h3 h4 hb
theorem revoke_call (r : Rt) (u : ByteArray) (A : Option Addr) (c : Nat) (A' : Option Addr) (c' : Nat) (w : World) (HTB : Aside0 (Tabs w)) (hs : smallR r = true) (hu : u.size ≤ 1000000) {B : Nat} (h : RowsAt w B r A c A' c') :
  Calls Tryd.prog 15 #[.agg #[.string r.o, .string r.f, .int .i64 r.e, .slice A r.rs.length c, .slice A' r.ws.length c'], .string u] w (Told w (revokeF r u)) :=
 (revoke_any r u A c A' c' w HTB hs hu h.h1 h.h2 h.h3 h.h4).mono fun e w' ⟨v3, v4, he, h3, h4, hb⟩ => told_of he h3 h4 hb
theorem fixed_C {w : World} {A : Option Addr} {l : List ByteArray} {c : Nat} (h : Kd.C Kd.string w A l.length l) (hc : l.length ≤ c) (B : Nat) : Kd.V Kd.string 9 w B (fun k => k < w.heap.size) (.slice A l.length c) l := by
 exact Kd.V_mk hc (Kd.C_F Kd.heap_string h)
theorem right_call (r : Rt) (A : Option Addr) (c : Nat) (A' : Option Addr) (c' : Nat) (w : World) (HTB : Aside0 (Tabs w)) (hs : smallR r = true) {B : Nat} (h : RowsAt w B r A c A' c') :
  Calls Tryd.prog 17 #[.agg #[.string r.o, .string r.f, .int .i64 r.e, .slice A r.rs.length c, .slice A' r.ws.length c']] w fun e w' => e = .returned (.bool (rightR r)) ∧ Below w.heap.size w w' := by
 obtain ⟨K, hk⟩ := right_ev r hs
 exact PB.rights_Right.calls K r.o r.f r.e _ A c r.rs _ A' c' r.ws _ w HTB (fixed_C h.h1 h.h2 _) (fixed_C h.h3 h.h4 _) (hk K (Nat.le_refl _))
theorem boxAt_new (w : World) (r : Rt) (v3 v4 : Value) : BoxAt (w.alloc (Obj.cells #[Value.string r.o, Value.string r.f, Value.int IntKind.i64 r.e, v3, v4] 26)) w.heap.size r v3 v4 := ⟨_, rfl, heap_new _ _ _ rfl⟩
theorem has_call (l : List ByteArray) (u : ByteArray) (A : Option Addr) (c : Nat) (w : World) (hl : l.length ≤ 1000000) (hr : risesL l = true) (h1 : Kd.C Kd.string w A l.length l) (h2 : l.length ≤ c) :
  Calls Tryd.prog 38 #[.slice A l.length c, .string u] w fun e w' => e = .returned (.bool (decide (u ∈ l))) ∧ Below w.heap.size w w' := by
 have h := has_val l u (by omega)
 rw [searchB_eq hr] at h
 exact (PB.rights_has_string.calls A c l u _ w h1 h2 h).mono fun e w' h => ⟨h.1, by first | exact h.2 | exact h.2.below⟩
set_option maxHeartbeats 4000000 in
set_option maxRecDepth 100000 in
theorem can_call (r : Rt) (u : ByteArray) (wr : Bool) (A : Option Addr) (c : Nat) (A' : Option Addr) (c' : Nat) (w : World) (HTB : Aside0 (Tabs w)) (hs : smallR r = true) {B : Nat} (h : RowsAt w B r A c A' c') :
  Calls Tryd.prog 16 #[.agg #[.string r.o, .string r.f, .int .i64 r.e, .slice A r.rs.length c, .slice A' r.ws.length c'], .string u, .bool wr] w fun e w' => e = .returned (.bool (canF r u wr)) ∧ Below w.heap.size w w' := by
 have hsm := small_parts hs
 have hb0 : Below w.heap.size w (w.alloc (Obj.cells #[Value.string r.o, Value.string r.f, Value.int IntKind.i64 r.e, .slice A r.rs.length c, .slice A' r.ws.length c'] 26)) := below_alloc (Below.refl _ _) _
 have HX := Lib.hid (boxAt_new w r (.slice A r.rs.length c) (.slice A' r.ws.length c'))
 have HR := Lib.hid (h.below hb0)
 have HG := Lib.hid (right_call r A c A' c' _ ⟨HTB.out.below hb0⟩ hs (h.below hb0))
 have HB := Lib.hid hb0
 have l1 : r.rs.length ≤ 1000000 := by omega
 have l2 : r.ws.length ≤ 1000000 := by omega
 clear hb0 h hs hsm
 go_enter Tryd.func16, Tryd.ntmps16
 obtain ⟨x0, x1, x2, x3, x4⟩ := HX.out.cell
 cases q : rightR r with
 | false =>
  have HV : Hid (canF r u wr = false) := Lib.hid (by unfold canF; rw [q]; rfl)
  rw [q] at HG
  clear q
  go_wp2_with fail
  refine HG.out.mono ?_
  rintro e w1 ⟨rfl, hb⟩
  replace HB := Lib.hid (below_step HB.out hb)
  clear hb x0 x1 x2 x3 x4
  go_wp2
  go_ret
  exact ⟨by rw [HV.out]; rfl, HB.out⟩
 | true =>
  have hp := right_parts q
  have HW := Lib.hid (fun (W : World) (h : RowsAt W B r A c A' c') => has_call r.ws u A' c' W l2 hp.2.2.2.2.2.1 h.h3 h.h4)
  have HS := Lib.hid (fun (W : World) (h : RowsAt W B r A c A' c') => has_call r.rs u A c W l1 hp.2.2.2.2.1 h.h1 h.h2)
  have HV : Hid (canF r u wr = (decide (u = r.o) || decide (u ∈ r.ws) || !wr && decide (u ∈ r.rs))) := Lib.hid (by unfold canF; rw [q, Bool.true_and])
  rw [q] at HG
  clear q hp
  go_wp2_with fail
  refine HG.out.mono ?_
  rintro e w1 ⟨rfl, hb⟩
  replace HB := Lib.hid (below_step HB.out hb)
  replace HX := Lib.hid (HX.out.below hb)
  replace HR := Lib.hid (HR.out.below hb)
  clear hb x0 x1 x2 x3 x4 HG
  obtain ⟨x0, x1, x2, x3, x4⟩ := HX.out.cell
  by_cases c1 : u = r.o
  ·have hE : (u.toList == r.o.toList) = true := by rw [c1]; simp
   have HV2 : Hid (canF r u wr = true) := Lib.hid (by rw [HV.out, decide_eq_true c1]; rfl)
   clear c1
   go_wp2
   go_ret
   exact ⟨by rw [HV2.out]; rfl, HB.out⟩
  ·have hE : (u.toList == r.o.toList) = false := by rw [is_eq]; exact decide_eq_false c1
   rw [decide_eq_false c1, Bool.false_or] at HV
   clear c1
   go_wp2_with fail
   refine (HW.out _ HR.out).mono ?_
   rintro e w2 ⟨rfl, hb⟩
   replace HB := Lib.hid (below_step HB.out hb)
   replace HX := Lib.hid (HX.out.below hb)
   replace HR := Lib.hid (HR.out.below hb)
   clear hb x0 x1 x2 x3 x4 HW
   obtain ⟨x0, x1, x2, x3, x4⟩ := HX.out.cell
   generalize decide (u ∈ r.ws) = b1 at HV ⊢
   generalize decide (u ∈ r.rs) = b2 at HV HS
   cases b1 with
   | true =>
    go_wp2
    go_ret
    exact ⟨by rw [HV.out]; rfl, HB.out⟩
   | false =>
    cases wr with
    | true =>
     go_wp2
     go_ret
     exact ⟨by rw [HV.out]; rfl, HB.out⟩
    | false =>
     go_wp2_with fail
     refine (HS.out _ HR.out).mono ?_
     rintro e w3 ⟨rfl, hb⟩
     replace HB := Lib.hid (below_step HB.out hb)
     clear hb x0 x1 x2 x3 x4 HX HR HS
     go_wp2
     go_ret
     exact ⟨by rw [HV.out]; cases b2 <;> rfl, HB.out⟩
theorem nameRight_call (s : ByteArray) (w : World) (HTB : Aside0 (Tabs w)) (h : s.size ≤ 1000000) : Calls Tryd.prog 21 #[.string s] w fun e w' => e = .returned (.bool (rightN (bytes s))) ∧ Below w.heap.size w w' := right_any s w (by omega) HTB.out
set_option maxHeartbeats 4000000 in
set_option maxRecDepth 100000 in
theorem new_call (o f : ByteArray) (w : World) (HTB : Aside0 (Tabs w)) (ho : o.size ≤ 1000000) (hf : f.size ≤ 1000000) :
  Calls Tryd.prog 11 #[.string o, .string f] w (Told w (newF o f)) := by
 obtain ⟨R, hR⟩ : ∃ R, newF o f = R := ⟨_, rfl⟩
 rw [hR]
 have HR := Lib.hid hR
 clear hR
 go_enter Tryd.func11, Tryd.ntmps11
 have hb0 : Below w.heap.size w (w.alloc (Obj.cells #[Value.string { data := #[] }, Value.string { data := #[] }, Value.int IntKind.i64 0, Value.slice none 0 0, Value.slice none 0 0] 26)) := below_alloc (Below.refl _ _) _
 have hy0 : BoxAt (w.alloc (Obj.cells #[Value.string { data := #[] }, Value.string { data := #[] }, Value.int IntKind.i64 0, Value.slice none 0 0, Value.slice none 0 0] 26)) w.heap.size noRt (.slice none 0 0) (.slice none 0 0) := ⟨_, rfl, heap_new _ _ _ rfl⟩
 have HA := Lib.hid (nameRight_call o _ ⟨HTB.out.below hb0⟩ ho)
 have HB0 := Lib.hid hb0
 have HY0 := Lib.hid hy0
 clear hb0 hy0
 cases h1 : rightN (bytes o) with
 | false =>
  rw [h1] at HA
  have HN : Hid (R = (noRt, 3)) := by
   rw [← HR.out]; unfold newF; rw [h1]; exact Lib.hid rfl
  clear h1
  go_wp2_with fail
  refine HA.out.mono ?_
  rintro e w1 ⟨rfl, hb⟩
  have HB1 := Lib.hid (below_step HB0.out hb)
  have HY1 := Lib.hid (HY0.out.below hb)
  clear hb HB0 HY0 HA
  obtain ⟨y0, y1, y2, y3, y4⟩ := HY1.out.cell
  have z0 := HY1.out.free 0
  have z1 := HY1.out.free 1
  have z2 := HY1.out.free 2
  have z3 := HY1.out.free 3
  have z4 := HY1.out.free 4
  go_wp2
  obtain ⟨cs, hcs, hblk⟩ := HY1.out.put noRt (.slice none 0 0) (.slice none 0 0)
  have hbl := BoxAt.put_below (b := w.heap.size) HB1.out (Nat.le_refl _) noRt (.slice none 0 0) (.slice none 0 0)
  subst hcs
  refine bodyPost_ret (results_ct rfl _ _ w.heap.size 26 _ (0, 0) _ rfl hblk Tryd.underlying26 rfl (by kernel_rfl)) rfl ?_
  obtain rfl := HN.out
  exact ⟨none, 0, none, 0, rfl, RowsAt.nil _ _ _ _ _, hbl⟩
 | true =>
  rw [h1] at HA
  go_wp2_with fail
  refine HA.out.mono ?_
  rintro e w1 ⟨rfl, hb⟩
  have HB1 := Lib.hid (below_step HB0.out hb)
  have HY1 := Lib.hid (HY0.out.below hb)
  clear hb HB0 HY0 HA
  have HA := Lib.hid (nameRight_call f w1 ⟨HTB.out.below HB1.out⟩ hf)
  cases h2 : rightN (bytes f) with
  | false =>
   rw [h2] at HA
   have HN : Hid (R = (noRt, 3)) := by
    rw [← HR.out]; unfold newF; rw [h1, h2]; exact Lib.hid rfl
   clear h1 h2
   go_wp2_with fail
   refine HA.out.mono ?_
   rintro e w2 ⟨rfl, hb⟩
   have HB2 := Lib.hid (below_step HB1.out hb)
   have HY2 := Lib.hid (HY1.out.below hb)
   clear hb HB1 HY1 HA
   obtain ⟨y0, y1, y2, y3, y4⟩ := HY2.out.cell
   have z0 := HY2.out.free 0
   have z1 := HY2.out.free 1
   have z2 := HY2.out.free 2
   have z3 := HY2.out.free 3
   have z4 := HY2.out.free 4
   go_wp2
   obtain ⟨cs, hcs, hblk⟩ := HY2.out.put noRt (.slice none 0 0) (.slice none 0 0)
   have hbl := BoxAt.put_below (b := w.heap.size) HB2.out (Nat.le_refl _) noRt (.slice none 0 0) (.slice none 0 0)
   subst hcs
   refine bodyPost_ret (results_ct rfl _ _ w.heap.size 26 _ (0, 0) _ rfl hblk Tryd.underlying26 rfl (by kernel_rfl)) rfl ?_
   obtain rfl := HN.out
   exact ⟨none, 0, none, 0, rfl, RowsAt.nil _ _ _ _ _, hbl⟩
  | true =>
   rw [h2] at HA
   have HN : Hid (R = (⟨o, f, 0, [], []⟩, 0)) := by
    rw [← HR.out]; unfold newF; rw [h1, h2]; exact Lib.hid rfl
   clear h1 h2
   go_wp2_with fail
   refine HA.out.mono ?_
   rintro e w2 ⟨rfl, hb⟩
   have HB2 := Lib.hid (below_step HB1.out hb)
   have HY2 := Lib.hid (HY1.out.below hb)
   clear hb HB1 HY1 HA
   obtain ⟨y0, y1, y2, y3, y4⟩ := HY2.out.cell
   have z0 := HY2.out.free 0
   have z1 := HY2.out.free 1
   have z2 := HY2.out.free 2
   have z3 := HY2.out.free 3
   have z4 := HY2.out.free 4
   go_wp2
   obtain ⟨cs, hcs, hblk⟩ := HY2.out.put ⟨o, f, 0, [], []⟩ (.slice none 0 0) (.slice none 0 0)
   have hbl := BoxAt.put_below (b := w.heap.size) HB2.out (Nat.le_refl _) ⟨o, f, 0, [], []⟩ (.slice none 0 0) (.slice none 0 0)
   subst hcs
   refine bodyPost_ret (results_ct rfl _ _ w.heap.size 26 _ (0, 0) _ rfl hblk Tryd.underlying26 rfl (by kernel_rfl)) rfl ?_
   obtain rfl := HN.out
   exact ⟨none, 0, none, 0, rfl, RowsAt.nil _ _ _ _ _, hbl⟩
theorem BoxAt.lt {w : World} {b : Nat} {r : Rt} {v3 v4 : Value} (h : BoxAt w b r v3 v4) : b < w.heap.size := by
 obtain ⟨cs, _, h⟩ := h
 exact blk_lt h
theorem box_new (w : World) (r : Rt) (v3 v4 : Value) : BoxAt (w.alloc (Obj.cells #[Value.string r.o, Value.string r.f, Value.int IntKind.i64 r.e, v3, v4] 26)) w.heap.size r v3 v4 := ⟨_, rfl, heap_new _ _ _ rfl⟩
end Go.Proofs.YtfhanoloaejmkaaDoor
end
section
namespace Go.Proofs.YtfhanoloaejmkaaDoor
open Go.Proofs.YtfhanoloaejmkaaDoor.Ref
set_option linter.unusedVariables false
theorem can_of {r : Rt} (h : rightR r = true) (u : ByteArray) (w : Bool) : canF r u w = (decide (u = r.o) || decide (u ∈ r.ws) || !w && decide (u ∈ r.rs)) := by
 unfold canF; rw [h, Bool.true_and]
theorem can_read {r : Rt} (h : rightR r = true) (u : ByteArray) : canF r u false = decide (u = r.o ∨ u ∈ r.rs ∨ u ∈ r.ws) := by
 rw [can_of h]
 by_cases a : u = r.o <;> by_cases b : u ∈ r.rs <;> by_cases c : u ∈ r.ws <;> simp [a, b, c]
def putIn (r : Rt) (u : ByteArray) (w : Bool) : Rt := if w then ⟨r.o, r.f, r.e, r.rs, insL r.ws u⟩ else ⟨r.o, r.f, r.e, insL r.rs u, r.ws⟩
theorem grant_cases {r : Rt} (h : rightR r = true) {u : ByteArray} (hu : rightN (bytes u) = true) (w : Bool) :
  grantF r u w = if canF r u false = true then (noRt, 5) else if 5 ≤ r.rs.length + r.ws.length then (noRt, 10) else (putIn r u w, 0) := by
 unfold grantF putIn
 rw [if_neg (by rw [h]; simp), if_neg (by rw [hu]; simp), can_read h]
 by_cases c : u = r.o ∨ u ∈ r.rs ∨ u ∈ r.ws
 ·rw [if_pos c, if_pos (by simpa using c)]
 ·rw [if_neg c, if_neg (show ¬ decide (u = r.o ∨ u ∈ r.rs ∨ u ∈ r.ws) = true by simpa using c)]
theorem put_right {r : Rt} (h : rightR r = true) {u : ByteArray} (hu : rightN (bytes u) = true) (hc : canF r u false = false) (hl : r.rs.length + r.ws.length < 5) (w : Bool) : rightR (putIn r u w) = true := by
 rw [can_read h, decide_eq_false_iff_not] at hc
 obtain ⟨p1, p2, p3, p4, p5, p6, p7, p8, p9⟩ := right_parts h
 have n1 : u ≠ r.o := fun e => hc (Or.inl e)
 have n2 : u ∉ r.rs := fun e => hc (Or.inr (Or.inl e))
 have n3 : u ∉ r.ws := fun e => hc (Or.inr (Or.inr e))
 unfold putIn
 cases w with
 | true =>
  rw [if_pos rfl]
  refine right_mk p1 p2 p3 (by show r.rs.length + (insL r.ws u).length ≤ 5; rw [ins_len]; omega) p5 (ins_rises p6 n3) p7 (fun s hs => ?_) (fun s hs hs2 => ?_)
  ·rcases mem_ins.1 hs with rfl | hs
   ·exact ⟨hu, n1⟩
   ·exact p8 s hs
  ·rcases mem_ins.1 hs2 with rfl | hs2
   ·exact n2 hs
   ·exact p9 s hs hs2
 | false =>
  rw [if_neg (by simp)]
  refine right_mk p1 p2 p3 (by show (insL r.rs u).length + r.ws.length ≤ 5; rw [ins_len]; omega) (ins_rises p5 n2) p6 (fun s hs => ?_) p8 (fun s hs => ?_)
  ·rcases mem_ins.1 hs with rfl | hs
   ·exact ⟨hu, n1⟩
   ·exact p7 s hs
  ·rcases mem_ins.1 hs with rfl | hs
   ·exact n3
   ·exact p9 s hs
def struck (r : Rt) (u : ByteArray) : Rt := ⟨r.o, r.f, r.e + 1, dropL r.rs u, dropL r.ws u⟩
theorem revoke_cases {r : Rt} (h : rightR r = true) {u : ByteArray} (hu : rightN (bytes u) = true) :
  revokeF r u = if canF r u false = true ∧ u ≠ r.o then (if r.e = 7 then (noRt, 9) else (struck r u, 0)) else (noRt, 4) := by
 obtain ⟨p1, p2, p3, p4, p5, p6, p7, p8, p9⟩ := right_parts h
 unfold revokeF struck
 rw [if_neg (by rw [h]; simp), if_neg (by rw [hu]; simp), can_read h]
 by_cases c : u ∈ r.rs ∨ u ∈ r.ws
 ·have n : u ≠ r.o := c.elim (fun e => (p7 u e).2) (fun e => (p8 u e).2)
  rw [if_neg (fun e => e c), if_pos (show decide (u = r.o ∨ u ∈ r.rs ∨ u ∈ r.ws) = true ∧ u ≠ r.o from ⟨decide_eq_true (Or.inr c), n⟩)]
 ·rw [if_pos c, if_neg]
  rintro ⟨e, n⟩
  rcases of_decide_eq_true e with e | e
  ·exact n e
  ·exact c e
theorem struck_right {r : Rt} (h : rightR r = true) (u : ByteArray) (h7 : r.e ≠ 7) : rightR (struck r u) = true := by
 obtain ⟨p1, p2, p3, p4, p5, p6, p7, p8, p9⟩ := right_parts h
 have l1 := drop_len r.rs u
 have l2 := drop_len r.ws u
 refine right_mk p1 p2 (by show 0 ≤ r.e + 1 ∧ r.e + 1 ≤ 7; omega) (by show (dropL r.rs u).length + (dropL r.ws u).length ≤ 5; omega) (drop_rises p5) (drop_rises p6) (fun s hs => p7 s (mem_drop.1 hs).1) (fun s hs => p8 s (mem_drop.1 hs).1) (fun s hs hs2 => p9 s (mem_drop.1 hs).1 (mem_drop.1 hs2).1)
theorem name_small {s : ByteArray} (h : rightN (bytes s) = true) : s.size ≤ 1000000 := by
 have := right_len h
 rw [bytes_length] at this; omega
theorem right_small {r : Rt} (h : rightR r = true) : smallR r = true := by
 obtain ⟨p1, p2, p3, p4, p5, p6, p7, p8, p9⟩ := right_parts h
 exact small_mk (name_small p1) (name_small p2) (by omega) (by omega) (by omega) (fun s hs => name_small (p7 s hs).1) (fun s hs => name_small (p8 s hs).1)
theorem small_no : smallR noRt = true := by decide +kernel
theorem grant_small {r : Rt} {u : ByteArray} {w : Bool} : smallR (grantF r u w).1 = true := by
 cases h : rightR r with
 | false => unfold grantF; rw [if_pos h]; exact small_no
 | true =>
  cases hu : rightN (bytes u) with
  | false => unfold grantF; rw [if_neg (by rw [h]; simp), if_pos hu]; exact small_no
  | true =>
   rw [grant_cases h hu]
   split
   ·exact small_no
   ·rename_i c
    split
    ·exact small_no
    ·rename_i d
     exact right_small (put_right h hu (by simpa using c) (by omega) w)
theorem revoke_small {r : Rt} {u : ByteArray} : smallR (revokeF r u).1 = true := by
 cases h : rightR r with
 | false => unfold revokeF; rw [if_pos h]; exact small_no
 | true =>
  cases hu : rightN (bytes u) with
  | false => unfold revokeF; rw [if_neg (by rw [h]; simp), if_pos hu]; exact small_no
  | true =>
   rw [revoke_cases h hu]
   split
   ·split
    ·exact small_no
    ·rename_i d
     exact right_small (struck_right h u d)
   ·exact small_no
end Go.Proofs.YtfhanoloaejmkaaDoor
end
section
namespace Go.Proofs.YtfhanoloaejmkaaDoor
open Go.RowKit Go.Proofs.YtfhanoloaejmkaaDoorW.PrintWords Go.Proofs.YtfhanoloaejmkaaDoor.Ref
set_option linter.unusedVariables false
set_option linter.unusedSimpArgs false
def anna : ByteArray := ⟨#[97, 110, 110, 97]⟩
def notes : ByteArray := ⟨#[110, 111, 116, 101, 115]⟩
def ben : ByteArray := ⟨#[98, 101, 110]⟩
def r0 : Rt := ⟨anna, notes, 0, [], []⟩
theorem new0 : newF anna notes = (r0, 0) := by
 have h1 : rightN (bytes anna) = true := by decide +kernel
 have h2 : rightN (bytes notes) = true := by decide +kernel
 unfold newF
 rw [h1, h2]; rfl
theorem right0 : rightR r0 = true := by decide +kernel
theorem small0 : smallR r0 = true := by decide +kernel
theorem nameben : rightN (bytes ben) = true := by decide +kernel
def r1 : Rt := ⟨anna, notes, 0, [ben], []⟩
theorem grant0 : grantF r0 ben false = (r1, 0) := by
 unfold grantF
 rw [if_neg (by rw [right0]; simp), if_neg (by rw [nameben]; simp), if_neg (by decide), if_neg (by decide)]
 rfl
theorem right1 : rightR r1 = true := by decide +kernel
theorem small1 : smallR r1 = true := by decide +kernel
theorem can1 : canF r1 ben false = true := by unfold canF; rw [right1]; decide
theorem can2 : canF r1 ben true = false := by unfold canF; rw [right1]; decide
theorem can3 : canF r1 anna true = true := by unfold canF; rw [right1]; decide
set_option maxHeartbeats 4000000 in
set_option maxRecDepth 100000 in
theorem shown_call (w : World) (HTB : Aside0 (Tabs w)) : Calls Tryd.prog 10 #[] w fun e w' => e = .returned (.bool true) ∧ Below w.heap.size w w' := by
 have H1 := Lib.hid (new_call anna notes w HTB (by decide +kernel) (by decide +kernel))
 rw [new0] at H1
 go_enter Tryd.func10, Tryd.ntmps10
 go_wp2_with fail
 refine H1.out.mono ?_
 rintro e w1 ⟨A1, c1, A2, c2, rfl, hr1, hb1⟩
 have hb1' := below_alloc hb1 (Obj.cells #[Value.string r0.o, Value.string r0.f, Value.int IntKind.i64 r0.e, .slice A1 r0.rs.length c1, .slice A2 r0.ws.length c2] 26)
 have H2 := Lib.hid (grant_call r0 ben false A1 c1 A2 c2 _ ⟨HTB.out.below hb1'⟩ small0 (by decide +kernel) (hr1.below (below_alloc (Below.refl _ _) (Obj.cells #[Value.string r0.o, Value.string r0.f, Value.int IntKind.i64 r0.e, .slice A1 r0.rs.length c1, .slice A2 r0.ws.length c2] 26))))
 rw [grant0] at H2
 have HB1 := Lib.hid hb1'
 clear hr1 hb1 hb1' H1
 go_wp2_with fail
 refine H2.out.mono ?_
 rintro e w2 ⟨A3, c3, A4, c4, rfl, hr2, hb2⟩
 have hbx : Below w2.heap.size w2 (w2.alloc (Obj.cells #[Value.string r1.o, Value.string r1.f, Value.int IntKind.i64 r1.e, .slice A3 r1.rs.length c3, .slice A4 r1.ws.length c4] 26)) := below_alloc (Below.refl _ _) _
 have hx := box_new w2 r1 (.slice A3 r1.rs.length c3) (.slice A4 r1.ws.length c4)
 have HB2 := Lib.hid (below_step (below_step HB1.out hb2) hbx)
 have HR2 := Lib.hid (hr2.below hbx)
 have HX2 := Lib.hid hx
 clear hb2 hr2 H2 HB1 hbx hx
 have H3 := Lib.hid (can_call r1 ben false A3 c3 A4 c4 _ ⟨HTB.out.below HB2.out⟩ small1 HR2.out)
 rw [can1] at H3
 go_wp2_with fail
 refine H3.out.mono ?_
 rintro e w3 ⟨rfl, hb⟩
 have HB3 := Lib.hid (below_step HB2.out hb)
 have HR3 := Lib.hid (HR2.out.below hb)
 have HX3 := Lib.hid (HX2.out.below hb)
 clear hb HB2 HR2 HX2 H3
 obtain ⟨x0, x1, x2, x3, x4⟩ := HX3.out.cell
 have H4 := Lib.hid (can_call r1 ben true A3 c3 A4 c4 w3 ⟨HTB.out.below HB3.out⟩ small1 HR3.out)
 rw [can2] at H4
 go_wp2_with fail
 refine H4.out.mono ?_
 rintro e w4 ⟨rfl, hb⟩
 have HB4 := Lib.hid (below_step HB3.out hb)
 have HR4 := Lib.hid (HR3.out.below hb)
 have HX4 := Lib.hid (HX3.out.below hb)
 clear hb HB3 HR3 HX3 H4 x0 x1 x2 x3 x4
 obtain ⟨x0, x1, x2, x3, x4⟩ := HX4.out.cell
 have H5 := Lib.hid (can_call r1 anna true A3 c3 A4 c4 w4 ⟨HTB.out.below HB4.out⟩ small1 HR4.out)
 rw [can3] at H5
 go_wp2_with fail
 refine H5.out.mono ?_
 rintro e w5 ⟨rfl, hb⟩
 have HB5 := Lib.hid (below_step HB4.out hb)
 clear hb HB4 HR4 HX4 H5 x0 x1 x2 x3 x4
 go_wp2
 go_ret
 exact ⟨rfl, HB5.out⟩
end Go.Proofs.YtfhanoloaejmkaaDoor
end
section
namespace Go.Proofs.YtfhanoloaejmkaaDoor
open Go.ChangeShapes Go.WideShapes Go.RowKit Go.Deep Go.Proofs.YtfhanoloaejmkaaDoorW.PrintWords
set_option linter.unusedVariables false
def Opens {α : Type} (P : Program) (t : TypeId) (d : Kd α) (good : α → Prop) : Prop :=
 ∀ (H : Type) (enc : TypeId × Value → H) (W : World) (fuel : Nat) (cs : List Value) (x : DataW H × List MemPlace), DataW.trod enc P W 0 (fun _ => true) true fuel t cs = some x → ∃ a, d.K W a cs ∧ good a
theorem Opens.int {P : Program} {t : TypeId} {k : IntKind} (ht : P.underlying t = some (.int k)) : Opens P t (Kd.int k) (fun n => (Lit.int k n).wf = true) := by
 intro H enc W fuel cs x h
 obtain ⟨n, rfl, _, hn⟩ := DataW.trod_int ht h
 exact ⟨n, rfl, hn⟩
theorem Opens.bool {P : Program} {t : TypeId} (ht : P.underlying t = some .bool) : Opens P t Kd.bool (fun _ => True) := by
 intro H enc W fuel cs x h
 obtain ⟨b, rfl, _⟩ := DataW.trod_bool ht h
 exact ⟨b, rfl, trivial⟩
theorem Opens.string {P : Program} {t : TypeId} (ht : P.underlying t = some .string) : Opens P t Kd.string (fun s => s.size ≤ 9223372036854775807) := by
 intro H enc W fuel cs x h
 obtain ⟨s, rfl, _, hs⟩ := DataW.trod_string ht h
 exact ⟨s, rfl, hs⟩
theorem Opens.slice {α : Type} [Inhabited α] {P : Program} {t e : TypeId} {d : Kd α} {good : α → Prop} (ht : P.underlying t = some (.slice e)) (hc : P.cellsOf e = d.sz) (he : Opens P e d good) (q : Nat) :
  Opens P t (Kd.slice q d) (fun xs => xs.length ≤ 9223372036854775807 ∧ ∀ x ∈ xs, good x) := by
 intro H enc W fuel cs x h
 rcases open_slice ht h with ⟨rfl, _⟩ | ⟨a, len, cap, m, n, D, Pl, rfl, hb, hl, hm, hmm, rfl, hx⟩
 ·exact ⟨[], ⟨none, 0, rfl, Nat.le_refl _, rfl, Nat.zero_le _, fun h => absurd h (Nat.lt_irrefl _)⟩, Nat.zero_le _, fun _ h => absurd h (by simp)⟩
 have hml : len ≤ m := by rw [hmm]; split <;> omega
 have hm' : cap ≤ 9223372036854775807 := hm
 have each : ∀ i, i < len → ∃ y : α, (∃ c, c.length = d.sz ∧ d.K W y c ∧ ∀ j u, c[j]? = some u → W.cell? (a.add (i * d.sz + j)) = some u) ∧ good y := by
  intro i hi
  obtain ⟨cs', h1, h2⟩ := hx i (by omega)
  obtain ⟨y, hy, hg⟩ := he H enc W n cs' _ h2
  obtain ⟨_, hlen, hcell⟩ := World.cells?_some h1
  refine ⟨y, ⟨cs', d.K_len hy, hy, fun j u hj => ?_⟩, hg⟩
  have hjl : j < cs'.length := by
   by_cases hjl : j < cs'.length
   ·exact hjl
   ·rw [List.getElem?_eq_none (by omega)] at hj; simp at hj
  have := hcell j (by rw [hlen] at hjl; exact hjl)
  rw [Deep.add_add, hc] at this
  rw [this, hj]
 obtain ⟨Y, hY⟩ := choose_lt each
 refine ⟨(List.range len).map Y, ⟨some a, cap, by simp, by simpa using hl, by simp, by simp; omega, fun _ => ⟨a, rfl, fun j p hj => ?_⟩⟩, by simp; omega, fun z hz => ?_⟩
 ·have hjl : j < len := by
   by_cases hjl : j < len
   ·exact hjl
   ·rw [List.getElem?_eq_none (by simp; omega)] at hj; simp at hj
  have : p = Y j := by simpa [hjl] using hj.symm
  rw [this]
  exact (hY j hjl).1
 ·obtain ⟨j, hj, rfl⟩ := List.mem_map.1 hz
  exact (hY j (List.mem_range.1 hj)).2
end Go.Proofs.YtfhanoloaejmkaaDoor
end
section
namespace Go.Proofs.YtfhanoloaejmkaaDoor
open Go.ChangeShapes Go.WideShapes Go.RowKit Go.Deep Go.Proofs.YtfhanoloaejmkaaDoorW.PrintWords
set_option linter.unusedVariables false
theorem i64_wf {n : Int} (h : (Lit.int .i64 n).wf = true) : -9223372036854775808 ≤ n ∧ n ≤ 9223372036854775807 := by
 simpa [Lit.wf, show IntKind.i64.min = -9223372036854775808 from rfl] using h
end Go.Proofs.YtfhanoloaejmkaaDoor
end
end
