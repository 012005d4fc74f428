/- Contracts and laws that the statement of LawDataTells,LawWriterTells leans on (packed from this claim's own texts): part 16. -/
import Derived.Test.YtphehoidkmficaaGreatDoorQT6
import Derived.Test.YtphehoidkmficaaGreatDoorQT7
import Derived.Test.YtphehoidkmficaaGreatDoorQT10
import Derived.Test.YtphehoidkmficaaGreatDoorQT14
import Derived.Test.YtphehoidkmficaaGreatDoorQT15
section

namespace Go.Proofs.YtphehoidkmficaaGreatDoor.PS
open Go.RowKit Go.Proofs.YtphehoidkmficaaGreatDoorW.PrintWords Go.Proofs.YtphehoidkmficaaGreatDoorW.PrintLast Go.Proofs.YtphehoidkmficaaGreatDoorW.PrintMore
attribute [local go_sem] max2_int min2_int max_two min_two max_three min_three max_four min_four   -- for this text's walks alone
set_option linter.unusedVariables false
set_option linter.unusedSimpArgs false
def letterlockref9_signed.f (k : Nat) (a0 : Int) (a1 : ByteArray) : Option (ByteArray × Int) := (PA.letterlockref3_OfAtom.f k (IntKind.u64.wrap (a0))).bind fun t101 => ((PA.letterlockref3_OfPair.f k t101 a1).bind fun bt102 => (some (bt102.1, bt102.2)))
set_option maxHeartbeats 8000000 in
set_option maxRecDepth 100000 in
theorem letterlockref9_signed.calls (k : Nat) (a0 : Int) (a1 : ByteArray) (r1 : ByteArray) (r2 : Int) (w : World) (h : letterlockref9_signed.f k a0 a1 = some (r1, r2)) :
  Calls Tryz.prog 62 #[.int .i64 a0, .string a1] w fun e w' => e = .returned (.tuple #[.string r1, .int .i64 r2]) ∧ Below w.heap.size w w' := by
 have HB := Aside0.mk (Below.refl w.heap.size w)
 have H : ((PA.letterlockref3_OfAtom.f k (IntKind.u64.wrap (a0))).bind fun t101 => ((PA.letterlockref3_OfPair.f k t101 a1).bind fun bt102 => (some (bt102.1, bt102.2)))) = some (r1, r2) := h
 clear h
 replace H := Option.bind_eq_some_iff.mp H
 obtain ⟨t101, A30, H⟩ := H
 replace H : ((PA.letterlockref3_OfPair.f k t101 a1).bind fun bt102 => (some (bt102.1, bt102.2))) = some (r1, r2) := H
 have A3 := Aside0.mk A30
 clear A30
 replace H := Option.bind_eq_some_iff.mp H
 obtain ⟨⟨t102, t103⟩, A40, H⟩ := H
 replace H : (some (t102, t103)) = some (r1, r2) := H
 have A4 := Aside0.mk A40
 clear A40
 simp only [Option.some.injEq, Prod.mk.injEq] at H
 obtain ⟨rfl, rfl⟩ := H
 go_enter Tryz.func62, Tryz.ntmps62
 go_wp2_with (first | ((with_reducible refine gate_callee (f := 107) rfl ?_); refine goesL_ (some 8) rfl rfl Tryz.func107 (by kernel_rfl) rfl #[.int .u64 (IntKind.u64.wrap (a0))] rfl (by (try simp only [List.map_toArray, List.map_cons, List.map_nil]); first | done | rfl | (simp only [List.length_drop, List.length_take]; rfl)) ?_; (with_reducible refine (PA.letterlockref3_OfAtom.calls k (IntKind.u64.wrap (a0)) t101 _ A3.out).mono ?_); rintro e w5 ⟨rfl, hb⟩; refine ⟨_, rfl, ?_⟩; have n0_ := Aside0.mk (below_step (by repeat (first | (with_reducible first | exact HB.out | apply below_alloc | apply pw_below_drewN | apply below_drew1) | exact HB.out)) hb); clear HB; have HB := n0_; clear n0_; (try clear hb); (try clear hb2); (try clear hk); (try clear hi)) | ((with_reducible refine gate_callee (f := 60) rfl ?_); refine goesL_ (some 10) rfl rfl Tryz.func60 (by kernel_rfl) rfl #[.string t101, .string a1] rfl (by (try simp only [List.map_toArray, List.map_cons, List.map_nil]); first | done | rfl | (simp only [List.length_drop, List.length_take]; rfl)) ?_; (with_reducible refine (PA.letterlockref3_OfPair.calls k t101 a1 t102 t103 _ A4.out).mono ?_); rintro e w6 ⟨rfl, hb⟩; refine ⟨_, rfl, ?_⟩; have n0_ := Aside0.mk (below_step (by repeat (first | (with_reducible first | exact HB.out | apply below_alloc | apply pw_below_drewN | apply below_drew1) | exact HB.out)) hb); clear HB; have HB := n0_; clear n0_; (try clear hb); (try clear hb2); (try clear hk); (try clear hi)))
 go_ret2
 exact ⟨by first | rfl | (simp [errW_none, errW_some] <;> rfl) | (simp [*, errW_none, errW_some] <;> rfl), by repeat (first | (with_reducible first | exact HB.out | apply below_alloc | apply pw_below_drewN | apply below_drew1) | exact HB.out)⟩
def letterlockref9_Right.f (k : Nat) (a0_0 : Int) (a0_1 : ByteArray) (a0_2 : ByteArray) : Option (Bool) := if a0_0 ≥ 0 then (if a0_0 ≤ 7 then ((PA.letterlockref3_Kind.f k a0_1).bind fun t105 => (if t105 = 115 then ((PA.letterlockref3_Kind.f k a0_2).bind fun t106 => (some (t106 == 103))) else (some false))) else (some false)) else (some false)
set_option maxHeartbeats 8000000 in
set_option maxRecDepth 100000 in
theorem letterlockref9_Right.calls (k : Nat) (a0_0 : Int) (a0_1 : ByteArray) (a0_2 : ByteArray) (r : Bool) (w : World) (h : letterlockref9_Right.f k a0_0 a0_1 a0_2 = some r) :
  Calls Tryz.prog 20 #[.agg #[.int .i64 a0_0, .string a0_1, .string a0_2]] w fun e w' => e = .returned (.bool r) ∧ Below w.heap.size w w' := by
 have hu26 := Tryz.underlying26
 have HB := Aside0.mk (Below.refl w.heap.size w)
 have H : (if a0_0 ≥ 0 then (if a0_0 ≤ 7 then ((PA.letterlockref3_Kind.f k a0_1).bind fun t105 => (if t105 = 115 then ((PA.letterlockref3_Kind.f k a0_2).bind fun t106 => (some (t106 == 103))) else (some false))) else (some false)) else (some false)) = some r := h
 clear h
 by_cases c2 : a0_0 ≥ 0
 ·rw [if_pos c2] at H
  have c2b0 : decide (0 ≤ a0_0) = true := decide_eq_true c2
  clear c2
  by_cases c3 : a0_0 ≤ 7
  ·rw [if_pos c3] at H
   have c3b0 : decide (a0_0 ≤ 7) = true := decide_eq_true c3
   clear c3
   replace H := Option.bind_eq_some_iff.mp H
   obtain ⟨t105, A40, H⟩ := H
   replace H : (if t105 = 115 then ((PA.letterlockref3_Kind.f k a0_2).bind fun t106 => (some (t106 == 103))) else (some false)) = some r := H
   have A4 := Aside0.mk A40
   clear A40
   by_cases c5 : t105 = 115
   ·rw [if_pos c5] at H
    have c5b0 : (t105 == 115) = true := beq_iff_eq.mpr c5
    have c5b1 : (t105 != 115) = false := bne_eq_false_iff_eq.mpr c5
    clear c5
    replace H := Option.bind_eq_some_iff.mp H
    obtain ⟨t106, A60, H⟩ := H
    replace H : (some (t106 == 103)) = some r := H
    have A6 := Aside0.mk A60
    clear A60
    obtain rfl := Option.some.inj H
    go_enter Tryz.func20, Tryz.ntmps20
    go_wp2_with (first | ((with_reducible refine gate_dst (N := 1) rfl ?_); refine box_event ?hg (N := 1) ?hd (cs := #[.int .i64 a0_0, .string a0_1, .string a0_2]) (t := 26) ?hr ?_; (case hd => rfl); (case hg => rfl); (case hr => first | (go_simp; done) | (go_simp; rfl)); intro gb104 hg w7 hbox hb; have n0_ := Aside0.mk (below_step (by repeat (first | (with_reducible first | exact HB.out | apply below_alloc | apply pw_below_drewN | apply below_drew1) | exact HB.out)) hb); have n1_ := Aside0.mk (hbox); have n2_ := Aside0.mk ((by rw [hg]; exact (below_size (by repeat (first | (with_reducible first | exact HB.out | apply below_alloc | apply pw_below_drewN | apply below_drew1) | exact HB.out))) : w.heap.size ≤ gb104)); have n3_ := Aside0.mk ((by rw [hg]; exact (below_size (by repeat (first | (with_reducible first | exact HB.out | apply below_alloc | apply pw_below_drewN | apply below_drew1) | exact HB.out))) : w.heap.size ≤ gb104)); clear HB; have HB := n0_; have BK104 := n1_; have GW104 := n2_; have GE104 := n3_; clear n0_ n1_ n2_ n3_; clear hb hbox hg; have hcz8_0 : w7.cell? ⟨gb104, 0, none⟩ = some (.int .i64 a0_0) := (blk_cell BK104.out 0).trans rfl; have hcz8_1 : w7.cell? ⟨gb104, 1, none⟩ = some (.string a0_1) := (blk_cell BK104.out 1).trans rfl; have hcz8_2 : w7.cell? ⟨gb104, 2, none⟩ = some (.string a0_2) := (blk_cell BK104.out 2).trans rfl; have hfz8_0 := blk_frozen BK104.out 0; have hfz8_1 := blk_frozen BK104.out 1; have hfz8_2 := blk_frozen BK104.out 2) | (go_at_call 77; (with_reducible refine (PA.letterlockref3_Kind.calls k a0_1 t105 _ A4.out).mono ?_); rintro e w9 ⟨rfl, hb⟩; have n0_ := Aside0.mk (blk_below (g := gb104) (o := .cells #[.int .i64 a0_0, .string a0_1, .string a0_2] 26 (0, 0)) (by (with_reducible repeat (first | refine blk_drewN ?_ _ | refine blk_drew ?_ | refine blk_alloc ?_ _)); exact BK104.out) hb); have n1_ := Aside0.mk (below_step (by repeat (first | (with_reducible first | exact HB.out | apply below_alloc | apply pw_below_drewN | apply below_drew1 | refine below_set ?_ GE104.out) | exact HB.out)) hb); clear BK104; clear HB; have BK104 := n0_; have HB := n1_; clear n0_ n1_; (try clear hb); (try clear hb2); (try clear hk); (try clear hi); have hcz10_0 : w9.cell? ⟨gb104, 0, none⟩ = some (.int .i64 a0_0) := (blk_cell BK104.out 0).trans rfl; have hcz10_1 : w9.cell? ⟨gb104, 1, none⟩ = some (.string a0_1) := (blk_cell BK104.out 1).trans rfl; have hcz10_2 : w9.cell? ⟨gb104, 2, none⟩ = some (.string a0_2) := (blk_cell BK104.out 2).trans rfl; have hfz10_0 := blk_frozen BK104.out 0; have hfz10_1 := blk_frozen BK104.out 1; have hfz10_2 := blk_frozen BK104.out 2) | (go_at_call 77; (with_reducible refine (PA.letterlockref3_Kind.calls k a0_2 t106 _ A6.out).mono ?_); rintro e w11 ⟨rfl, hb⟩; have n0_ := Aside0.mk (blk_below (g := gb104) (o := .cells #[.int .i64 a0_0, .string a0_1, .string a0_2] 26 (0, 0)) (by (with_reducible repeat (first | refine blk_drewN ?_ _ | refine blk_drew ?_ | refine blk_alloc ?_ _)); exact BK104.out) hb); have n1_ := Aside0.mk (below_step (by repeat (first | (with_reducible first | exact HB.out | apply below_alloc | apply pw_below_drewN | apply below_drew1 | refine below_set ?_ GE104.out) | exact HB.out)) hb); clear BK104; clear HB; have BK104 := n0_; have HB := n1_; clear n0_ n1_; (try clear hb); (try clear hb2); (try clear hk); (try clear hi)))
    go_ret
    exact ⟨by first | rfl | (simp [errW_none, errW_some] <;> rfl) | (simp [*, errW_none, errW_some] <;> rfl), by repeat (first | (with_reducible first | exact HB.out | apply below_alloc | apply pw_below_drewN | apply below_drew1 | refine below_set ?_ GE104.out) | exact HB.out)⟩
   ·rw [if_neg c5] at H
    have c5b0 : (t105 == 115) = false := beq_eq_false_iff_ne.mpr c5
    have c5b1 : (t105 != 115) = true := bne_iff_ne.mpr c5
    obtain rfl := Option.some.inj H
    go_enter Tryz.func20, Tryz.ntmps20
    go_wp2_with (first | ((with_reducible refine gate_dst (N := 1) rfl ?_); refine box_event ?hg (N := 1) ?hd (cs := #[.int .i64 a0_0, .string a0_1, .string a0_2]) (t := 26) ?hr ?_; (case hd => rfl); (case hg => rfl); (case hr => first | (go_simp; done) | (go_simp; rfl)); intro gb104 hg w12 hbox hb; have n0_ := Aside0.mk (below_step (by repeat (first | (with_reducible first | exact HB.out | apply below_alloc | apply pw_below_drewN | apply below_drew1) | exact HB.out)) hb); have n1_ := Aside0.mk (hbox); have n2_ := Aside0.mk ((by rw [hg]; exact (below_size (by repeat (first | (with_reducible first | exact HB.out | apply below_alloc | apply pw_below_drewN | apply below_drew1) | exact HB.out))) : w.heap.size ≤ gb104)); have n3_ := Aside0.mk ((by rw [hg]; exact (below_size (by repeat (first | (with_reducible first | exact HB.out | apply below_alloc | apply pw_below_drewN | apply below_drew1) | exact HB.out))) : w.heap.size ≤ gb104)); clear HB; have HB := n0_; have BK104 := n1_; have GW104 := n2_; have GE104 := n3_; clear n0_ n1_ n2_ n3_; clear hb hbox hg; have hcz13_0 : w12.cell? ⟨gb104, 0, none⟩ = some (.int .i64 a0_0) := (blk_cell BK104.out 0).trans rfl; have hcz13_1 : w12.cell? ⟨gb104, 1, none⟩ = some (.string a0_1) := (blk_cell BK104.out 1).trans rfl; have hcz13_2 : w12.cell? ⟨gb104, 2, none⟩ = some (.string a0_2) := (blk_cell BK104.out 2).trans rfl; have hfz13_0 := blk_frozen BK104.out 0; have hfz13_1 := blk_frozen BK104.out 1; have hfz13_2 := blk_frozen BK104.out 2) | (go_at_call 77; (with_reducible refine (PA.letterlockref3_Kind.calls k a0_1 t105 _ A4.out).mono ?_); rintro e w14 ⟨rfl, hb⟩; have n0_ := Aside0.mk (blk_below (g := gb104) (o := .cells #[.int .i64 a0_0, .string a0_1, .string a0_2] 26 (0, 0)) (by (with_reducible repeat (first | refine blk_drewN ?_ _ | refine blk_drew ?_ | refine blk_alloc ?_ _)); exact BK104.out) hb); have n1_ := Aside0.mk (below_step (by repeat (first | (with_reducible first | exact HB.out | apply below_alloc | apply pw_below_drewN | apply below_drew1 | refine below_set ?_ GE104.out) | exact HB.out)) hb); clear BK104; clear HB; have BK104 := n0_; have HB := n1_; clear n0_ n1_; (try clear hb); (try clear hb2); (try clear hk); (try clear hi)))
    go_ret
    exact ⟨by first | rfl | (simp [errW_none, errW_some] <;> rfl) | (simp [*, errW_none, errW_some] <;> rfl), by repeat (first | (with_reducible first | exact HB.out | apply below_alloc | apply pw_below_drewN | apply below_drew1 | refine below_set ?_ GE104.out) | exact HB.out)⟩
  ·rw [if_neg c3] at H
   have c3b0 : decide (a0_0 ≤ 7) = false := decide_eq_false c3
   clear c3
   obtain rfl := Option.some.inj H
   go_enter Tryz.func20, Tryz.ntmps20
   go_wp2_with (first | ((with_reducible refine gate_dst (N := 1) rfl ?_); refine box_event ?hg (N := 1) ?hd (cs := #[.int .i64 a0_0, .string a0_1, .string a0_2]) (t := 26) ?hr ?_; (case hd => rfl); (case hg => rfl); (case hr => first | (go_simp; done) | (go_simp; rfl)); intro gb104 hg w15 hbox hb; have n0_ := Aside0.mk (below_step (by repeat (first | (with_reducible first | exact HB.out | apply below_alloc | apply pw_below_drewN | apply below_drew1) | exact HB.out)) hb); have n1_ := Aside0.mk (hbox); have n2_ := Aside0.mk ((by rw [hg]; exact (below_size (by repeat (first | (with_reducible first | exact HB.out | apply below_alloc | apply pw_below_drewN | apply below_drew1) | exact HB.out))) : w.heap.size ≤ gb104)); have n3_ := Aside0.mk ((by rw [hg]; exact (below_size (by repeat (first | (with_reducible first | exact HB.out | apply below_alloc | apply pw_below_drewN | apply below_drew1) | exact HB.out))) : w.heap.size ≤ gb104)); clear HB; have HB := n0_; have BK104 := n1_; have GW104 := n2_; have GE104 := n3_; clear n0_ n1_ n2_ n3_; clear hb hbox hg; have hcz16_0 : w15.cell? ⟨gb104, 0, none⟩ = some (.int .i64 a0_0) := (blk_cell BK104.out 0).trans rfl; have hcz16_1 : w15.cell? ⟨gb104, 1, none⟩ = some (.string a0_1) := (blk_cell BK104.out 1).trans rfl; have hcz16_2 : w15.cell? ⟨gb104, 2, none⟩ = some (.string a0_2) := (blk_cell BK104.out 2).trans rfl; have hfz16_0 := blk_frozen BK104.out 0; have hfz16_1 := blk_frozen BK104.out 1; have hfz16_2 := blk_frozen BK104.out 2))
   go_ret
   exact ⟨by first | rfl | (simp [errW_none, errW_some] <;> rfl) | (simp [*, errW_none, errW_some] <;> rfl), by repeat (first | (with_reducible first | exact HB.out | apply below_alloc | apply pw_below_drewN | apply below_drew1 | refine below_set ?_ GE104.out) | exact HB.out)⟩
 ·rw [if_neg c2] at H
  have c2b0 : decide (0 ≤ a0_0) = false := decide_eq_false c2
  clear c2
  obtain rfl := Option.some.inj H
  go_enter Tryz.func20, Tryz.ntmps20
  go_wp2_with (first | ((with_reducible refine gate_dst (N := 1) rfl ?_); refine box_event ?hg (N := 1) ?hd (cs := #[.int .i64 a0_0, .string a0_1, .string a0_2]) (t := 26) ?hr ?_; (case hd => rfl); (case hg => rfl); (case hr => first | (go_simp; done) | (go_simp; rfl)); intro gb104 hg w17 hbox hb; have n0_ := Aside0.mk (below_step (by repeat (first | (with_reducible first | exact HB.out | apply below_alloc | apply pw_below_drewN | apply below_drew1) | exact HB.out)) hb); have n1_ := Aside0.mk (hbox); have n2_ := Aside0.mk ((by rw [hg]; exact (below_size (by repeat (first | (with_reducible first | exact HB.out | apply below_alloc | apply pw_below_drewN | apply below_drew1) | exact HB.out))) : w.heap.size ≤ gb104)); have n3_ := Aside0.mk ((by rw [hg]; exact (below_size (by repeat (first | (with_reducible first | exact HB.out | apply below_alloc | apply pw_below_drewN | apply below_drew1) | exact HB.out))) : w.heap.size ≤ gb104)); clear HB; have HB := n0_; have BK104 := n1_; have GW104 := n2_; have GE104 := n3_; clear n0_ n1_ n2_ n3_; clear hb hbox hg; have hcz18_0 : w17.cell? ⟨gb104, 0, none⟩ = some (.int .i64 a0_0) := (blk_cell BK104.out 0).trans rfl; have hcz18_1 : w17.cell? ⟨gb104, 1, none⟩ = some (.string a0_1) := (blk_cell BK104.out 1).trans rfl; have hcz18_2 : w17.cell? ⟨gb104, 2, none⟩ = some (.string a0_2) := (blk_cell BK104.out 2).trans rfl; have hfz18_0 := blk_frozen BK104.out 0; have hfz18_1 := blk_frozen BK104.out 1; have hfz18_2 := blk_frozen BK104.out 2))
  go_ret
  exact ⟨by first | rfl | (simp [errW_none, errW_some] <;> rfl) | (simp [*, errW_none, errW_some] <;> rfl), by repeat (first | (with_reducible first | exact HB.out | apply below_alloc | apply pw_below_drewN | apply below_drew1 | refine below_set ?_ GE104.out) | exact HB.out)⟩
def letterlockref9_Put.f (k : Nat) (a0_0 : Int) (a0_1 : ByteArray) (a0_2 : ByteArray) : Option (ByteArray × Int) := (letterlockref9_Right.f k a0_0 a0_1 a0_2).bind fun t108 => (if t108 = true then ((PA.letterlockref2_Put.f k (IntKind.u64.wrap (a0_0))).bind fun t109 => ((PA.letterlockref2_PutAll.f k (([t109, a0_1, a0_2] : List ByteArray))).bind fun t113 => (some (t113, 0)))) else (some ((⟨#[]⟩ : ByteArray), 1)))
def letterlockref9_Put.T3 : Bool × List (List Nat × List Nat) := (true, [([], []), ([0], [0]), ([1], [1]), ([2], [2]), ([], []), ([4], [4]), ([], []), ([6], [6]), ([3, 5, 7], [3, 5, 7]), ([8, 3], [8]), ([9, 9, 0, 1, 2, 3, 4, 5, 6, 7, 8, 9], [9]), ([10, 0, 1, 2, 3, 4, 5, 6, 7, 8, 9, 10], [])])
def letterlockref9_Put.B3 : List Nat := [0, 1, 3, 7, 0, 16, 0, 64, 255, 511, 1023, 2047]
theorem letterlockref9_Put.tab3 : rtab .any (opsOf Tryz.f12 3) = letterlockref9_Put.T3 := by kernel_rfl
theorem letterlockref9_Put.bits3 : waitsOk letterlockref9_Put.T3.2 letterlockref9_Put.B3 = true := by kernel_rfl
set_option maxHeartbeats 8000000 in
set_option maxRecDepth 100000 in
theorem letterlockref9_Put.calls (k : Nat) (a0_0 : Int) (a0_1 : ByteArray) (a0_2 : ByteArray) (r1 : ByteArray) (r2 : Int) (w : World) (h : letterlockref9_Put.f k a0_0 a0_1 a0_2 = some (r1, r2)) :
  Calls Tryz.prog 12 #[.agg #[.int .i64 a0_0, .string a0_1, .string a0_2]] w fun e w' => e = .returned (.tuple #[.string r1, .int .i64 r2]) ∧ Below w.heap.size w w' := by
 have hu26 := Tryz.underlying26
 have HB := Aside0.mk (Below.refl w.heap.size w)
 have H : ((letterlockref9_Right.f k a0_0 a0_1 a0_2).bind fun t108 => (if t108 = true then ((PA.letterlockref2_Put.f k (IntKind.u64.wrap (a0_0))).bind fun t109 => ((PA.letterlockref2_PutAll.f k (([t109, a0_1, a0_2] : List ByteArray))).bind fun t113 => (some (t113, 0)))) else (some ((⟨#[]⟩ : ByteArray), 1)))) = some (r1, r2) := h
 clear h
 replace H := Option.bind_eq_some_iff.mp H
 obtain ⟨t108, A20, H⟩ := H
 replace H : (if t108 = true then ((PA.letterlockref2_Put.f k (IntKind.u64.wrap (a0_0))).bind fun t109 => ((PA.letterlockref2_PutAll.f k (([t109, a0_1, a0_2] : List ByteArray))).bind fun t113 => (some (t113, 0)))) else (some ((⟨#[]⟩ : ByteArray), 1))) = some (r1, r2) := H
 have A2 := Aside0.mk A20
 clear A20
 by_cases c3 : t108 = true
 ·subst c3
  have H1 : ((PA.letterlockref2_Put.f k (IntKind.u64.wrap (a0_0))).bind fun t109 => ((PA.letterlockref2_PutAll.f k (([t109, a0_1, a0_2] : List ByteArray))).bind fun t113 => (some (t113, 0)))) = some (r1, r2) := by rw [if_pos rfl] at H; exact H
  clear H
  have H := H1
  clear H1
  replace H := Option.bind_eq_some_iff.mp H
  obtain ⟨t109, A40, H⟩ := H
  replace H : ((PA.letterlockref2_PutAll.f k (([t109, a0_1, a0_2] : List ByteArray))).bind fun t113 => (some (t113, 0))) = some (r1, r2) := H
  have A4 := Aside0.mk A40
  clear A40
  obtain ⟨y110, hy110⟩ : ∃ y_ : List ByteArray, y_ = (([t109, a0_1, a0_2] : List ByteArray)) := ⟨_, rfl⟩
  replace H : ((PA.letterlockref2_PutAll.f k y110).bind fun t113 => (some (t113, 0))) = some (r1, r2) := by first | (rw [hy110]; with_reducible exact H) | (have H2_ := (Option.bind_some _ _).symm.trans H; rw [hy110]; with_reducible exact H2_) | (have H2_ := (Option.bind_some _ _).symm.trans H; with_reducible exact H2_) | with_reducible exact H | (rw [hy110]; exact H) | exact H
  have Ny110 := Aside0.mk hy110
  clear hy110
  replace H := Option.bind_eq_some_iff.mp H
  obtain ⟨t113, A50, H⟩ := H
  replace H : (some (t113, 0)) = some (r1, r2) := H
  have A5 := Aside0.mk A50
  clear A50
  simp only [Option.some.injEq, Prod.mk.injEq] at H
  obtain ⟨rfl, rfl⟩ := H
  go_enter Tryz.func12, Tryz.ntmps12
  try go_wp2_with (first | ((with_reducible refine gate_dst (N := 1) rfl ?_); refine box_event ?hg (N := 1) ?hd (cs := #[.int .i64 a0_0, .string a0_1, .string a0_2]) (t := 26) ?hr ?_; (case hd => rfl); (case hg => rfl); (case hr => first | (go_simp; done) | (go_simp; rfl)); intro gb107 hg w6 hbox hb; have n0_ := Aside0.mk (below_step (by repeat (first | (with_reducible first | exact HB.out | apply below_alloc | apply pw_below_drewN | apply below_drew1) | exact HB.out)) hb); have n1_ := Aside0.mk (hbox); have n2_ := Aside0.mk ((by rw [hg]; exact (below_size (by repeat (first | (with_reducible first | exact HB.out | apply below_alloc | apply pw_below_drewN | apply below_drew1) | exact HB.out))) : w.heap.size ≤ gb107)); have n3_ := Aside0.mk ((by rw [hg]; exact (below_size (by repeat (first | (with_reducible first | exact HB.out | apply below_alloc | apply pw_below_drewN | apply below_drew1) | exact HB.out))) : w.heap.size ≤ gb107)); clear HB; have HB := n0_; have BK107 := n1_; have GW107 := n2_; have GE107 := n3_; clear n0_ n1_ n2_ n3_; clear hb hbox hg; have hcz7_0 : w6.cell? ⟨gb107, 0, none⟩ = some (.int .i64 a0_0) := (blk_cell BK107.out 0).trans rfl; have hcz7_1 : w6.cell? ⟨gb107, 1, none⟩ = some (.string a0_1) := (blk_cell BK107.out 1).trans rfl; have hcz7_2 : w6.cell? ⟨gb107, 2, none⟩ = some (.string a0_2) := (blk_cell BK107.out 2).trans rfl; have hfz7_0 := blk_frozen BK107.out 0; have hfz7_1 := blk_frozen BK107.out 1; have hfz7_2 := blk_frozen BK107.out 2) | ((with_reducible refine gate_callee (f := 20) rfl ?_); refine goesL_ (some 5) rfl rfl Tryz.func20 (by kernel_rfl) rfl #[.agg #[.int .i64 a0_0, .string a0_1, .string a0_2]] rfl (by (try simp only [List.map_toArray, List.map_cons, List.map_nil]); first | done | rfl | (simp only [List.length_drop, List.length_take]; rfl)) ?_; (with_reducible refine (letterlockref9_Right.calls k a0_0 a0_1 a0_2 true _ A2.out).mono ?_); rintro e w8 ⟨rfl, hb⟩; refine ⟨_, rfl, ?_⟩; have n0_ := Aside0.mk (blk_below (g := gb107) (o := .cells #[.int .i64 a0_0, .string a0_1, .string a0_2] 26 (0, 0)) (by (with_reducible repeat (first | refine blk_drewN ?_ _ | refine blk_drew ?_ | refine blk_alloc ?_ _)); exact BK107.out) hb); have n1_ := Aside0.mk (below_step (by repeat (first | (with_reducible first | exact HB.out | apply below_alloc | apply pw_below_drewN | apply below_drew1 | refine below_set ?_ GE107.out) | exact HB.out)) hb); clear BK107; clear HB; have BK107 := n0_; have HB := n1_; clear n0_ n1_; (try clear hb); (try clear hb2); (try clear hk); (try clear hi)))
  have n0_ := Aside0.mk (blk_drew BK107.out)
  have n1_ := Aside0.mk (below_drew1 HB.out)
  clear BK107
  clear HB
  have BK107 := n0_
  have HB := n1_
  clear n0_ n1_
  refine start_ (n := 12) (S := fun w' => w'.cell? ⟨gb107, 0, none⟩ = some (.int .i64 a0_0) ∧ w'.cell? ⟨gb107, 1, none⟩ = some (.string a0_1) ∧ w'.cell? ⟨gb107, 2, none⟩ = some (.string a0_2)) (ds := []) #[false, false, false, false, false, false, false, false, false, false, false, false] (by kernel_rfl) rfl rfl ⟨(blk_cell BK107.out 0).trans rfl, (blk_cell BK107.out 1).trans rfl, (blk_cell BK107.out 2).trans rfl⟩ (fun hHeld => ?_); refine with_tabW letterlockref9_Put.tab3 letterlockref9_Put.bits3 (fun HT_ HW_ => ?_)
  generalize w8.drew = w9 at BK107 HB hHeld ⊢
  refine pure_ (i := 0) (N := some 7) (v := ?_) (a' := ?_) #[true, false, false, false, false, false, false, false, false, false, false, false] rfl rfl (any_of HT_.out (by kernel_rfl)) (fun _ _ _ h => h) (Or.inl ⟨by rfl, ?_⟩) ?_ ?_
  rotate_left
  ·intro w'
   go_simp
   with_reducible rfl
  rotate_left
  ·simp only [Act.put, List.setIfInBounds_toArray, List.set_cons_zero, List.set_cons_succ, i64_w, i32_w]
   rfl
  refine pure_ (i := 4) (N := some 11) (v := ?_) (a' := ?_) #[true, false, false, false, true, false, false, false, false, false, false, false] rfl rfl (any_of HT_.out (by kernel_rfl)) (fun _ _ _ h => h) (Or.inl ⟨by rfl, ?_⟩) ?_ ?_
  rotate_left
  ·intro w'
   go_simp
   with_reducible rfl
  rotate_left
  ·simp only [Act.put, List.setIfInBounds_toArray, List.set_cons_zero, List.set_cons_succ, i64_w, i32_w]
   rfl
  refine pure_ (i := 6) (N := some 13) (v := ?_) (a' := ?_) #[true, false, false, false, true, false, true, false, false, false, false, false] rfl rfl (any_of HT_.out (by kernel_rfl)) (fun _ _ _ h => h) (Or.inl ⟨by rfl, ?_⟩) ?_ ?_
  rotate_left
  ·intro w'
   go_simp
   with_reducible rfl
  rotate_left
  ·simp only [Act.put, List.setIfInBounds_toArray, List.set_cons_zero, List.set_cons_succ, i64_w, i32_w]
   rfl
  refine take_ (i := 1) (N := some 8) (v := ?_) (a' := ?_) #[true, true, false, false, true, false, true, false, false, false, false, false] rfl rfl (take_ofW HT_.out HW_.out (by kernel_rfl)) (fun _ _ _ h => h) (Or.inl ⟨by rfl, ?_⟩) hHeld ?_ ?_
  rotate_left
  ·rintro w' ⟨s0, s1, s2⟩
   go_simp
   with_reducible rfl
  rotate_left
  ·simp only [Act.put, List.setIfInBounds_toArray, List.set_cons_zero, List.set_cons_succ, i64_w, i32_w]
   rfl
  refine pure_ (i := 2) (N := some 9) (v := ?_) (a' := ?_) #[true, true, true, false, true, false, true, false, false, false, false, false] rfl rfl (any_of HT_.out (by kernel_rfl)) (fun _ _ _ h => h) (Or.inl ⟨by rfl, ?_⟩) ?_ ?_
  rotate_left
  ·intro w'
   go_simp
   with_reducible rfl
  rotate_left
  ·simp only [Act.put, List.setIfInBounds_toArray, List.set_cons_zero, List.set_cons_succ, i64_w, i32_w]
   rfl
  refine take_ (i := 5) (N := some 12) (v := ?_) (a' := ?_) #[true, true, true, false, true, true, true, false, false, false, false, false] rfl rfl (take_ofW HT_.out HW_.out (by kernel_rfl)) (fun _ _ _ h => h) (Or.inl ⟨by rfl, ?_⟩) hHeld ?_ ?_
  rotate_left
  ·rintro w' ⟨s0, s1, s2⟩
   go_simp
   with_reducible rfl
  rotate_left
  ·simp only [Act.put, List.setIfInBounds_toArray, List.set_cons_zero, List.set_cons_succ, i64_w, i32_w]
   rfl
  refine take_ (i := 7) (N := some 14) (v := ?_) (a' := ?_) #[true, true, true, false, true, true, true, true, false, false, false, false] rfl rfl (take_ofW HT_.out HW_.out (by kernel_rfl)) (fun _ _ _ h => h) (Or.inl ⟨by rfl, ?_⟩) hHeld ?_ ?_
  rotate_left
  ·rintro w' ⟨s0, s1, s2⟩
   go_simp
   with_reducible rfl
  rotate_left
  ·simp only [Act.put, List.setIfInBounds_toArray, List.set_cons_zero, List.set_cons_succ, i64_w, i32_w]
   rfl
  refine one_ (i := 3) (N := some 10) #[true, true, true, true, true, true, true, true, false, false, false, false] rfl rfl (one_of HT_.out (by kernel_rfl)) (by decide) (fun K hK => ?_)
  refine goes_ Tryz.func39 (by kernel_rfl) rfl #[.int .u64 (IntKind.u64.wrap (a0_0))] (by rfl) rfl rfl (by (try simp only [List.map_toArray, List.map_cons, List.map_nil]); first | done | rfl | (simp only [List.length_drop, List.length_take]; rfl)) ?_
  with_reducible refine (PA.letterlockref2_Put.calls k (IntKind.u64.wrap (a0_0)) t109 _ A4.out).mono ?_
  rintro e w10 ⟨rfl, hb⟩
  refine ⟨_, rfl, ?_⟩
  have n0_ := Aside0.mk (blk_below (g := gb107) (o := .cells #[.int .i64 a0_0, .string a0_1, .string a0_2] 26 (0, 0)) (by (with_reducible repeat (first | refine blk_drewN ?_ _ | refine blk_drew ?_ | refine blk_alloc ?_ _)); exact BK107.out) hb)
  have n1_ := Aside0.mk (below_step (by repeat (first | (with_reducible first | exact HB.out | apply below_alloc | apply pw_below_drewN | apply below_drew1 | refine below_set ?_ GE107.out) | exact HB.out)) hb)
  clear BK107
  clear HB
  have BK107 := n0_
  have HB := n1_
  clear n0_ n1_
  (try clear hb)
  (try clear hb2)
  (try clear hk)
  (try clear hi)
  refine hK.out _ _ ⟨(blk_cell BK107.out 0).trans rfl, (blk_cell BK107.out 1).trans rfl, (blk_cell BK107.out 2).trans rfl⟩ (fun hHeld => ?_)
  clear hK K
  refine norm_ (a' := ?_) ?_ ?_
  rotate_left
  ·show Act.put _ (some 10) _ = _
   simp only [Act.put, List.setIfInBounds_toArray, List.set_cons_zero, List.set_cons_succ, i64_w, i32_w]
   rfl
  refine one_ (i := 8) (N := some 15) #[true, true, true, true, true, true, true, true, true, false, false, false] rfl rfl (one_of HT_.out (by kernel_rfl)) (by decide) (fun K hK => ?_)
  refine Kd.R_lit_step Kd.string _ 9 ?hg (N := 15) ?hd (xs := ([t109, a0_1, a0_2] : List ByteArray)) (inner := [.string t109, .string a0_1, .string a0_2]) (ok := fun _ => True) (okp := fun _ => True) ?hr ?hp (fun _ hk => hk) trivial (Below.refl _ _) (Nat.le_refl _) (by simp) ?_; (case hd => rfl); (case hg => rfl); (case hr => first | (go_simp; done) | (go_simp; rfl)); (case hp => exact (Reps.one (show Kd.M Kd.string _ _ _ t109 [.string t109] from rfl) (Reps.one (show Kd.M Kd.string _ _ _ a0_1 [.string a0_1] from rfl) (Reps.one (show Kd.M Kd.string _ _ _ a0_2 [.string a0_2] from rfl) (Reps.none _ _)))))
  intro v111 w11 ho12 hb hg_ hnew_
  clear hg_ hnew_
  (first | rw [← Ny110.out] at ho12 | (simp only [Int.reduceToNat] at ho12; rw [← Ny110.out] at ho12))
  have n0_ := Aside0.mk (Kd.R_lower ho12 (below_size (by repeat (first | (with_reducible first | exact HB.out | apply below_alloc | apply pw_below_drewN | apply below_drew1 | refine below_set ?_ GE107.out) | exact HB.out))))
  have n1_ := Aside0.mk (blk_below (g := gb107) (o := .cells #[.int .i64 a0_0, .string a0_1, .string a0_2] 26 (0, 0)) (by (with_reducible repeat (first | refine blk_drewN ?_ _ | refine blk_drew ?_ | refine blk_alloc ?_ _)); exact BK107.out) hb)
  have n2_ := Aside0.mk (below_step (by repeat (first | (with_reducible first | exact HB.out | apply below_alloc | apply pw_below_drewN | apply below_drew1 | refine below_set ?_ GE107.out) | exact HB.out)) hb)
  clear BK107
  clear HB
  have HO112 := n0_
  have BK107 := n1_
  have HB := n2_
  clear n0_ n1_ n2_
  clear hb ho12
  obtain ⟨Ao13, co13, eo13⟩ := Kd.R_slice HO112.out
  (first | subst eo13 | (injection eo13 with f1_ f2_ f3_; have f4_ := f1_.symm; have f5_ := f3_.symm; clear f1_ f2_ f3_; subst f4_; subst f5_))
  refine hK.out _ _ ⟨(blk_cell BK107.out 0).trans rfl, (blk_cell BK107.out 1).trans rfl, (blk_cell BK107.out 2).trans rfl⟩ (fun hHeld => ?_)
  clear hK K
  refine norm_ (a' := ?_) ?_ ?_
  rotate_left
  ·show Act.put _ (some 15) _ = _
   simp only [Act.put, List.setIfInBounds_toArray, List.set_cons_zero, List.set_cons_succ, i64_w, i32_w]
   rfl
  refine one_ (i := 9) (N := some 16) #[true, true, true, true, true, true, true, true, true, true, false, false] rfl rfl (one_of HT_.out (by kernel_rfl)) (by decide) (fun K hK => ?_)
  refine goes_ Tryz.func38 (by kernel_rfl) rfl #[.slice Ao13 y110.length co13] (by rfl) rfl rfl (by (try simp only [List.map_toArray, List.map_cons, List.map_nil]); first | done | rfl | (simp only [List.length_drop, List.length_take]; rfl)) ?_
  with_reducible refine (PA.letterlockref2_PutAll.calls k _ _ y110 t113 _ ?side1 ?side2 A5.out).mono ?_
  (case side1 => repeat (first | exact (Kd.R_reads' HO112.out).2.2 | (with_reducible refine Kd.C_alloc ?_ _) | (with_reducible refine Kd.C_drewN ?_ _) | (with_reducible refine Kd.C_drew ?_)))
  (case side2 => exact (Kd.R_reads' HO112.out).2.1)
  rintro e w14 ⟨rfl, hb⟩
  refine ⟨_, rfl, ?_⟩
  have n0_ := Aside0.mk (Kd.R_below (by (with_reducible repeat (first | apply Kd.R_alloc | apply Kd.R_drewN | apply Kd.R_drew)); exact HO112.out) hb)
  have n1_ := Aside0.mk (blk_below (g := gb107) (o := .cells #[.int .i64 a0_0, .string a0_1, .string a0_2] 26 (0, 0)) (by (with_reducible repeat (first | refine blk_drewN ?_ _ | refine blk_drew ?_ | refine blk_alloc ?_ _)); exact BK107.out) hb)
  have n2_ := Aside0.mk (below_step (by repeat (first | (with_reducible first | exact HB.out | apply below_alloc | apply pw_below_drewN | apply below_drew1 | refine below_set ?_ GE107.out) | exact HB.out)) hb)
  clear HO112
  clear BK107
  clear HB
  have HO112 := n0_
  have BK107 := n1_
  have HB := n2_
  clear n0_ n1_ n2_
  (try clear hb)
  (try clear hb2)
  (try clear hk)
  (try clear hi)
  refine hK.out _ _ ⟨(blk_cell BK107.out 0).trans rfl, (blk_cell BK107.out 1).trans rfl, (blk_cell BK107.out 2).trans rfl⟩ (fun hHeld => ?_)
  clear hK K
  refine norm_ (a' := ?_) ?_ ?_
  rotate_left
  ·show Act.put _ (some 16) _ = _
   simp only [Act.put, List.setIfInBounds_toArray, List.set_cons_zero, List.set_cons_succ, i64_w, i32_w]
   rfl
  refine pure_ (i := 10) (N := some 2) (v := ?_) (a' := ?_) #[true, true, true, true, true, true, true, true, true, true, true, false] rfl rfl (any_of HT_.out (by kernel_rfl)) (fun _ _ _ h => h) (Or.inl ⟨by rfl, ?_⟩) ?_ ?_
  rotate_left
  ·intro w'
   go_simp
   with_reducible rfl
  rotate_left
  ·simp only [Act.put, List.setIfInBounds_toArray, List.set_cons_zero, List.set_cons_succ, i64_w, i32_w]
   rfl
  refine pure_ (i := 11) (N := some 3) (v := ?_) (a' := ?_) #[true, true, true, true, true, true, true, true, true, true, true, true] rfl rfl (any_of HT_.out (by kernel_rfl)) (fun _ _ _ h => h) (Or.inl ⟨by rfl, ?_⟩) ?_ ?_
  rotate_left
  ·intro w'
   go_simp
   with_reducible rfl
  rotate_left
  ·simp only [Act.put, List.setIfInBounds_toArray, List.set_cons_zero, List.set_cons_succ, i64_w, i32_w]
   rfl
  refine done_ (done_of HT_.out (by kernel_rfl)) ?_
  try go_wp2
  go_ret2
  exact ⟨by first | rfl | (simp [errW_none, errW_some] <;> rfl) | (simp [*, errW_none, errW_some] <;> rfl), by repeat (first | (with_reducible first | exact HB.out | apply below_alloc | apply pw_below_drewN | apply below_drew1 | refine below_set ?_ GE107.out) | exact HB.out)⟩
 ·replace c3 := Bool.eq_false_iff.mpr c3
  subst c3
  have H1 : (some ((⟨#[]⟩ : ByteArray), 1)) = some (r1, r2) := by rw [if_neg (show ¬ (false = true) by decide)] at H; exact H
  clear H
  have H := H1
  clear H1
  simp only [Option.some.injEq, Prod.mk.injEq] at H
  obtain ⟨rfl, rfl⟩ := H
  go_enter Tryz.func12, Tryz.ntmps12
  go_wp2_with (first | ((with_reducible refine gate_dst (N := 1) rfl ?_); refine box_event ?hg (N := 1) ?hd (cs := #[.int .i64 a0_0, .string a0_1, .string a0_2]) (t := 26) ?hr ?_; (case hd => rfl); (case hg => rfl); (case hr => first | (go_simp; done) | (go_simp; rfl)); intro gb107 hg w15 hbox hb; have n0_ := Aside0.mk (below_step (by repeat (first | (with_reducible first | exact HB.out | apply below_alloc | apply pw_below_drewN | apply below_drew1) | exact HB.out)) hb); have n1_ := Aside0.mk (hbox); have n2_ := Aside0.mk ((by rw [hg]; exact (below_size (by repeat (first | (with_reducible first | exact HB.out | apply below_alloc | apply pw_below_drewN | apply below_drew1) | exact HB.out))) : w.heap.size ≤ gb107)); have n3_ := Aside0.mk ((by rw [hg]; exact (below_size (by repeat (first | (with_reducible first | exact HB.out | apply below_alloc | apply pw_below_drewN | apply below_drew1) | exact HB.out))) : w.heap.size ≤ gb107)); clear HB; have HB := n0_; have BK107 := n1_; have GW107 := n2_; have GE107 := n3_; clear n0_ n1_ n2_ n3_; clear hb hbox hg; have hcz16_0 : w15.cell? ⟨gb107, 0, none⟩ = some (.int .i64 a0_0) := (blk_cell BK107.out 0).trans rfl; have hcz16_1 : w15.cell? ⟨gb107, 1, none⟩ = some (.string a0_1) := (blk_cell BK107.out 1).trans rfl; have hcz16_2 : w15.cell? ⟨gb107, 2, none⟩ = some (.string a0_2) := (blk_cell BK107.out 2).trans rfl; have hfz16_0 := blk_frozen BK107.out 0; have hfz16_1 := blk_frozen BK107.out 1; have hfz16_2 := blk_frozen BK107.out 2) | ((with_reducible refine gate_callee (f := 20) rfl ?_); refine goesL_ (some 5) rfl rfl Tryz.func20 (by kernel_rfl) rfl #[.agg #[.int .i64 a0_0, .string a0_1, .string a0_2]] rfl (by (try simp only [List.map_toArray, List.map_cons, List.map_nil]); first | done | rfl | (simp only [List.length_drop, List.length_take]; rfl)) ?_; (with_reducible refine (letterlockref9_Right.calls k a0_0 a0_1 a0_2 false _ A2.out).mono ?_); rintro e w17 ⟨rfl, hb⟩; refine ⟨_, rfl, ?_⟩; have n0_ := Aside0.mk (blk_below (g := gb107) (o := .cells #[.int .i64 a0_0, .string a0_1, .string a0_2] 26 (0, 0)) (by (with_reducible repeat (first | refine blk_drewN ?_ _ | refine blk_drew ?_ | refine blk_alloc ?_ _)); exact BK107.out) hb); have n1_ := Aside0.mk (below_step (by repeat (first | (with_reducible first | exact HB.out | apply below_alloc | apply pw_below_drewN | apply below_drew1 | refine below_set ?_ GE107.out) | exact HB.out)) hb); clear BK107; clear HB; have BK107 := n0_; have HB := n1_; clear n0_ n1_; (try clear hb); (try clear hb2); (try clear hk); (try clear hi)))
  go_ret2
  exact ⟨by first | rfl | (simp [errW_none, errW_some] <;> rfl) | (simp [*, errW_none, errW_some] <;> rfl), by repeat (first | (with_reducible first | exact HB.out | apply below_alloc | apply pw_below_drewN | apply below_drew1 | refine below_set ?_ GE107.out) | exact HB.out)⟩
def letterlockref9_texts.j0 : Nat → ByteArray → Bool → Option (ByteArray × ByteArray × Bool)
 | 0, _, _ => none
 | k + 1, x0, x17 => if x17 = true then (some ((⟨#[]⟩ : ByteArray), (⟨#[]⟩ : ByteArray), false)) else ((PA.letterlockref3_Parts.f k x0).bind fun bt114 => (if 0 < (bt114.1.length : Int) then ((PA.letterlockref3_Words.f k (rdOf ByteArray.empty bt114.1 0)).bind fun bt119 => (if 1 < (bt114.1.length : Int) then ((PA.letterlockref3_Words.f k (rdOf ByteArray.empty bt114.1 1)).bind fun bt122 => (if bt119.2 = 0 then (some (bt119.1, bt122.1, (bt122.2 == 0))) else (some (bt119.1, bt122.1, false)))) else (none))) else (none)))
def letterlockref9_texts.f (k : Nat) (a0 : ByteArray) : Option (ByteArray × ByteArray × Bool) := if a0.toList = ([] : List UInt8) then (letterlockref9_texts.j0 k a0 true) else (if 0 < (a0.size : Int) then (letterlockref9_texts.j0 k a0 ((bt a0 0) != 112)) else (none))
set_option maxHeartbeats 8000000 in
set_option maxRecDepth 100000 in
theorem letterlockref9_texts.calls (k : Nat) (a0 : ByteArray) (r1 : ByteArray) (r2 : ByteArray) (r3 : Bool) (w : World) (h : letterlockref9_texts.f k a0 = some (r1, r2, r3)) :
  Calls Tryz.prog 76 #[.string a0] w fun e w' => e = .returned (.tuple #[.string r1, .string r2, .bool r3]) ∧ Below w.heap.size w w' := by
 have HB := Aside0.mk (Below.refl w.heap.size w)
 have H : (if a0.toList = ([] : List UInt8) then (letterlockref9_texts.j0 k a0 true) else (if 0 < (a0.size : Int) then (letterlockref9_texts.j0 k a0 ((bt a0 0) != 112)) else (none))) = some (r1, r2, r3) := h
 clear h
 have HC2 := Aside0.mk H
 clear H
 go_enter Tryz.func76, Tryz.ntmps76
 go_upto_region 1 with (fail)
 go_cut [17] (fun v17 wc => ∃ (kq : Nat) (x17_1 : Bool), v17 = .bool x17_1 ∧ Aside0 (letterlockref9_texts.j0 kq a0 x17_1 = some (r1, r2, r3)) ∧ Aside0 (kq ≤ k) ∧ Aside0 (Below w.heap.size w wc))
 case first =>
  have H := HC2.out
  clear HC2
  by_cases c3 : a0.toList = ([] : List UInt8)
  ·rw [if_pos c3] at H
   have c3b0 : (a0.toList == ([] : List UInt8)) = true := beq_iff_eq.mpr c3
   have c3b1 : (a0.toList != ([] : List UInt8)) = false := bne_eq_false_iff_eq.mpr c3
   clear c3
   (first | rw [c3b0] | (simp only [i64_w, i32_w]; rw [c3b0]) | skip)
   have H' := Aside0.mk H
   clear H
   go_wp2
   go_meet
   case rel => exact ⟨_, (true), (by first | rfl | (simp; done) | (simp [*]; done)), H', ⟨by first | omega | exact Nat.le_refl _⟩, ⟨by repeat (first | (with_reducible first | exact HB.out | apply below_alloc | apply pw_below_drewN | apply below_drew1) | exact HB.out)⟩⟩
  ·rw [if_neg c3] at H
   have c3b0 : (a0.toList == ([] : List UInt8)) = false := beq_eq_false_iff_ne.mpr c3
   have c3b1 : (a0.toList != ([] : List UInt8)) = true := bne_iff_ne.mpr c3
   (first | rw [c3b0] | (simp only [i64_w, i32_w]; rw [c3b0]) | skip)
   by_cases c4 : 0 < (a0.size : Int)
   ·rw [if_pos c4] at H
    have c4b0 : decide (0 < (a0.size : Int)) = true := decide_eq_true c4
    have c4b1 : decide (0 < a0.size) = true := decide_eq_true (by omega)
    clear c4
    have H' := Aside0.mk H
    clear H
    have p5 : 0 ≤ (0 : Int) := (by omega)
    have q5 : 0 < a0.size := (by have : (0 : Int) < (a0.size : Int) := of_decide_eq_true (by first | (with_reducible assumption) | assumption); omega)
    have hx5 : ∀ h : 0 < a0.size, ((a0[0]'h).toNat : Int) = bt a0 0 := bt_at a0 0
    clear p5
    have qi5 : (0 < (a0.size : Int)) = True := eq_true (of_decide_eq_true (by first | (with_reducible assumption) | assumption))
    replace q5 := eq_true q5
    go_wp2
    go_meet
    case rel => exact ⟨_, (((bt a0 0) != 112)), (by first | rfl | (simp; done) | (simp [*]; done)), H', ⟨by first | omega | exact Nat.le_refl _⟩, ⟨by repeat (first | (with_reducible first | exact HB.out | apply below_alloc | apply pw_below_drewN | apply below_drew1) | exact HB.out)⟩⟩
   ·rw [if_neg c4] at H
    exact absurd H (by simp)
 case rest =>
  clear HC2
  try clear p2
  try clear c3
  try clear c3b0
  try clear c3b1
  try clear c4
  try clear c4b0
  try clear c4b1
  try clear p5
  try clear q5
  try clear hx5
  try clear qi5
  try clear p5
  try clear q5
  obtain ⟨kq, x17_1, rfl, HA, HJ1, HB⟩ := hcut
  cases kq with
  | zero => exact absurd HA.out (by simp [letterlockref9_texts.j0])
  | succ kj1 =>
   have H := HA.out
   clear HA
   simp only [letterlockref9_texts.j0] at H
   by_cases c6 : x17_1 = true
   ·subst c6
    have H1 : (some ((⟨#[]⟩ : ByteArray), (⟨#[]⟩ : ByteArray), false)) = some (r1, r2, r3) := by rw [if_pos rfl] at H; exact H
    clear H
    have H := H1
    clear H1
    simp only [Option.some.injEq, Prod.mk.injEq] at H
    obtain ⟨rfl, rfl, rfl⟩ := H
    go_wp2
    go_ret3
    exact ⟨by first | rfl | (simp [errW_none, errW_some] <;> rfl) | (simp [*, errW_none, errW_some] <;> rfl), by repeat (first | (with_reducible first | exact HB.out | apply below_alloc | apply pw_below_drewN | apply below_drew1) | exact HB.out)⟩
   ·replace c6 := Bool.eq_false_iff.mpr c6
    subst c6
    have H1 : ((PA.letterlockref3_Parts.f kj1 a0).bind fun bt114 => (if 0 < (bt114.1.length : Int) then ((PA.letterlockref3_Words.f kj1 (rdOf ByteArray.empty bt114.1 0)).bind fun bt119 => (if 1 < (bt114.1.length : Int) then ((PA.letterlockref3_Words.f kj1 (rdOf ByteArray.empty bt114.1 1)).bind fun bt122 => (if bt119.2 = 0 then (some (bt119.1, bt122.1, (bt122.2 == 0))) else (some (bt119.1, bt122.1, false)))) else (none))) else (none))) = some (r1, r2, r3) := by rw [if_neg (show ¬ (false = true) by decide)] at H; exact H
    clear H
    have H := H1
    clear H1
    replace H := Option.bind_eq_some_iff.mp H
    obtain ⟨⟨t114, t115⟩, A70, H⟩ := H
    replace H : (if 0 < (t114.length : Int) then ((PA.letterlockref3_Words.f kj1 (rdOf ByteArray.empty t114 0)).bind fun bt119 => (if 1 < (t114.length : Int) then ((PA.letterlockref3_Words.f kj1 (rdOf ByteArray.empty t114 1)).bind fun bt122 => (if bt119.2 = 0 then (some (bt119.1, bt122.1, (bt122.2 == 0))) else (some (bt119.1, bt122.1, false)))) else (none))) else (none)) = some (r1, r2, r3) := H
    have A7 := Aside0.mk A70
    clear A70
    by_cases c8 : 0 < (t114.length : Int)
    ·rw [if_pos c8] at H
     have c8b0 : decide (0 < (t114.length : Int)) = true := decide_eq_true c8
     have c8b1 : decide (0 < t114.length) = true := decide_eq_true (by omega)
     clear c8
     replace H := Option.bind_eq_some_iff.mp H
     obtain ⟨⟨t119, t120⟩, A90, H⟩ := H
     replace H : (if 1 < (t114.length : Int) then ((PA.letterlockref3_Words.f kj1 (rdOf ByteArray.empty t114 1)).bind fun bt122 => (if t120 = 0 then (some (t119, bt122.1, (bt122.2 == 0))) else (some (t119, bt122.1, false)))) else (none)) = some (r1, r2, r3) := H
     have A9 := Aside0.mk A90
     clear A90
     by_cases c10 : 1 < (t114.length : Int)
     ·rw [if_pos c10] at H
      have c10b0 : decide (1 < (t114.length : Int)) = true := decide_eq_true c10
      have c10b1 : decide (1 < t114.length) = true := decide_eq_true (by omega)
      clear c10
      replace H := Option.bind_eq_some_iff.mp H
      obtain ⟨⟨t122, t123⟩, A110, H⟩ := H
      replace H : (if t120 = 0 then (some (t119, t122, (t123 == 0))) else (some (t119, t122, false))) = some (r1, r2, r3) := H
      have A11 := Aside0.mk A110
      clear A110
      by_cases c12 : t120 = 0
      ·rw [if_pos c12] at H
       have c12b0 : (t120 == 0) = true := beq_iff_eq.mpr c12
       have c12b1 : (t120 != 0) = false := bne_eq_false_iff_eq.mpr c12
       clear c12
       simp only [Option.some.injEq, Prod.mk.injEq] at H
       obtain ⟨rfl, rfl, rfl⟩ := H
       go_wp2_with (first | ((with_reducible refine gate_callee (f := 110) rfl ?_); refine goesL_ (some 20) rfl rfl Tryz.func110 (by kernel_rfl) rfl #[.string a0] rfl (by (try simp only [List.map_toArray, List.map_cons, List.map_nil]); first | done | rfl | (simp only [List.length_drop, List.length_take]; rfl)) ?_; (with_reducible refine (PA.letterlockref3_Parts.calls kj1 a0 t114 t115 _ A7.out).mono ?_); rintro e w13 ⟨v116, rfl, ho0, hb⟩; refine ⟨_, rfl, ?_⟩; have n0_ := Aside0.mk (Kd.R_lower ho0 (below_size (by repeat (first | (with_reducible first | exact HB.out | apply below_alloc | apply pw_below_drewN | apply below_drew1) | exact HB.out)))); have n1_ := Aside0.mk (below_step (by repeat (first | (with_reducible first | exact HB.out | apply below_alloc | apply pw_below_drewN | apply below_drew1) | exact HB.out)) hb); clear HB; have HO117 := n0_; have HB := n1_; clear n0_ n1_; (try clear hb); (try clear hb2); (try clear hk); (try clear hi); (try clear ho0); obtain ⟨Ao14, co14, eo14⟩ := Kd.R_slice HO117.out; subst eo14; have p118 : 0 ≤ (0 : Int) := (by omega); have q118 : 0 < (t114.length : Int) := of_decide_eq_true (by first | (with_reducible assumption) | assumption); obtain ⟨ad118, e118, hx118_0⟩ := Kd.at_string (Kd.R_reads' HO117.out).2.2 0 p118 q118; cases e118; have qi118 : (0 < t114.length) = True := eq_true (by omega); (try rw [show ((0 : Int)).toNat = 0 from rfl] at hx118_0); (try rw [Addr.add_zero'] at hx118_0); replace p118 := eq_true p118; replace q118 := eq_true q118) | ((with_reducible refine gate_callee (f := 111) rfl ?_); refine goesL_ (some 27) rfl rfl Tryz.func111 (by kernel_rfl) rfl #[.string (rdOf ByteArray.empty t114 0)] rfl (by (try simp only [List.map_toArray, List.map_cons, List.map_nil]); first | done | rfl | (simp only [List.length_drop, List.length_take]; rfl)) ?_; (with_reducible refine (PA.letterlockref3_Words.calls kj1 (rdOf ByteArray.empty t114 0) t119 t120 _ A9.out).mono ?_); rintro e w15 ⟨rfl, hb⟩; refine ⟨_, rfl, ?_⟩; have n0_ := Aside0.mk (Kd.R_below (by (with_reducible repeat (first | apply Kd.R_alloc | apply Kd.R_drewN | apply Kd.R_drew)); exact HO117.out) hb); have n1_ := Aside0.mk (below_step (by repeat (first | (with_reducible first | exact HB.out | apply below_alloc | apply pw_below_drewN | apply below_drew1) | exact HB.out)) hb); clear HO117; clear HB; have HO117 := n0_; have HB := n1_; clear n0_ n1_; (try clear hb); (try clear hb2); (try clear hk); (try clear hi); have p121 : 0 ≤ (1 : Int) := (by omega); have q121 : 1 < (t114.length : Int) := of_decide_eq_true (by first | (with_reducible assumption) | assumption); obtain ⟨ad121, e121, hx121_0⟩ := Kd.at_string (Kd.R_reads' HO117.out).2.2 1 p121 q121; obtain rfl : ad118 = ad121 := (by injection e121); (try simp only [show (1 : Int).toNat = 1 from rfl, Nat.reduceMul, Nat.reduceEqDiff, Go.Addr.add, ↓reduceIte] at hx121_0); have qi121 : (1 < t114.length) = True := eq_true (by omega); (try rw [show ((1 : Int)).toNat = 1 from rfl] at hx121_0); replace p121 := eq_true p121; replace q121 := eq_true q121) | ((with_reducible refine gate_callee (f := 111) rfl ?_); refine goesL_ (some 34) rfl rfl Tryz.func111 (by kernel_rfl) rfl #[.string (rdOf ByteArray.empty t114 1)] rfl (by (try simp only [List.map_toArray, List.map_cons, List.map_nil]); first | done | rfl | (simp only [List.length_drop, List.length_take]; rfl)) ?_; (with_reducible refine (PA.letterlockref3_Words.calls kj1 (rdOf ByteArray.empty t114 1) t122 t123 _ A11.out).mono ?_); rintro e w16 ⟨rfl, hb⟩; refine ⟨_, rfl, ?_⟩; have n0_ := Aside0.mk (Kd.R_below (by (with_reducible repeat (first | apply Kd.R_alloc | apply Kd.R_drewN | apply Kd.R_drew)); exact HO117.out) hb); have n1_ := Aside0.mk (below_step (by repeat (first | (with_reducible first | exact HB.out | apply below_alloc | apply pw_below_drewN | apply below_drew1) | exact HB.out)) hb); clear HO117; clear HB; have HO117 := n0_; have HB := n1_; clear n0_ n1_; (try clear hb); (try clear hb2); (try clear hk); (try clear hi)))
       go_ret3
       exact ⟨by first | rfl | (simp [errW_none, errW_some] <;> rfl) | (simp [*, errW_none, errW_some] <;> rfl), by repeat (first | (with_reducible first | exact HB.out | apply below_alloc | apply pw_below_drewN | apply below_drew1) | exact HB.out)⟩
      ·rw [if_neg c12] at H
       have c12b0 : (t120 == 0) = false := beq_eq_false_iff_ne.mpr c12
       have c12b1 : (t120 != 0) = true := bne_iff_ne.mpr c12
       simp only [Option.some.injEq, Prod.mk.injEq] at H
       obtain ⟨rfl, rfl, rfl⟩ := H
       go_wp2_with (first | ((with_reducible refine gate_callee (f := 110) rfl ?_); refine goesL_ (some 20) rfl rfl Tryz.func110 (by kernel_rfl) rfl #[.string a0] rfl (by (try simp only [List.map_toArray, List.map_cons, List.map_nil]); first | done | rfl | (simp only [List.length_drop, List.length_take]; rfl)) ?_; (with_reducible refine (PA.letterlockref3_Parts.calls kj1 a0 t114 t115 _ A7.out).mono ?_); rintro e w17 ⟨v116, rfl, ho0, hb⟩; refine ⟨_, rfl, ?_⟩; have n0_ := Aside0.mk (Kd.R_lower ho0 (below_size (by repeat (first | (with_reducible first | exact HB.out | apply below_alloc | apply pw_below_drewN | apply below_drew1) | exact HB.out)))); have n1_ := Aside0.mk (below_step (by repeat (first | (with_reducible first | exact HB.out | apply below_alloc | apply pw_below_drewN | apply below_drew1) | exact HB.out)) hb); clear HB; have HO117 := n0_; have HB := n1_; clear n0_ n1_; (try clear hb); (try clear hb2); (try clear hk); (try clear hi); (try clear ho0); obtain ⟨Ao18, co18, eo18⟩ := Kd.R_slice HO117.out; subst eo18; have p118 : 0 ≤ (0 : Int) := (by omega); have q118 : 0 < (t114.length : Int) := of_decide_eq_true (by first | (with_reducible assumption) | assumption); obtain ⟨ad118, e118, hx118_0⟩ := Kd.at_string (Kd.R_reads' HO117.out).2.2 0 p118 q118; cases e118; have qi118 : (0 < t114.length) = True := eq_true (by omega); (try rw [show ((0 : Int)).toNat = 0 from rfl] at hx118_0); (try rw [Addr.add_zero'] at hx118_0); replace p118 := eq_true p118; replace q118 := eq_true q118) | ((with_reducible refine gate_callee (f := 111) rfl ?_); refine goesL_ (some 27) rfl rfl Tryz.func111 (by kernel_rfl) rfl #[.string (rdOf ByteArray.empty t114 0)] rfl (by (try simp only [List.map_toArray, List.map_cons, List.map_nil]); first | done | rfl | (simp only [List.length_drop, List.length_take]; rfl)) ?_; (with_reducible refine (PA.letterlockref3_Words.calls kj1 (rdOf ByteArray.empty t114 0) t119 t120 _ A9.out).mono ?_); rintro e w19 ⟨rfl, hb⟩; refine ⟨_, rfl, ?_⟩; have n0_ := Aside0.mk (Kd.R_below (by (with_reducible repeat (first | apply Kd.R_alloc | apply Kd.R_drewN | apply Kd.R_drew)); exact HO117.out) hb); have n1_ := Aside0.mk (below_step (by repeat (first | (with_reducible first | exact HB.out | apply below_alloc | apply pw_below_drewN | apply below_drew1) | exact HB.out)) hb); clear HO117; clear HB; have HO117 := n0_; have HB := n1_; clear n0_ n1_; (try clear hb); (try clear hb2); (try clear hk); (try clear hi); have p121 : 0 ≤ (1 : Int) := (by omega); have q121 : 1 < (t114.length : Int) := of_decide_eq_true (by first | (with_reducible assumption) | assumption); obtain ⟨ad121, e121, hx121_0⟩ := Kd.at_string (Kd.R_reads' HO117.out).2.2 1 p121 q121; obtain rfl : ad118 = ad121 := (by injection e121); (try simp only [show (1 : Int).toNat = 1 from rfl, Nat.reduceMul, Nat.reduceEqDiff, Go.Addr.add, ↓reduceIte] at hx121_0); have qi121 : (1 < t114.length) = True := eq_true (by omega); (try rw [show ((1 : Int)).toNat = 1 from rfl] at hx121_0); replace p121 := eq_true p121; replace q121 := eq_true q121) | ((with_reducible refine gate_callee (f := 111) rfl ?_); refine goesL_ (some 34) rfl rfl Tryz.func111 (by kernel_rfl) rfl #[.string (rdOf ByteArray.empty t114 1)] rfl (by (try simp only [List.map_toArray, List.map_cons, List.map_nil]); first | done | rfl | (simp only [List.length_drop, List.length_take]; rfl)) ?_; (with_reducible refine (PA.letterlockref3_Words.calls kj1 (rdOf ByteArray.empty t114 1) t122 t123 _ A11.out).mono ?_); rintro e w20 ⟨rfl, hb⟩; refine ⟨_, rfl, ?_⟩; have n0_ := Aside0.mk (Kd.R_below (by (with_reducible repeat (first | apply Kd.R_alloc | apply Kd.R_drewN | apply Kd.R_drew)); exact HO117.out) hb); have n1_ := Aside0.mk (below_step (by repeat (first | (with_reducible first | exact HB.out | apply below_alloc | apply pw_below_drewN | apply below_drew1) | exact HB.out)) hb); clear HO117; clear HB; have HO117 := n0_; have HB := n1_; clear n0_ n1_; (try clear hb); (try clear hb2); (try clear hk); (try clear hi)))
       go_ret3
       exact ⟨by first | rfl | (simp [errW_none, errW_some] <;> rfl) | (simp [*, errW_none, errW_some] <;> rfl), by repeat (first | (with_reducible first | exact HB.out | apply below_alloc | apply pw_below_drewN | apply below_drew1) | exact HB.out)⟩
     ·rw [if_neg c10] at H
      exact absurd H (by simp)
    ·rw [if_neg c8] at H
     exact absurd H (by simp)
end Go.Proofs.YtphehoidkmficaaGreatDoor.PS
end
section

namespace Go.Proofs.YtphehoidkmficaaGreatDoor.Ref
open Go.RowKit Go.Proofs.YtphehoidkmficaaGreatDoor Go.Proofs.YtphehoidkmficaaGreatDoor.PA Go.Proofs.YtphehoidkmficaaGreatDoorW.PrintWords Go.Proofs.YtphehoidkmficaaGreatDoorW.PrintLast
set_option linter.unusedVariables false
theorem nums_of (l : List Int) : strOfNums l = ofBytes (l.map fun n => UInt8.ofNat n.toNat) := bs_inj (by rw [nums_bytes, bytes_ofBytes])
theorem u8_mod (n : Nat) : UInt8.ofNat (n % 256) = UInt8.ofNat n := UInt8.toNat_inj.1 (by rw [UInt8.toNat_ofNat', UInt8.toNat_ofNat']; omega)
theorem beBytes_bits {n : Nat} (h : n < 18446744073709551616) : (beBytes n).length = (Lib.bitLen n + 7) / 8 := by
 induction n using Nat.strongRecOn with
 | _ n ih =>
  by_cases h0 : n = 0
  ·subst h0
   rw [beBytes_zero]
   rfl
  by_cases h1 : n < 256
  ·have h2 := Lib.bitLen_le8 ⟨n, h1⟩
   have h3 := Lib.bitLen_half n h0 (by omega)
   have h2 : Lib.bitLen n ≤ 8 := h2
   rw [beBytes_pos h0, show n / 256 = 0 from by omega, beBytes_zero]
   simp only [List.nil_append, List.length_singleton]
   omega
  ·have h2 := Lib.bitLen_shift8 n (by omega) h
   have h3 := ih (n / 256) (by omega) (by omega)
   rw [beBytes_pos h0, List.length_append, h3, List.length_singleton]
   omega
theorem put_loop (i x : Nat) (h : Int) (zs tl : List Int) (hz : zs.length = i) (hx : (beBytes x).length = i) (hi : i ≤ 8) :
  Ev (fun k => wire_Put.l0 k (x : Int) (h :: (zs ++ tl)) (i : Int)) (strOfNums (h :: ((beBytes x).map (fun c => (c.toNat : Int)) ++ tl))) := by
 induction i generalizing x zs tl with
 | zero =>
  obtain rfl := List.length_eq_zero_iff.1 hz
  have : beBytes x = [] := List.length_eq_zero_iff.1 hx
  rw [this]
  refine Ev.step (fun _ => rfl) (Ev.neg (by simp) (Ev.now _))
 | succ i ih =>
  have hx0 : x ≠ 0 := by rintro rfl; rw [beBytes_zero] at hx; simp at hx
  rw [beBytes_pos hx0] at hx
  simp only [List.length_append, List.length_singleton, Nat.add_right_cancel_iff] at hx
  obtain ⟨ys, z, rfl⟩ : ∃ ys z, zs = ys ++ [z] := ⟨zs.dropLast, zs.getLast (by rintro rfl; simp at hz), (List.dropLast_concat_getLast _).symm⟩
  simp only [List.length_append, List.length_singleton, Nat.add_right_cancel_iff] at hz
  refine Ev.step (fun _ => rfl) (Ev.pos (by omega) (Ev.pos (by omega) (Ev.pos (by simp only [List.length_cons, List.length_append, hz]; omega) ?_)))
  have h1 : (h :: (ys ++ [z] ++ tl)).set (((i + 1 : Nat) : Int)).toNat ((x : Int) % 256) = h :: (ys ++ ((x : Int) % 256 :: tl)) := by
   rw [Int.toNat_natCast, List.set_cons_succ, List.append_assoc, List.set_append_right _ _ (by omega), hz, Nat.sub_self]
   rfl
  have h2 : wrap64 (((i + 1 : Nat) : Int) - 1) = (i : Int) := by rw [w64 (by omega) (by omega)]; omega
  rw [h1, h2]
  refine ev_cast (ih (x / 256) ys ((x : Int) % 256 :: tl) hz hx (by omega)) ?_
  rw [beBytes_pos hx0, List.map_append, List.append_assoc]
  congr 3
  simp only [List.map_cons, List.map_nil, List.singleton_append, toNat_mod]
  congr 1
theorem ofNat_map (l : Bs) : (l.map (fun c => (c.toNat : Int))).map (fun n => UInt8.ofNat n.toNat) = l := by
 rw [List.map_map]
 conv => rhs; rw [← List.map_id l]
 congr 1
 funext c
 simp [UInt8.ofNat_toNat]
theorem wirePut_ev (n : Nat) (h : n < 18446744073709551616) : Ev (fun k => wire_Put.f k (n : Int)) (ofBytes (putL n)) := by
 have hb := beBytes_bits h
 have h8 := beBytes_len8 h
 have hl : bits_Len64.f (n : Int) = some ((Lib.bitLen n : Nat) : Int) := by
  unfold bits_Len64.f
  rw [if_pos ⟨by omega, by omega⟩, Int.toNat_natCast]
 have h1 : wrap64 (Int.tdiv (wrap64 (((Lib.bitLen n : Nat) : Int) + 7)) 8) = ((beBytes n).length : Int) := by
  rw [w64 (n := ((Lib.bitLen n : Nat) : Int) + 7) (by omega) (by omega), Int.tdiv_eq_ediv_of_nonneg (by omega), hb]
  rw [w64 (by omega) (by omega)]
  omega
 unfold wire_Put.f
 refine Ev.put hl ?_
 rw [h1, w64 (n := 1 + ((beBytes n).length : Int)) (by omega) (by omega)]
 refine Ev.pos (by omega) (Ev.pos (by omega) (Ev.put rfl (Ev.pos (by rw [List.length_replicate]; omega) ?_)))
 rw [show (1 + ((beBytes n).length : Int)).toNat = (beBytes n).length + 1 from by omega, List.replicate_succ]
 have h2 := put_loop (beBytes n).length n (((beBytes n).length : Int) % 256) (List.replicate (beBytes n).length 0) [] (by simp) rfl h8
 rw [List.append_nil] at h2
 refine ev_cast h2 ?_
 rw [nums_of, List.append_nil, List.map_cons, ofNat_map]
 unfold putL
 clear h2 h1 hl
 congr 2
 rw [show (((beBytes n).length : Int) % 256).toNat = (beBytes n).length % 256 from by omega]
 exact u8_mod _
def numB (n : Nat) : ByteArray := ofBytes (putL n)
theorem size_numB {n : Nat} (h : n < 18446744073709551616) : (numB n).size ≤ 9 := by
 unfold numB; rw [size_ofBytes]; exact putL_len h
theorem joinB_two (a b : ByteArray) : joinB [a, b] = a ++ b := by
 unfold joinB
 simp only [List.flatMap_cons, List.flatMap_nil, List.append_nil]
 rw [ofBytes_append, ofBytes_bytes, ofBytes_bytes]
theorem putText_ev (s : ByteArray) (h : s.size ≤ 100000000000000) : Ev (fun k => wire_PutText.f k s) (numB s.size ++ s) := by
 have hw : IntKind.u64.wrap (s.size : Int) = (s.size : Int) := by rw [IntKind.wrap_u64]; omega
 unfold wire_PutText.f
 rw [hw]
 refine Ev.bind (wirePut_ev s.size (by omega)) (Ev.put (a := numB s.size ++ s) ?_ (Ev.now _))
 have := size_numB (n := s.size) (by omega)
 show wire_join.f [numB s.size, s] = _
 unfold wire_join.f
 rw [if_pos ⟨by simp, by rw [joinB_two, ByteArray.size_append]; omega⟩, joinB_two]
theorem refPut_loop (n : Nat) (acc : List Int) (hn : n < 18446744073709551616) (ha : acc.length + (beBytes n).length ≤ 8) :
  Ev (fun k => letterlockref2_Put.l0 k (n : Int) acc) (ofBytes (UInt8.ofNat (acc.length + (beBytes n).length) :: (beBytes n ++ bytes (strOfNums acc)))) := by
 induction n using Nat.strongRecOn generalizing acc with
 | _ n ih =>
  by_cases h0 : n = 0
  ·subst h0
   rw [beBytes_zero] at ha ⊢
   refine Ev.step (fun _ => rfl) (Ev.neg (by simp) (Ev.put rfl (Ev.pos ?_ (Ev.const ?_))))
   ·rw [← bytes_length, ← bytes_length, nums_bytes, nums_bytes, List.length_map, List.length_map]
    simp only [List.length_singleton]
    omega
   ·refine congrArg some (bs_inj ?_)
    rw [bytes_append, nums_bytes, bytes_ofBytes]
    simp only [List.map_cons, List.map_nil, List.length_nil, Nat.add_zero, List.nil_append, List.singleton_append]
    congr 2
    omega
  ·refine Ev.step (fun _ => rfl) (Ev.pos (by omega) (Ev.put rfl (Ev.pos ?_ ?_)))
   ·simp only [List.length_singleton]; omega
   ·have h1 : IntKind.u64.wrap (Int.tdiv (n : Int) 256) = ((n / 256 : Nat) : Int) := by
     rw [IntKind.wrap_u64, Int.tdiv_eq_ediv_of_nonneg (by omega)]; omega
    have h2 : Int.tmod (n : Int) 256 % 256 = ((n % 256 : Nat) : Int) := by
     rw [Int.tmod_eq_emod_of_nonneg (by omega)]; omega
    rw [h1, h2]
    rw [beBytes_pos h0, List.length_append, List.length_singleton] at ha
    refine ev_cast (ih (n / 256) (by omega) _ (by omega) (by simp only [List.length_append, List.length_singleton]; omega)) ?_
    rw [beBytes_pos h0]
    simp only [List.length_append, List.length_singleton]
    rw [show 1 + acc.length + (beBytes (n / 256)).length = acc.length + ((beBytes (n / 256)).length + 1) from by omega, List.append_assoc]
    congr 3
theorem refPut_ev (n : Nat) (h : n < 18446744073709551616) : Ev (fun k => letterlockref2_Put.f k (n : Int)) (numB n) := by
 have h8 := beBytes_len8 h
 unfold letterlockref2_Put.f
 refine ev_cast (refPut_loop n [] h (by simpa using h8)) ?_
 unfold numB putL
 rw [nums_bytes]
 simp
theorem refTake_loop (s : ByteArray) (j c m : Nat) (hm : j + m = c) (hj : 1 ≤ j) (hc : c ≤ s.size) (hc9 : c ≤ 9) :
  Ev (fun k => letterlockref2_Take.l0 k s ((beNum (((bytes s).drop 1).take (j - 1)) : Nat) : Int) (c : Int) (j : Int)) (((beNum (((bytes s).drop 1).take (c - 1)) : Nat) : Int), s.extract c s.size, 0) := by
 induction m generalizing j with
 | zero =>
  obtain rfl : j = c := by omega
  exact Ev.step (fun _ => rfl) (Ev.neg (by omega) (Ev.pos (by omega) (Ev.pos (by omega) (Ev.now _))))
 | succ m ih =>
  have hl : j - 1 < ((bytes s).drop 1).length := by rw [List.length_drop, bytes_length]; omega
  have hb : bt s (j : Int) = ((((bytes s).drop 1)[j - 1]).toNat : Int) := by
   rw [bt_bytes s j (by omega), List.getElem_drop]
   congr 2
   congr 1
   omega
  have hlt := beNum_lt (((bytes s).drop 1).take (j - 1))
  have hlen : (((bytes s).drop 1).take (j - 1)).length = j - 1 := by rw [List.length_take]; omega
  rw [hlen] at hlt
  have h7 : 256 ^ (j - 1) ≤ 256 ^ 7 := Nat.pow_le_pow_right (by decide) (by omega)
  have h7' : (256 : Nat) ^ 7 = 72057594037927936 := by decide
  have hbb := (((bytes s).drop 1)[j - 1]).toNat_lt
  have hst : beNum (((bytes s).drop 1).take (j + 1 - 1)) = beNum (((bytes s).drop 1).take (j - 1)) * 256 + (((bytes s).drop 1)[j - 1]).toNat := by
   rw [show j + 1 - 1 = (j - 1) + 1 from by omega, take_succ_get _ _ hl, beNum_snoc]
  refine Ev.step (fun _ => rfl) (Ev.pos (by omega) (Ev.pos (by omega) (Ev.pos (by omega) ?_)))
  have h1 : IntKind.u64.wrap (IntKind.u64.wrap (256 * ((beNum (((bytes s).drop 1).take (j - 1)) : Nat) : Int)) + IntKind.u64.wrap (bt s (j : Int))) = ((beNum (((bytes s).drop 1).take (j + 1 - 1)) : Nat) : Int) := by
   rw [hst, hb, IntKind.wrap_u64, IntKind.wrap_u64, IntKind.wrap_u64]
   omega
  rw [h1, w64 (n := (j : Int) + 1) (by omega) (by omega)]
  exact ih (j + 1) (by omega) (by omega)
theorem refTake_ev (s : ByteArray) : Ev (fun k => letterlockref2_Take.f k s) (takeF s) := by
 unfold letterlockref2_Take.f
 cases hs : bytes s with
 | nil =>
  have ht : takeF s = (0, ⟨#[]⟩, 2) := by unfold takeF; rw [hs]; rfl
  rw [ht]
  exact Ev.pos (by rw [bytes_toList, hs]) (Ev.step (fun _ => rfl) (Ev.now _))
 | cons c r =>
  have hsz : s.size = r.length + 1 := by rw [← bytes_length, hs, List.length_cons]
  have hb0 : bt s 0 = (c.toNat : Int) := by
   have := bt_bytes s 0 (by omega)
   simp only [hs, List.getElem_cons_zero] at this
   exact this
  have hlt := c.toNat_lt
  refine Ev.neg (by rw [bytes_toList, hs]; simp) (Ev.pos (by omega) ?_)
  rw [hb0]
  have hw : wrap64 (1 + wrap64 (c.toNat : Int)) = ((c.toNat + 1 : Nat) : Int) := by rw [w64 (n := (c.toNat : Int)) (by omega) (by omega), w64 (by omega) (by omega)]; omega
  rw [hw]
  have ht : takeF s = (match (if 8 < c.toNat then none else if r.length < c.toNat then none else if 0 < c.toNat ∧ r.head? = some 0 then none else some (beNum (r.take c.toNat), r.drop c.toNat)) with | none => (0, ⟨#[]⟩, 2) | some (n, r) => ((n : Int), ofBytes r, 0)) := by
   unfold takeF; rw [hs]; rfl
  by_cases h1 : 8 < c.toNat
  ·rw [if_pos h1] at ht
   rw [ht]
   exact Ev.pos (by omega) (Ev.step (fun _ => rfl) (Ev.now _))
  rw [if_neg h1] at ht
  refine Ev.neg (by omega) ?_
  by_cases h2 : r.length < c.toNat
  ·rw [if_pos h2] at ht
   rw [ht]
   exact Ev.pos (by omega) (Ev.step (fun _ => rfl) (Ev.now _))
  rw [if_neg h2] at ht
  refine Ev.neg (by omega) ?_
  have hgo : Ev (fun k => letterlockref2_Take.l0 k s 0 ((c.toNat + 1 : Nat) : Int) 1) (((beNum (r.take c.toNat) : Nat) : Int), ofBytes (r.drop c.toNat), 0) := by
   have := refTake_loop s 1 (c.toNat + 1) c.toNat (by omega) (by omega) (by omega) (by omega)
   rw [hs] at this
   refine ev_cast this ?_
   rw [show s.extract (c.toNat + 1) s.size = ofBytes (r.drop c.toNat) from bs_inj (by rw [bytes_from, hs, bytes_ofBytes]; rfl)]
   rfl
  by_cases h3 : 0 < c.toNat
  ·refine Ev.pos (by omega) ?_
   have hr0 : 0 < r.length := by omega
   have hb1 : bt s 1 = ((r[0]).toNat : Int) := by
    have := bt_bytes s 1 (by omega)
    simp only [hs, List.getElem_cons_succ] at this
    exact this
   have hh : r.head? = some r[0] := by rw [List.head?_eq_getElem?, List.getElem?_eq_getElem hr0]
   refine Ev.pos (by omega) ?_
   rw [hb1]
   by_cases h4 : r[0] = 0
   ·rw [if_pos ⟨h3, by rw [hh, h4]⟩] at ht
    rw [ht, h4]
    exact Ev.step (fun _ => rfl) (Ev.now _)
   ·have h5 : ¬ (r[0]).toNat = 0 := fun e => h4 (UInt8.toNat_inj.1 e)
    rw [if_neg (fun e => h4 (by have := e.2; rw [hh] at this; exact Option.some.inj this))] at ht
    rw [ht, beq_eq_false_iff_ne.mpr (by omega)]
    refine Ev.step (fun _ => rfl) (Ev.pos (by omega) ?_)
    rw [hb0, hw]
    exact hgo
  ·rw [if_neg (fun e => h3 e.1)] at ht
   rw [ht]
   refine Ev.neg (by omega) (Ev.step (fun _ => rfl) (Ev.pos (by omega) ?_))
   rw [hb0, hw]
   exact hgo
theorem refTakeText_ev (s : ByteArray) (h : s.size ≤ 1000000) : Ev (fun k => letterlockref2_TakeText.f k s 4000) (takeTextF 4000 s) := by
 unfold letterlockref2_TakeText.f takeTextF
 refine Ev.bind (refTake_ev s) ?_
 unfold takeF
 cases ht : takeL (bytes s) with
 | none => exact Ev.neg (by simp) (Ev.now _)
 | some x =>
  obtain ⟨n, r⟩ := x
  have hn := (take_inv ht).2
  have hr : r.length ≤ 1000000 := by
   have := congrArg List.length (take_inv ht).1
   rw [bytes_length, List.length_append] at this
   omega
  refine Ev.pos rfl ?_
  simp only
  rw [show IntKind.u64.wrap (mx 4000 0) = 4000 from rfl, size_ofBytes, show IntKind.u64.wrap (r.length : Int) = (r.length : Int) from by rw [IntKind.wrap_u64]; omega]
  by_cases h1 : 4000 < n
  ·rw [if_pos h1]; exact Ev.pos (by omega) (Ev.now _)
  rw [if_neg h1]
  refine Ev.neg (by omega) ?_
  by_cases h2 : r.length < n
  ·rw [if_pos h2]; exact Ev.pos (by omega) (Ev.now _)
  rw [if_neg h2]
  refine Ev.neg (by omega) (Ev.pos (by omega) (Ev.pos (by omega) (Ev.const ?_)))
  rw [Int.toNat_natCast, show (ofBytes r).extract 0 n = ofBytes (r.take n) from bs_inj (by rw [bytes_to, bytes_ofBytes, bytes_ofBytes]),
   show (ofBytes r).extract n r.length = ofBytes (r.drop n) from bs_inj (by rw [← size_ofBytes r, bytes_from, bytes_ofBytes, bytes_ofBytes])]
end Go.Proofs.YtphehoidkmficaaGreatDoor.Ref
end
section

namespace Go.Proofs.YtphehoidkmficaaGreatDoor.Ref
open Go.RowKit Go.Proofs.YtphehoidkmficaaGreatDoor Go.Proofs.YtphehoidkmficaaGreatDoor.PA Go.Proofs.YtphehoidkmficaaGreatDoorW.PrintWords Go.Proofs.YtphehoidkmficaaGreatDoorW.PrintLast
set_option linter.unusedVariables false
def textB (s : ByteArray) : ByteArray := (⟨#[116]⟩ : ByteArray) ++ (numB s.size ++ s)
def textF (s : ByteArray) : ByteArray × Int := if (textB s).size > 4000 then (⟨#[]⟩, 10) else (textB s, 0)
theorem ofText_ev (s : ByteArray) (h : s.size ≤ 100000000000000) : Ev (fun k => term_OfText.f k s) (textF s) := by
 have h1 := size_numB (n := s.size) (by omega)
 have h2 : (numB s.size ++ s).size ≤ 100000000000009 := by rw [ByteArray.size_append]; omega
 unfold term_OfText.f
 refine Ev.bind (putText_ev s h) (Ev.pos (by omega) ?_)
 unfold textF textB
 by_cases h3 : ((⟨#[116]⟩ : ByteArray) ++ (numB s.size ++ s)).size > 4000
 ·rw [if_pos h3]
  exact Ev.pos (by omega) (Ev.now _)
 ·rw [if_neg h3]
  exact Ev.neg (by omega) (Ev.now _)
def atomB (n : Nat) : ByteArray := (⟨#[97]⟩ : ByteArray) ++ numB n
theorem size_one (c : UInt8) : (⟨#[c]⟩ : ByteArray).size = 1 := rfl
theorem size_atomB {n : Nat} (h : n < 18446744073709551616) : (atomB n).size ≤ 10 := by
 unfold atomB
 have := size_numB h
 rw [ByteArray.size_append, size_one]; omega
theorem of_val (c : ByteArray) (l : List ByteArray) (hc : c.size ≤ 1000000) (hl : l.length ≤ 1000000) (h : ∀ s ∈ l, s.size ≤ 9223372036854774000) : term_of.f c l = some (ofF c l) := by
 unfold term_of.f
 rw [if_pos ⟨hc, hl, by simpa using h⟩]
def hashF (s : ByteArray) : ByteArray × Int := ofF (⟨#[104]⟩ : ByteArray) [s]
def pairF (a b : ByteArray) : ByteArray × Int := ofF (⟨#[112]⟩ : ByteArray) [a, b]
theorem hash_val (s : ByteArray) (h : s.size ≤ 9223372036854774000) : term_OfHash.f s = some (hashF s) := by
 unfold term_OfHash.f
 rw [of_val _ _ (by rw [size_one]; omega) (by simp) (by simpa using h)]
 rfl
theorem pair_val (a b : ByteArray) (ha : a.size ≤ 9223372036854774000) (hb : b.size ≤ 9223372036854774000) : term_OfPair.f a b = some (pairF a b) := by
 unfold term_OfPair.f
 rw [of_val _ _ (by rw [size_one]; omega) (by simp) (by simpa using ⟨ha, hb⟩)]
 rfl
theorem right_big {s : ByteArray} (h : 4000 < s.size) : right s = false := by
 cases hr : right s with
 | false => rfl
 | true => have := right_size hr; omega
theorem right_of {s : ByteArray} {t : T} (h : bytes s = enc t) (hw : Wf t) : right s = true := by
 unfold right; rw [h, termOf_enc hw]; rfl
theorem right_inv {s : ByteArray} (h : right s = true) : ∃ t, Wf t ∧ bytes s = enc t := by
 obtain ⟨t, ht⟩ := Option.isSome_iff_exists.1 h
 obtain ⟨h1, h2⟩ := termOf_inv ht
 exact ⟨t, h2, h1⟩
theorem ofF_size (c : ByteArray) (l : List ByteArray) : (ofF c l).1.size ≤ 4000 := by
 unfold ofF
 split
 ·split
  ·rename_i h; exact right_size h
  ·exact Nat.zero_le _
 ·exact Nat.zero_le _
theorem ofF_right {c : ByteArray} {l : List ByteArray} (h : (ofF c l).2 = 0) : right (ofF c l).1 = true := by
 unfold ofF at h ⊢
 split
 ·rename_i h1
  rw [if_pos h1] at h
  split
  ·rename_i h2; exact h2
  ·rename_i h2; rw [if_neg h2] at h; simp at h
 ·rename_i h1; rw [if_neg h1] at h; simp at h
theorem kindF_zero (s : ByteArray) : kindF s = 0 ↔ right s = false := by
 unfold kindF right
 cases h : termOf (bytes s) with
 | none => simp
 | some t =>
  have : t.code.toNat ≠ 0 := by
   cases t with
   | atom n => exact (by decide : (97 : UInt8).toNat ≠ 0)
   | text n => exact (by decide : (116 : UInt8).toNat ≠ 0)
   | one k a => exact (by cases k <;> decide : k.code.toNat ≠ 0)
   | two k a b => exact (by cases k <;> decide : k.code.toNat ≠ 0)
  simp only [Option.isSome_some]
  constructor
  ·intro h; omega
  ·intro h; simp at h
theorem bytes_numB (n : Nat) : bytes (numB n) = putL n := bytes_ofBytes _
theorem bytes_one (c : UInt8) : bytes (⟨#[c]⟩ : ByteArray) = [c] := rfl
theorem bytes_textB (s : ByteArray) : bytes (textB s) = enc (.text (bytes s)) := by
 unfold textB
 rw [bytes_append, bytes_append, bytes_one, bytes_numB]
 show _ = 116 :: putT (bytes s)
 unfold putT
 rw [bytes_length]; rfl
theorem bytes_atomB (n : Nat) : bytes (atomB n) = enc (.atom n) := by
 unfold atomB
 rw [bytes_append, bytes_one, bytes_numB]; rfl
theorem right_textB (s : ByteArray) : right (textB s) = decide ((textB s).size ≤ 4000) := by
 by_cases h : (textB s).size ≤ 4000
 ·rw [decide_eq_true h]
  refine right_of (bytes_textB s) ⟨?_, ?_⟩
  ·show (bytes s).length ≤ 4000
   have : s.size ≤ (textB s).size := by unfold textB; rw [ByteArray.size_append, ByteArray.size_append]; omega
   rw [bytes_length]; omega
  ·rw [← bytes_textB, bytes_length]; exact h
 ·rw [decide_eq_false h]
  exact right_big (by omega)
theorem textF_right (s : ByteArray) : textF s = if right (textB s) = true then (textB s, 0) else (⟨#[]⟩, 10) := by
 unfold textF
 rw [right_textB]
 by_cases h : (textB s).size ≤ 4000
 ·rw [if_neg (by omega), decide_eq_true h, if_pos rfl]
 ·rw [if_pos (by omega), decide_eq_false h, if_neg (by simp)]
theorem textF_size (s : ByteArray) : (textF s).1.size ≤ 4000 := by
 unfold textF
 split
 ·exact Nat.zero_le _
 ·rename_i h; show (textB s).size ≤ 4000; omega
theorem hash_size (s : ByteArray) : (hashF s).1.size ≤ 4000 := ofF_size _ _
theorem pair_size (a b : ByteArray) : (pairF a b).1.size ≤ 4000 := ofF_size _ _
theorem kind_val (s : ByteArray) (h : s.size ≤ 9223372036854774000) : term_Kind.f s = some (kindF s) := by
 unfold term_Kind.f; rw [if_pos h]
theorem hash_of {s : ByteArray} {t : T} (h : bytes s = enc t) (hw : Wf (.one .h t)) : hashF s = (⟨#[104]⟩ ++ s, 0) := by
 have h1 : right s = true := right_of h ⟨ok_mono (d := 39) (show ok 39 t from hw.1) (by omega), by have := hw.2; simp only [enc, List.length_cons] at this; omega⟩
 have h2 : right ((⟨#[104]⟩ : ByteArray) ++ s) = true := right_of (t := .one .h t) (by rw [bytes_append, h]; rfl) hw
 unfold hashF ofF
 rw [if_pos (by simp [h1]), if_pos (show right (catB ⟨#[104]⟩ [s]) = true from h2)]
 rfl
def tm (t : T) : ByteArray := ofBytes (enc t)
theorem bytes_tm (t : T) : bytes (tm t) = enc t := bytes_ofBytes _
theorem size_tm (t : T) : (tm t).size = (enc t).length := size_ofBytes _
theorem right_tm {t : T} (h : Wf t) : right (tm t) = true := right_of (bytes_tm t) h
theorem hash_tm {t : T} (hw : Wf (.one .h t)) : hashF (tm t) = (tm (.one .h t), 0) := by
 rw [hash_of (bytes_tm t) hw, show (⟨#[104]⟩ : ByteArray) ++ tm t = tm (.one .h t) from bs_inj (by rw [bytes_append, bytes_tm, bytes_tm]; rfl)]
theorem pair_tm {a b : T} (hw : Wf (.two .p a b)) : pairF (tm a) (tm b) = (tm (.two .p a b), 0) := by
 have ha : Wf a := ⟨ok_mono (d := 39) hw.1.1 (by omega), by have := hw.2; simp only [enc, List.length_cons, List.length_append] at this; omega⟩
 have hb : Wf b := ⟨ok_mono (d := 39) hw.1.2.1 (by omega), by have := hw.2; simp only [enc, List.length_cons, List.length_append] at this; omega⟩
 have he : catB ⟨#[112]⟩ [tm a, tm b] = tm (.two .p a b) := bs_inj (by
  show bytes ((⟨#[112]⟩ ++ tm a) ++ tm b) = _
  rw [bytes_append, bytes_append, bytes_tm, bytes_tm, bytes_tm]
  simp only [enc, K2.code]
  rfl)
 unfold pairF ofF
 rw [he, if_pos (by simp [right_tm ha, right_tm hb]), if_pos (right_tm hw)]
theorem textB_tm (s : ByteArray) : textB s = tm (.text (bytes s)) := bs_inj (by rw [bytes_textB, bytes_tm])
theorem atomB_tm (n : Nat) : atomB n = tm (.atom n) := bs_inj (by rw [bytes_atomB, bytes_tm])
theorem len_text (s : ByteArray) (h : s.size ≤ 4000) : (enc (.text (bytes s))).length ≤ 10 + s.size := by
 rw [← bytes_textB, bytes_length]
 have := size_numB (n := s.size) (by omega)
 unfold textB
 rw [ByteArray.size_append, ByteArray.size_append, size_one]; omega
theorem len_atom (n : Nat) (h : n < 18446744073709551616) : (enc (.atom n)).length ≤ 10 := by
 rw [← bytes_atomB, bytes_length]; exact size_atomB h
theorem ofF_codes2 {c : ByteArray} {l : List ByteArray} (h : l.all right = true) : (ofF c l).2 = 0 ∨ (ofF c l).2 = 10 := by
 unfold ofF
 rw [if_pos h]
 split
 ·exact Or.inl rfl
 ·exact Or.inr rfl
theorem right_tm_of {s : ByteArray} (h : right s = true) : ∃ t, Wf t ∧ s = tm t := by
 obtain ⟨t, h1, h2⟩ := right_inv h
 exact ⟨t, h1, bs_inj (by rw [h2, bytes_tm])⟩
end Go.Proofs.YtphehoidkmficaaGreatDoor.Ref
end
section

section
namespace Go.Proofs.YtphehoidkmficaaGreatDoor.Ref
open Go.RowKit Go.Proofs.YtphehoidkmficaaGreatDoor Go.Proofs.YtphehoidkmficaaGreatDoor.PA Go.Proofs.YtphehoidkmficaaGreatDoorW.PrintWords Go.Proofs.YtphehoidkmficaaGreatDoorW.PrintLast
set_option linter.unusedVariables false
def manyC (c : UInt8) : Int := if c = 97 then 0 else if c = 116 then 0 else match kind1 c with | some _ => 1 | none => match kind2 c with | some _ => 2 | none => -1
theorem many_fin : ∀ c : Fin 256, letterlockref3_many.f 2 ((c.val : Nat) : Int) = some (manyC (UInt8.ofNat c.val)) := by decide +kernel
theorem many_ev (c : UInt8) : Ev (fun k => letterlockref3_many.f k (c.toNat : Int)) (manyC c) := by
 refine Ev.of (k := 2) (letterlockref3_many.mono _) ?_
 have := many_fin ⟨c.toNat, c.toNat_lt⟩
 simpa using this
def sizeF (d : Nat) (l : Bs) : Int := match parse d l with | some (t, _) => ((enc t).length : Int) | none => 0
theorem size_end {s : ByteArray} {c : UInt8} {l : Bs} (hs : bytes s = c :: l) (a x : Int) (m : Int) (hm : manyC c ≤ m) : Ev (fun k => letterlockref3_size.l0 k s a x m) x := by
 have hsz : s.size = l.length + 1 := by rw [← bytes_length, hs, List.length_cons]
 have hb0 : bt s 0 = (c.toNat : Int) := by
  have := bt_bytes s 0 (by omega)
  simp only [hs, List.getElem_cons_zero] at this
  exact this
 refine Ev.step (fun _ => rfl) (Ev.pos (by omega) ?_)
 rw [hb0]
 exact Ev.bind (many_ev c) (Ev.neg (by omega) (Ev.now _))
theorem size_more {s : ByteArray} {c : UInt8} {l : Bs} (hs : bytes s = c :: l) (a x m v : Int) (hm : m < manyC c) (hb : c ≠ 98 ∨ m ≠ 0) (h : Ev (fun k => letterlockref3_size.j3 k s a x m false) v) :
  Ev (fun k => letterlockref3_size.l0 k s a x m) v := by
 have hsz : s.size = l.length + 1 := by rw [← bytes_length, hs, List.length_cons]
 have hb0 : bt s 0 = (c.toNat : Int) := by
  have := bt_bytes s 0 (by omega)
  simp only [hs, List.getElem_cons_zero] at this
  exact this
 refine Ev.step (fun _ => rfl) (Ev.pos (by omega) ?_)
 rw [hb0]
 refine Ev.bind (many_ev c) (Ev.pos hm ?_)
 by_cases h98 : c = 98
 ·refine Ev.pos (by rw [h98]; rfl) (Ev.neg ?_ h)
  rcases hb with hb | hb
  ·exact absurd h98 hb
  ·exact hb
 ·refine Ev.neg (fun e => h98 (UInt8.toNat_inj.1 (by omega : c.toNat = 98))) h
def Told (d : Nat) : Prop := ∀ s : ByteArray, s.size ≤ 4000 → Ev (fun k => letterlockref3_size.f k s (d : Int)) (sizeF d (bytes s))
theorem part_none {d : Nat} (ih : Told d) (hd : d ≤ 40) {s : ByteArray} (hs : s.size ≤ 4000) {x : Nat} (hx : x ≤ s.size) (m : Int) (hp : parse d ((bytes s).drop x) = none) :
  Ev (fun k => letterlockref3_size.j3 k s ((d + 1 : Nat) : Int) (x : Int) m false) 0 := by
 refine Ev.step (fun _ => rfl) (Ev.pos (by omega) ?_)
 rw [Int.toNat_natCast, show wrap64 (((d + 1 : Nat) : Int) - 1) = (d : Int) from by rw [w64 (by omega) (by omega)]; omega]
 have h := ih (s.extract x s.size) (by rw [← bytes_length, bytes_from, List.length_drop, bytes_length]; omega)
 rw [bytes_from, show sizeF d ((bytes s).drop x) = 0 from by unfold sizeF; rw [hp]] at h
 exact Ev.bind h (Ev.pos rfl (Ev.now _))
theorem part_some {d : Nat} (ih : Told d) (hd : d ≤ 40) {s : ByteArray} (hs : s.size ≤ 4000) {x : Nat} (hx : x ≤ s.size) (m : Nat) (hm : m ≤ 5) {t : T} {r : Bs} (hp : parse d ((bytes s).drop x) = some (t, r)) {v : Int}
  (h1 : Ev (fun k => letterlockref3_size.l0 k s ((d + 1 : Nat) : Int) ((x + (enc t).length : Nat) : Int) ((m + 1 : Nat) : Int)) v) :
  Ev (fun k => letterlockref3_size.j3 k s ((d + 1 : Nat) : Int) (x : Int) (m : Int) false) v := by
 refine Ev.step (fun _ => rfl) (Ev.pos (by omega) ?_)
 rw [Int.toNat_natCast, show wrap64 (((d + 1 : Nat) : Int) - 1) = (d : Int) from by rw [w64 (by omega) (by omega)]; omega]
 have h := ih (s.extract x s.size) (by rw [← bytes_length, bytes_from, List.length_drop, bytes_length]; omega)
 have hz : sizeF d ((bytes s).drop x) = ((enc t).length : Int) := by unfold sizeF; rw [hp]
 rw [bytes_from, hz] at h
 have hl := enc_pos t
 have hl2 : (enc t).length ≤ 4000 := by
  have := congrArg List.length (parse_inv _ _ _ _ hp).1
  rw [List.length_drop, bytes_length, List.length_append] at this
  omega
 refine Ev.bind h (Ev.neg (by omega) ?_)
 rw [w64 (n := (x : Int) + _) (by omega) (by omega), w64 (n := (m : Int) + 1) (by omega) (by omega)]
 exact h1
theorem told (d : Nat) (hd : d ≤ 40) : Told d := by
 induction d with
 | zero =>
  intro s hs
  refine Ev.step (fun _ => rfl) ?_
  by_cases h0 : s.toList = ([] : List UInt8)
  ·exact Ev.pos h0 (Ev.step (fun _ => rfl) (Ev.now _))
  ·exact Ev.neg h0 (Ev.step (fun _ => rfl) (Ev.now _))
 | succ d ih =>
  have ih := ih (by omega)
  intro s hs
  refine Ev.step (fun _ => rfl) ?_
  cases hb : bytes s with
  | nil => exact Ev.pos (by rw [bytes_toList, hb]) (Ev.step (fun _ => rfl) (Ev.now _))
  | cons c l =>
   have hsz : s.size = l.length + 1 := by rw [← bytes_length, hb, List.length_cons]
   have hb0 : bt s 0 = (c.toNat : Int) := by
    have := bt_bytes s 0 (by omega)
    simp only [hb, List.getElem_cons_zero] at this
    exact this
   have hx : s.extract 1 s.size = ofBytes l := bs_inj (by rw [bytes_from, hb, bytes_ofBytes]; rfl)
   have hd1 : (bytes s).drop 1 = l := by rw [hb]; rfl
   refine Ev.neg (by rw [bytes_toList, hb]; simp) (Ev.neg (by omega) (Ev.pos (by omega) ?_))
   rw [hb0]
   refine Ev.bind (many_ev c) ?_
   unfold sizeF
   simp only [parse]
   by_cases h97 : c = 97
   ·subst h97
    rw [show manyC 97 = 0 from rfl, if_pos rfl]
    refine Ev.step (fun _ => rfl) (Ev.pos (by omega) ?_)
    rw [hb0]
    refine Ev.pos rfl (Ev.step (fun _ => rfl) (Ev.pos (by omega) ?_))
    rw [hx, hb0]
    refine Ev.bind (refTake_ev (ofBytes l)) (Ev.pos (by omega) (Ev.neg (by decide) ?_))
    unfold takeF
    rw [bytes_ofBytes]
    cases ht : takeL l with
    | none => exact Ev.neg (by simp) (Ev.now _)
    | some y =>
     obtain ⟨n, r⟩ := y
     have := congrArg List.length (take_inv ht).1
     rw [List.length_append] at this
     refine Ev.pos rfl (Ev.const ?_)
     simp only [Option.map_some, size_ofBytes, enc, List.length_cons]
     rw [w64 (by omega) (by omega)]
     congr 1
     omega
   rw [if_neg h97]
   have hn97 : ¬ (c.toNat : Int) = 97 := fun e => h97 (UInt8.toNat_inj.1 (by omega : c.toNat = 97))
   by_cases h116 : c = 116
   ·subst h116
    rw [show manyC 116 = 0 from rfl, if_pos rfl]
    refine Ev.step (fun _ => rfl) (Ev.pos (by omega) ?_)
    rw [hb0]
    refine Ev.neg (by decide) (Ev.step (fun _ => rfl) (Ev.pos (by omega) ?_))
    rw [hx, hb0]
    refine Ev.bind (refTake_ev (ofBytes l)) (Ev.pos (by omega) (Ev.pos rfl (Ev.bind (refTakeText_ev (ofBytes l) (by rw [size_ofBytes]; omega)) ?_)))
    unfold takeTextF takeT
    rw [bytes_ofBytes]
    cases ht : takeL l with
    | none => exact Ev.neg (by simp) (Ev.now _)
    | some y =>
     obtain ⟨n, r⟩ := y
     simp only
     by_cases h1 : 4000 < n
     ·rw [if_pos h1, if_pos h1]; exact Ev.neg (by simp) (Ev.now _)
     rw [if_neg h1, if_neg h1]
     by_cases h2 : r.length < n
     ·rw [if_pos h2, if_pos h2]; exact Ev.neg (by simp) (Ev.now _)
     rw [if_neg h2, if_neg h2]
     have := congrArg List.length (take_inv ht).1
     rw [List.length_append] at this
     refine Ev.pos rfl (Ev.const ?_)
     have hlt : (r.take n).length = n := by rw [List.length_take]; omega
     simp only [Option.map_some, size_ofBytes, enc, List.length_cons, putT, List.length_append, hlt, List.length_drop]
     rw [w64 (by omega) (by omega)]
     congr 1
     omega
   rw [if_neg h116]
   have hn116 : ((c.toNat : Int) == 116) = false := beq_eq_false_iff_ne.mpr fun e => h116 (UInt8.toNat_inj.1 (by omega : c.toNat = 116))
   have hgo : ∀ v, 0 ≤ manyC c → Ev (fun k => letterlockref3_size.l0 k s ((d + 1 : Nat) : Int) ((1 : Nat) : Int) ((0 : Nat) : Int)) v → Ev (fun k => letterlockref3_size.j0 k s ((d + 1 : Nat) : Int) (decide (manyC c < 0))) v := by
    intro v hm h
    rw [decide_eq_false (by omega)]
    refine Ev.step (fun _ => rfl) (Ev.pos (by omega) ?_)
    rw [hb0, hn116]
    exact Ev.neg hn97 (Ev.step (fun _ => rfl) h)
   cases hk1 : kind1 c with
   | some k =>
    have hm : manyC c = 1 := by unfold manyC; rw [if_neg h97, if_neg h116, hk1]
    have hc98 : c ≠ 98 := by rintro rfl; simp [kind1] at hk1
    refine hgo _ (by omega) (size_more hb _ _ _ _ (by omega) (Or.inl hc98) ?_)
    cases hp : parse d l with
    | none => exact part_none ih (by omega) hs (by omega) _ (by rw [hd1]; exact hp)
    | some y =>
     obtain ⟨t, r⟩ := y
     refine part_some ih (by omega) hs (by omega) 0 (by omega) (by rw [hd1]; exact hp) ?_
     refine ev_cast (size_end hb _ _ _ (by omega)) ?_
     simp only [Option.map_some, enc, List.length_cons]
     omega
   | none =>
    simp only
    cases hk2 : kind2 c with
    | none =>
     have hm : manyC c = -1 := by unfold manyC; rw [if_neg h97, if_neg h116, hk1]; simp only; rw [hk2]
     rw [hm]
     exact Ev.step (fun _ => rfl) (Ev.now _)
    | some k =>
     have hm : manyC c = 2 := by unfold manyC; rw [if_neg h97, if_neg h116, hk1]; simp only; rw [hk2]
     refine hgo _ (by omega) ?_
     have hc98 : c = 98 ↔ k = .b := by
      rw [kind2_inv hk2]
      cases k <;> decide
     -- the parts, where nothing bars a box
     have hparts : (k = .b → l.head? = some 117) → Ev (fun k => letterlockref3_size.j3 k s ((d + 1 : Nat) : Int) ((1 : Nat) : Int) ((0 : Nat) : Int) false)
       (match (parse d l).bind fun x => (parse d x.2).bind fun y => if k = .b ∧ x.1.isPub = false then none else some (T.two k x.1 y.1, y.2) with | some (t, _) => ((enc t).length : Int) | none => 0) := by
      intro hpub
      cases hp : parse d l with
      | none => exact part_none ih (by omega) hs (by omega) _ (by rw [hd1]; exact hp)
      | some y =>
       obtain ⟨t, r⟩ := y
       have hi := (parse_inv _ _ _ _ hp).1
       have hl := congrArg List.length hi
       rw [List.length_append] at hl
       refine part_some ih (by omega) hs (by omega) 0 (by omega) (by rw [hd1]; exact hp) (size_more hb _ _ _ _ (by omega) (Or.inr (by omega)) ?_)
       have hd2 : (bytes s).drop (1 + (enc t).length) = r := by rw [← List.drop_drop, hd1, hi, List.drop_left]
       simp only [Option.bind_some]
       cases hq : parse d r with
       | none => exact part_none ih (by omega) hs (by omega) _ (by rw [hd2]; exact hq)
       | some y =>
        obtain ⟨u, q⟩ := y
        refine part_some ih (by omega) hs (by omega) 1 (by omega) (by rw [hd2]; exact hq) ?_
        refine ev_cast (size_end hb _ _ _ (by omega)) ?_
        simp only [Option.bind_some]
        rw [if_neg]
        ·simp only [enc, List.length_cons, List.length_append]
         omega
        ·rintro ⟨e1, e2⟩
         have h3 := hpub e1
         rw [hi] at h3
         cases t with
         | atom n => simp [enc] at h3
         | text n => simp [enc] at h3
         | one k2 a => cases k2 <;> simp [enc, K1.code, T.isPub] at h3 e2
         | two k2 a b => cases k2 <;> simp [enc, K2.code] at h3
     by_cases hkb : k = .b
     ·have hc := hc98.2 hkb
      have hbad : l.head? ≠ some 117 → (match (parse d l).bind fun x => (parse d x.2).bind fun y => if k = .b ∧ x.1.isPub = false then none else some (T.two k x.1 y.1, y.2) with | some (t, _) => ((enc t).length : Int) | none => 0) = 0 := by
       intro hh
       cases hp : parse d l with
       | none => rfl
       | some y =>
        obtain ⟨t, r⟩ := y
        have hi := (parse_inv _ _ _ _ hp).1
        have hnp : t.isPub = false := by
         cases t with
         | atom n => rfl
         | text n => rfl
         | one k2 a =>
          cases k2 with
          | h => rfl
          | u => rw [hi] at hh; exact absurd rfl hh
         | two k2 a b => rfl
        simp only [Option.bind_some]
        cases parse d r with
        | none => rfl
        | some y =>
         simp only [Option.bind_some]
         rw [if_pos ⟨hkb, hnp⟩]
      refine Ev.step (fun _ => rfl) (Ev.pos (by omega) ?_)
      rw [hb0]
      refine Ev.bind (many_ev c) (Ev.pos (by omega) (Ev.pos (by rw [hc]; rfl) (Ev.pos rfl ?_)))
      cases hl : l with
      | nil =>
       subst hl
       rw [hbad (by simp)]
       exact Ev.pos (by simp only [List.length_nil] at hsz; omega) (Ev.step (fun _ => rfl) (Ev.now _))
      | cons c1 l1 =>
       have hb1 : bt s ((1 : Nat) : Int) = (c1.toNat : Int) := by
        have := bt_bytes s 1 (by rw [hsz, hl, List.length_cons]; omega)
        simp only [hb, hl, List.getElem_cons_succ, List.getElem_cons_zero] at this
        exact this
       have hl1 : l.length = l1.length + 1 := by rw [hl, List.length_cons]
       refine Ev.neg (by omega) (Ev.pos (by omega) (Ev.pos (by omega) ?_))
       rw [hb1, ← hl]
       by_cases h117 : c1 = 117
       ·rw [show ((c1.toNat : Int) != 117) = false from by rw [h117]; rfl]
        exact hparts fun _ => by rw [hl, h117]; rfl
       ·rw [show ((c1.toNat : Int) != 117) = true from bne_iff_ne.mpr fun e => h117 (UInt8.toNat_inj.1 (by omega : c1.toNat = 117)), hbad (by rw [hl]; simpa using h117)]
        exact Ev.step (fun _ => rfl) (Ev.now _)
     ·exact size_more hb _ _ _ _ (by omega) (Or.inl (fun e => hkb (hc98.1 e))) (hparts fun e => absurd e hkb)
theorem refRight_ev (s : ByteArray) : Ev (fun k => letterlockref3_Right.f k s) (right s) := by
 unfold letterlockref3_Right.f
 by_cases h0 : s.toList = ([] : List UInt8)
 ·refine ev_cast (Ev.pos h0 (Ev.now _)) ?_
  rw [bytes_toList] at h0
  unfold right termOf
  rw [h0]; rfl
 refine Ev.neg h0 ?_
 by_cases h1 : s.size ≤ 4000
 ·refine Ev.pos (by omega) (Ev.bind (told 40 (by omega) s h1) (Ev.const (congrArg some ?_)))
  unfold right termOf sizeF
  rw [if_pos (by rw [bytes_length]; exact h1)]
  cases hp : parse 40 (bytes s) with
  | none =>
   simp only [Option.isSome_none]
   refine beq_eq_false_iff_ne.mpr fun e => h0 ?_
   rw [bytes_toList]
   refine List.length_eq_zero_iff.1 ?_
   rw [bytes_length]; omega
  | some y =>
   obtain ⟨t, r⟩ := y
   have hl := congrArg List.length (parse_inv _ _ _ _ hp).1
   rw [bytes_length, List.length_append] at hl
   cases r with
   | nil =>
    simp only [List.length_nil, Option.isSome_some] at hl ⊢
    exact beq_iff_eq.mpr (by omega)
   | cons c r =>
    simp only [List.length_cons, Option.isSome_none] at hl ⊢
    exact beq_eq_false_iff_ne.mpr (by omega)
 ·rw [right_big (by omega)]
  exact Ev.neg (by omega) (Ev.now _)
end Go.Proofs.YtphehoidkmficaaGreatDoor.Ref
end
section
namespace Go.Proofs.YtphehoidkmficaaGreatDoor.Ref
open Go.RowKit Go.Proofs.YtphehoidkmficaaGreatDoor Go.Proofs.YtphehoidkmficaaGreatDoor.PA Go.Proofs.YtphehoidkmficaaGreatDoorW.PrintWords Go.Proofs.YtphehoidkmficaaGreatDoorW.PrintLast
set_option linter.unusedVariables false
theorem made_ev (s : ByteArray) : Ev (fun k => letterlockref3_made.f k s) (if right s = true then (s, 0) else (⟨#[]⟩, 10)) := by
 unfold letterlockref3_made.f
 refine Ev.bind (refRight_ev s) ?_
 by_cases h : right s = true
 ·simp only [if_pos h]; exact Ev.now _
 ·simp only [if_neg h]; exact Ev.now _
theorem refText_ev (s : ByteArray) (h : s.size ≤ 100000000000000) : Ev (fun k => letterlockref3_OfText.f k s) (textF s) := by
 have hw : IntKind.u64.wrap (s.size : Int) = (s.size : Int) := by rw [IntKind.wrap_u64]; omega
 have h1 := size_numB (n := s.size) (by omega)
 have h2 : (numB s.size ++ s).size ≤ 100000000000009 := by rw [ByteArray.size_append]; omega
 have hp : Ev (fun k => letterlockref2_PutText.f k s) (numB s.size ++ s) := by
  unfold letterlockref2_PutText.f
  rw [hw]
  exact Ev.bind (refPut_ev s.size (by omega)) (Ev.pos (by omega) (Ev.now _))
 unfold letterlockref3_OfText.f
 refine Ev.bind hp (Ev.pos (by omega) (Ev.bind (made_ev (textB s)) (ev_cast (Ev.now _) ?_)))
 rw [textF_right]
theorem one_ev (c : UInt8) (s : ByteArray) : Ev (fun k => letterlockref3_one.f k ⟨#[c]⟩ s) (ofF ⟨#[c]⟩ [s]) := by
 unfold letterlockref3_one.f ofF
 refine Ev.bind (refRight_ev s) ?_
 cases h : right s with
 | false =>
  rw [if_neg (by simp [h])]
  exact Ev.neg (by simp) (Ev.now _)
 | true =>
  rw [if_pos (by simp [h])]
  have hs := right_size h
  refine Ev.pos rfl (Ev.pos (by rw [size_one]; omega) (Ev.bind (made_ev (⟨#[c]⟩ ++ s)) (ev_cast (Ev.now _) ?_)))
  rfl
theorem two_ev (c : UInt8) (s t : ByteArray) : Ev (fun k => letterlockref3_two.f k ⟨#[c]⟩ s t) (ofF ⟨#[c]⟩ [s, t]) := by
 unfold letterlockref3_two.f ofF
 refine Ev.bind (refRight_ev s) ?_
 cases h : right s with
 | false =>
  rw [if_neg (by simp [h])]
  exact Ev.neg (by simp) (Ev.now _)
 | true =>
  refine Ev.pos rfl (Ev.bind (refRight_ev t) ?_)
  cases h2 : right t with
  | false =>
   rw [if_neg (by simp [h2])]
   exact Ev.neg (by simp) (Ev.now _)
  | true =>
   rw [if_pos (by simp [h, h2])]
   have hs := right_size h
   have ht := right_size h2
   refine Ev.pos rfl (Ev.pos (by rw [size_one]; omega) (Ev.pos (by rw [ByteArray.size_append, size_one]; omega) (Ev.bind (made_ev ((⟨#[c]⟩ ++ s) ++ t)) (ev_cast (Ev.now _) ?_))))
   rfl
theorem refHash_ev (s : ByteArray) : Ev (fun k => letterlockref3_OfHash.f k s) (hashF s) := by
 unfold letterlockref3_OfHash.f
 exact Ev.bind (one_ev 104 s) (Ev.now _)
theorem refPublic_ev (s : ByteArray) : Ev (fun k => letterlockref3_OfPublic.f k s) (ofF ⟨#[117]⟩ [s]) := by
 unfold letterlockref3_OfPublic.f
 exact Ev.bind (one_ev 117 s) (Ev.now _)
theorem refPair_ev (s t : ByteArray) : Ev (fun k => letterlockref3_OfPair.f k s t) (pairF s t) := by
 unfold letterlockref3_OfPair.f
 exact Ev.bind (two_ev 112 s t) (Ev.now _)
theorem refSeal_ev (s t : ByteArray) : Ev (fun k => letterlockref3_Seal.f k s t) (ofF ⟨#[115]⟩ [s, t]) := by
 unfold letterlockref3_Seal.f
 exact Ev.bind (two_ev 115 s t) (Ev.now _)
theorem refSign_ev (s t : ByteArray) : Ev (fun k => letterlockref3_Sign.f k s t) (ofF ⟨#[103]⟩ [s, t]) := by
 unfold letterlockref3_Sign.f
 exact Ev.bind (two_ev 103 s t) (Ev.now _)
theorem refAtom_ev (n : Nat) (h : n < 18446744073709551616) : Ev (fun k => letterlockref3_OfAtom.f k (n : Int)) (atomB n) := by
 unfold letterlockref3_OfAtom.f
 have := size_numB h
 exact Ev.bind (refPut_ev n h) (Ev.pos (by omega) (Ev.now _))
end Go.Proofs.YtphehoidkmficaaGreatDoor.Ref
end
end
section

namespace Go.Proofs.YtphehoidkmficaaGreatDoor.Ref
open Go.RowKit Go.Proofs.YtphehoidkmficaaGreatDoor Go.Proofs.YtphehoidkmficaaGreatDoor.PA Go.Proofs.YtphehoidkmficaaGreatDoorW.PrintWords Go.Proofs.YtphehoidkmficaaGreatDoorW.PrintLast
set_option linter.unusedVariables false
def runesF (s : ByteArray) : List Int × Int := (if Lib.validD (bytes s) = true then runesD (bytes s) else [], if Lib.validD (bytes s) = true then 0 else 2)
theorem runesF_valid {s : ByteArray} (h : Lib.validD (bytes s) = true) : runesF s = (runesD (bytes s), 0) := by unfold runesF; rw [if_pos h, if_pos h]
theorem runesF_bad {s : ByteArray} (h : Lib.validD (bytes s) = false) : runesF s = ([], 2) := by unfold runesF; rw [h]; rfl
theorem valid_ref (r : Int) : letterlockref1_valid.f r = some (decide (ValidR r)) := by
 unfold letterlockref1_valid.f
 by_cases h0 : r ≥ 0
 ·rw [if_pos h0]
  by_cases h1 : r ≤ 1114111
  ·rw [if_pos h1]
   by_cases h2 : r < 55296
   ·rw [if_pos h2, decide_eq_true (show ValidR r from Or.inl ⟨h0, h2⟩)]
   ·rw [if_neg h2]
    by_cases h3 : r > 57343
    ·rw [decide_eq_true h3, decide_eq_true (show ValidR r from Or.inr ⟨h3, h1⟩)]
    ·rw [decide_eq_false h3, decide_eq_false (fun h => by unfold ValidR at h; omega)]
  ·rw [if_neg h1, decide_eq_false (fun h => by unfold ValidR at h; omega)]
 ·rw [if_neg h0, decide_eq_false (fun h => by unfold ValidR at h; omega)]
theorem w32 {n : Int} (h0 : -2147483648 ≤ n) (h1 : n ≤ 2147483647) : wrap32 n = n := by unfold wrap32; omega
end Go.Proofs.YtphehoidkmficaaGreatDoor.Ref
end
section

namespace Go.Proofs.YtphehoidkmficaaGreatDoor.Ref
open Go.RowKit Go.Proofs.YtphehoidkmficaaGreatDoor Go.Proofs.YtphehoidkmficaaGreatDoor.PA Go.Proofs.YtphehoidkmficaaGreatDoorW.PrintWords Go.Proofs.YtphehoidkmficaaGreatDoorW.PrintLast
set_option linter.unusedVariables false
def B (s : ByteArray) (i : Nat) : Nat := ((bytes s).getD i 0).toNat
theorem bt_B (s : ByteArray) (i : Nat) (h : i < s.size) : bt s (i : Int) = (B s i : Int) := by
 rw [bt_bytes s i h]
 unfold B
 rw [List.getD_eq_getElem?_getD, List.getElem?_eq_getElem (by rw [bytes_length]; exact h)]; rfl
theorem B_lt (s : ByteArray) (i : Nat) : B s i < 256 := UInt8.toNat_lt _
theorem decode_B (s : ByteArray) : Lib.decodeL (bytes s) = Lib.decodeN s.size (B s 0) (B s 1) (B s 2) (B s 3) := by rw [Lib.decodeL_N, bytes_length]; rfl
theorem cont_ok {s : ByteArray} {w x5 x6 : Int} {i : Nat} {r : Int × Int} (hw : (i : Int) < w) (hs : i < s.size) (h1 : 128 ≤ B s i) (h2 : B s i ≤ 191) (h0 : 0 ≤ x5) (h3 : 64 * x5 + 64 ≤ 2147483647) (hi : i ≤ 10)
  (h : Ev (fun k => letterlockref1_first.l0 k s w (64 * x5 + ((B s i : Int) - 128)) x6 ((i + 1 : Nat) : Int)) r) : Ev (fun k => letterlockref1_first.l0 k s w x5 x6 (i : Int)) r := by
 refine Ev.step (fun _ => rfl) (Ev.pos hw (Ev.pos (by omega) (Ev.pos (by omega) ?_)))
 rw [bt_B s i hs]
 refine Ev.neg (by omega) (Ev.neg (by omega) ?_)
 rw [w32 (n := 64 * x5) (by omega) (by omega), show ((B s i : Int) - 128) % 256 = (B s i : Int) - 128 from by omega, w32 (by omega) (by omega), w64 (by omega) (by omega)]
 exact h
theorem cont_bad {s : ByteArray} {w x5 x6 : Int} {i : Nat} (hw : (i : Int) < w) (hs : i < s.size) (h1 : ¬ (128 ≤ B s i ∧ B s i ≤ 191)) : Ev (fun k => letterlockref1_first.l0 k s w x5 x6 (i : Int)) (0, 0) := by
 refine Ev.step (fun _ => rfl) (Ev.pos hw (Ev.pos (by omega) (Ev.pos (by omega) ?_)))
 rw [bt_B s i hs]
 by_cases c : (B s i : Int) < 128
 ·exact Ev.pos c (Ev.now _)
 ·exact Ev.neg c (Ev.pos (by omega) (Ev.now _))
def endF (w x5 x6 : Int) : Int × Int := if x5 < x6 then (0, 0) else if ValidR x5 then (x5, w) else (0, 0)
theorem cont_end {s : ByteArray} {w x5 x6 : Int} {i : Nat} (hw : ¬ (i : Int) < w) : Ev (fun k => letterlockref1_first.l0 k s w x5 x6 (i : Int)) (endF w x5 x6) := by
 refine Ev.step (fun _ => rfl) (Ev.neg hw ?_)
 by_cases c : x5 < x6
 ·exact ev_cast (Ev.pos c (Ev.now _)) (by unfold endF; rw [if_pos c])
 ·refine Ev.neg c (Ev.put (valid_ref x5) ?_)
  by_cases h : ValidR x5
  ·exact ev_cast (Ev.pos (decide_eq_true h) (Ev.now _)) (by unfold endF; rw [if_neg c, if_pos h])
  ·exact ev_cast (Ev.neg (by simpa using h) (Ev.now _)) (by unfold endF; rw [if_neg c, if_neg h])
theorem enough {s : ByteArray} {w x5 x6 : Int} {r : Int × Int} (h0 : w ≠ 0) (h1 : w ≤ (s.size : Int)) (h : Ev (fun k => letterlockref1_first.l0 k s w x5 x6 ((1 : Nat) : Int)) r) : Ev (fun k => letterlockref1_first.j2 k s w x5 x6) r := by
 refine Ev.step (fun _ => rfl) (Ev.neg h0 ?_)
 rw [decide_eq_false (by omega)]
 exact Ev.step (fun _ => rfl) h
theorem short {s : ByteArray} {w x5 x6 : Int} (h : w = 0 ∨ (s.size : Int) < w) : Ev (fun k => letterlockref1_first.j2 k s w x5 x6) (0, 0) := by
 refine Ev.step (fun _ => rfl) ?_
 by_cases h0 : w = 0
 ·exact Ev.pos h0 (Ev.step (fun _ => rfl) (Ev.now _))
 ·refine Ev.neg h0 ?_
  rw [decide_eq_true (by rcases h with h | h; exact absurd h h0; exact h)]
  exact Ev.step (fun _ => rfl) (Ev.now _)
def firstF (l : Bs) : Int × Int := if l = [] then (0, 0) else if Bad l then (0, 0) else (((Lib.decodeL l).1 : Int), ((Lib.decodeL l).2 : Int))
def ofD (d : Nat × Nat) : Int × Int := if d.1 = 65533 ∧ d.2 = 1 then (0, 0) else ((d.1 : Int), (d.2 : Int))
theorem first_ofD {s : ByteArray} (h : 0 < s.size) : firstF (bytes s) = ofD (Lib.decodeN s.size (B s 0) (B s 1) (B s 2) (B s 3)) := by
 unfold firstF ofD
 rw [if_neg (fun e => by have := congrArg List.length e; rw [bytes_length, List.length_nil] at this; omega), ← decode_B]
 by_cases hb : Bad (bytes s)
 ·rw [if_pos hb]; exact (if_pos hb).symm
 ·rw [if_neg hb]; exact (if_neg hb).symm
theorem ofD_bad : ofD (65533, 1) = (0, 0) := by unfold ofD; rw [if_pos ⟨rfl, rfl⟩]
theorem ofD_ok {a b : Nat} (h : b ≠ 1) : ofD (a, b) = ((a : Int), (b : Int)) := by unfold ofD; rw [if_neg (fun e => h e.2)]
theorem first_ev (s : ByteArray) : Ev (fun k => letterlockref1_first.f k s) (firstF (bytes s)) := by
 unfold letterlockref1_first.f
 by_cases he : s.toList = ([] : List UInt8)
 ·rw [bytes_toList] at he
  rw [show firstF (bytes s) = (0, 0) by unfold firstF; rw [if_pos he]]
  exact Ev.pos (by rw [bytes_toList]; exact he) (Ev.now _)
 refine Ev.neg he ?_
 rw [bytes_toList] at he
 have hs : 0 < s.size := by rw [← bytes_length]; exact List.length_pos_iff.2 he
 rw [first_ofD hs]
 have h0 := B_lt s 0
 have h1 := B_lt s 1
 have h2 := B_lt s 2
 have h3 := B_lt s 3
 have hb0 : bt s 0 = (B s 0 : Int) := bt_B s 0 hs
 refine Ev.pos (by omega) ?_
 rw [hb0]
 by_cases c0 : B s 0 < 128
 ·have e : Lib.decodeN s.size (B s 0) (B s 1) (B s 2) (B s 3) = (B s 0, 1) := by unfold Lib.decodeN; rw [if_pos c0]
  rw [e]
  have : ofD (B s 0, 1) = ((B s 0 : Int), 1) := by unfold ofD; rw [if_neg (fun h => by have := h.1; simp only at this; omega)]; rfl
  rw [this, w32 (by omega) (by omega)]
  exact Ev.pos (by omega) (Ev.now _)
 refine Ev.neg (by omega) ?_
 by_cases c2 : 192 ≤ B s 0 ∧ B s 0 < 224
 ·refine Ev.pos (by omega) ?_
  rw [decide_eq_true (by omega)]
  refine Ev.step (fun _ => rfl) (Ev.pos (by omega) ?_)
  rw [hb0, show ((B s 0 : Int) - 192) % 256 = (B s 0 : Int) - 192 from by omega]
  by_cases n2 : 2 ≤ s.size
  ·refine enough (by omega) (by omega) ?_
   by_cases d1 : 128 ≤ B s 1 ∧ B s 1 ≤ 191
   ·refine cont_ok (by omega) (by omega) d1.1 d1.2 (by omega) (by omega) (by omega) ?_
    refine ev_cast (cont_end (by omega)) ?_
    unfold Lib.decodeN
    rw [if_neg c0, if_pos ⟨by omega, by omega, by omega⟩]
    by_cases g : 64 * ((B s 0 : Int) - 192) + ((B s 1 : Int) - 128) < 128
    ·rw [if_neg (by omega), ofD_bad]; unfold endF; rw [if_pos g]
    ·rw [if_pos (by omega), ofD_ok (by omega)]
     unfold endF
     rw [if_neg g, if_pos (by unfold ValidR; omega)]
     exact Prod.ext (by show _ = ((_ : Nat) : Int); omega) rfl
   ·refine ev_cast (cont_bad (by omega) (by omega) d1) ?_
    unfold Lib.decodeN
    rw [if_neg c0, if_neg (by omega), if_neg (by omega), if_neg (by omega), ofD_bad]
  ·refine ev_cast (short (Or.inr (by omega))) ?_
   unfold Lib.decodeN
   rw [if_neg c0, if_neg (by omega), if_neg (by omega), if_neg (by omega), ofD_bad]
 have hj0 : ∀ r, Ev (fun k => letterlockref1_first.j0 k s 0 0 0 false) r → Ev (fun k => if (B s 0 : Int) ≥ 192 then letterlockref1_first.j0 k s 0 0 0 (decide ((B s 0 : Int) < 224)) else letterlockref1_first.j0 k s 0 0 0 false) r := by
  intro r h
  by_cases g : (B s 0 : Int) ≥ 192
  ·refine Ev.pos g ?_
   rw [decide_eq_false (by omega)]; exact h
  ·exact Ev.neg g h
 refine hj0 _ (Ev.step (fun _ => rfl) (Ev.pos (by omega) ?_))
 rw [hb0]
 by_cases c3 : 224 ≤ B s 0 ∧ B s 0 < 240
 ·refine Ev.pos (by omega) ?_
  rw [decide_eq_true (by omega)]
  refine Ev.step (fun _ => rfl) (Ev.pos (by omega) ?_)
  rw [hb0, show ((B s 0 : Int) - 224) % 256 = (B s 0 : Int) - 224 from by omega]
  by_cases n3 : 3 ≤ s.size
  ·refine enough (by omega) (by omega) ?_
   by_cases d1 : 128 ≤ B s 1 ∧ B s 1 ≤ 191
   ·refine cont_ok (by omega) (by omega) d1.1 d1.2 (by omega) (by omega) (by omega) ?_
    by_cases d2 : 128 ≤ B s 2 ∧ B s 2 ≤ 191
    ·refine cont_ok (i := 2) (by omega) (by omega) d2.1 d2.2 (by omega) (by omega) (by omega) ?_
     refine ev_cast (cont_end (by omega)) ?_
     unfold Lib.decodeN
     rw [if_neg c0, if_neg (by omega), if_pos ⟨by omega, ⟨by omega, by omega⟩, by omega, by omega⟩]
     by_cases g : 64 * (64 * ((B s 0 : Int) - 224) + ((B s 1 : Int) - 128)) + ((B s 2 : Int) - 128) < 2048
     ·rw [if_neg (by omega), ofD_bad]; unfold endF; rw [if_pos g]
     ·by_cases v : ValidR (64 * (64 * ((B s 0 : Int) - 224) + ((B s 1 : Int) - 128)) + ((B s 2 : Int) - 128))
      ·rw [if_pos (by unfold ValidR at v; omega), ofD_ok (by omega)]
       unfold endF
       rw [if_neg g, if_pos v]
       exact Prod.ext (by show _ = ((_ : Nat) : Int); omega) rfl
      ·rw [if_neg (by unfold ValidR at v; omega), ofD_bad]
       unfold endF
       rw [if_neg g, if_neg v]
    ·refine ev_cast (cont_bad (i := 2) (by omega) (by omega) d2) ?_
     unfold Lib.decodeN
     rw [if_neg c0, if_neg (by omega), if_neg (by omega), if_neg (by omega), ofD_bad]
   ·refine ev_cast (cont_bad (by omega) (by omega) d1) ?_
    unfold Lib.decodeN
    rw [if_neg c0, if_neg (by omega), if_neg (by omega), if_neg (by omega), ofD_bad]
  ·refine ev_cast (short (Or.inr (by omega))) ?_
   unfold Lib.decodeN
   rw [if_neg c0, if_neg (by omega), if_neg (by omega), if_neg (by omega), ofD_bad]
 have hj1 : ∀ r, Ev (fun k => letterlockref1_first.j1 k s 0 0 0 false) r → Ev (fun k => if (B s 0 : Int) ≥ 224 then letterlockref1_first.j1 k s 0 0 0 (decide ((B s 0 : Int) < 240)) else letterlockref1_first.j1 k s 0 0 0 false) r := by
  intro r h
  by_cases g : (B s 0 : Int) ≥ 224
  ·refine Ev.pos g ?_
   rw [decide_eq_false (by omega)]; exact h
  ·exact Ev.neg g h
 refine hj1 _ (Ev.step (fun _ => rfl) (Ev.pos (by omega) ?_))
 rw [hb0]
 by_cases c4 : 240 ≤ B s 0 ∧ B s 0 < 248
 ·refine Ev.pos (by omega) (Ev.pos (by omega) ?_)
  rw [show ((B s 0 : Int) - 240) % 256 = (B s 0 : Int) - 240 from by omega]
  by_cases n4 : 4 ≤ s.size
  ·refine enough (by omega) (by omega) ?_
   by_cases d1 : 128 ≤ B s 1 ∧ B s 1 ≤ 191
   ·refine cont_ok (by omega) (by omega) d1.1 d1.2 (by omega) (by omega) (by omega) ?_
    by_cases d2 : 128 ≤ B s 2 ∧ B s 2 ≤ 191
    ·refine cont_ok (i := 2) (by omega) (by omega) d2.1 d2.2 (by omega) (by omega) (by omega) ?_
     by_cases d3 : 128 ≤ B s 3 ∧ B s 3 ≤ 191
     ·refine cont_ok (i := 3) (by omega) (by omega) d3.1 d3.2 (by omega) (by omega) (by omega) ?_
      refine ev_cast (cont_end (by omega)) ?_
      unfold Lib.decodeN
      rw [if_neg c0, if_neg (by omega), if_neg (by omega), if_pos ⟨by omega, ⟨by omega, by omega⟩, ⟨by omega, by omega⟩, by omega, by omega⟩]
      by_cases g : 64 * (64 * (64 * ((B s 0 : Int) - 240) + ((B s 1 : Int) - 128)) + ((B s 2 : Int) - 128)) + ((B s 3 : Int) - 128) < 65536
      ·rw [if_neg (by omega), ofD_bad]; unfold endF; rw [if_pos g]
      ·by_cases v : ValidR (64 * (64 * (64 * ((B s 0 : Int) - 240) + ((B s 1 : Int) - 128)) + ((B s 2 : Int) - 128)) + ((B s 3 : Int) - 128))
       ·rw [if_pos (by unfold ValidR at v; omega), ofD_ok (by omega)]
        unfold endF
        rw [if_neg g, if_pos v]
        exact Prod.ext (by show _ = ((_ : Nat) : Int); omega) rfl
       ·rw [if_neg (by unfold ValidR at v; omega), ofD_bad]
        unfold endF
        rw [if_neg g, if_neg v]
     ·refine ev_cast (cont_bad (i := 3) (by omega) (by omega) d3) ?_
      unfold Lib.decodeN
      rw [if_neg c0, if_neg (by omega), if_neg (by omega), if_neg (by omega), ofD_bad]
    ·refine ev_cast (cont_bad (i := 2) (by omega) (by omega) d2) ?_
     unfold Lib.decodeN
     rw [if_neg c0, if_neg (by omega), if_neg (by omega), if_neg (by omega), ofD_bad]
   ·refine ev_cast (cont_bad (by omega) (by omega) d1) ?_
    unfold Lib.decodeN
    rw [if_neg c0, if_neg (by omega), if_neg (by omega), if_neg (by omega), ofD_bad]
  ·refine ev_cast (short (Or.inr (by omega))) ?_
   unfold Lib.decodeN
   rw [if_neg c0, if_neg (by omega), if_neg (by omega), if_neg (by omega), ofD_bad]
 ·have e : Lib.decodeN s.size (B s 0) (B s 1) (B s 2) (B s 3) = (65533, 1) := by
   unfold Lib.decodeN
   rw [if_neg c0, if_neg (by omega), if_neg (by omega), if_neg (by omega)]
  rw [e, ofD_bad]
  by_cases g : (B s 0 : Int) ≥ 240
  ·exact Ev.pos g (Ev.neg (by omega) (short (Or.inl rfl)))
  ·exact Ev.neg g (short (Or.inl rfl))
end Go.Proofs.YtphehoidkmficaaGreatDoor.Ref
end
section

namespace Go.Proofs.YtphehoidkmficaaGreatDoor.Ref
open Go.RowKit Go.Proofs.YtphehoidkmficaaGreatDoor Go.Proofs.YtphehoidkmficaaGreatDoor.PA Go.Proofs.YtphehoidkmficaaGreatDoorW.PrintWords Go.Proofs.YtphehoidkmficaaGreatDoorW.PrintLast
set_option linter.unusedVariables false
theorem bytes_ne {s : ByteArray} (h : bytes s ≠ []) : ¬ s.toList = ([] : List UInt8) := by rw [bytes_toList]; exact h
theorem first_bad {l : Bs} (hne : l ≠ []) (h : Bad l) : firstF l = (0, 0) := by unfold firstF; rw [if_neg hne, if_pos h]
theorem first_good {l : Bs} (hne : l ≠ []) (h : ¬ Bad l) : firstF l = (((Lib.decodeL l).1 : Int), ((Lib.decodeL l).2 : Int)) := by unfold firstF; rw [if_neg hne, if_neg h]
theorem extract_step (s : ByteArray) (w : Nat) : bytes (s.extract ((w : Int)).toNat s.size) = (bytes s).drop w := by rw [Int.toNat_natCast, bytes_from]
theorem refRunes_loop (l : Bs) : ∀ (s : ByteArray) (acc : List Int), bytes s = l → s.size ≤ 1000000 → acc.length + s.size ≤ 1000000 →
  Ev (fun k => letterlockref1_Runes.l0 k s acc) (if Lib.validD l = true then (acc ++ runesD l, 0) else ([], 2)) := by
 refine steps_ind (p := fun l => ∀ (s : ByteArray) (acc : List Int), bytes s = l → s.size ≤ 1000000 → acc.length + s.size ≤ 1000000 →
  Ev (fun k => letterlockref1_Runes.l0 k s acc) (if Lib.validD l = true then (acc ++ runesD l, 0) else ([], 2))) ?_ ?_ l
 ·intro s acc hs hz ha
  refine ev_cast (Ev.step (fun _ => rfl) (Ev.pos (by rw [bytes_toList]; exact hs) (Ev.now _))) ?_
  rw [if_pos Lib.validD_nil, runesD_nil, List.append_nil]
 ·intro l hne ih s acc hs hz ha
  have hw := Lib.decodeL_width l
  have hle := Lib.decodeL_le l hne
  have hsz : s.size = l.length := by rw [← bytes_length, hs]
  refine Ev.step (fun _ => rfl) (Ev.neg (bytes_ne (by rw [hs]; exact hne)) (Ev.bind (first_ev s) ?_))
  rw [hs]
  by_cases hb : Bad l
  ·rw [first_bad hne hb]
   refine ev_cast (Ev.pos rfl (Ev.now _)) ?_
   rw [if_neg (by rw [valid_step hne, if_pos hb]; simp)]
  ·rw [first_good hne hb]
   refine Ev.neg (by show ¬ ((Lib.decodeL l).2 : Int) = 0; omega) (Ev.pos (by omega) (Ev.pos (by show (0 : Int) ≤ ((Lib.decodeL l).2 : Int); omega) (Ev.pos (by show ((Lib.decodeL l).2 : Int) ≤ (s.size : Int); omega) ?_)))
   have hd := extract_step s (Lib.decodeL l).2
   rw [hs] at hd
   have hz2 : (s.extract (((Lib.decodeL l).2 : Int)).toNat s.size).size = l.length - (Lib.decodeL l).2 := by rw [← bytes_length, hd, List.length_drop]
   refine ev_cast (ih (s.extract (((Lib.decodeL l).2 : Int)).toNat s.size) (acc ++ [((Lib.decodeL l).1 : Int)]) hd (by omega) (by rw [List.length_append, List.length_singleton]; omega)) ?_
   rw [valid_step hne, if_neg hb, runesD_step hne, List.append_assoc]
   rfl
theorem refRunes_ev (s : ByteArray) (h : s.size ≤ 1000000) : Ev (fun k => letterlockref1_Runes.f k s) (runesF s) := by
 unfold letterlockref1_Runes.f
 refine ev_cast (refRunes_loop (bytes s) s [] rfl h (by simpa using h)) ?_
 unfold runesF
 cases Lib.validD (bytes s) <;> rfl
theorem in_ref (r a b : Int) : letterlockref1_in.f r a b = some (decide (a ≤ r ∧ r ≤ b)) := by
 unfold letterlockref1_in.f
 by_cases h : r ≥ a
 ·rw [if_pos h]
  by_cases h2 : r ≤ b
  ·rw [decide_eq_true h2, decide_eq_true ⟨h, h2⟩]
  ·rw [decide_eq_false h2, decide_eq_false (fun e => h2 e.2)]
 ·rw [if_neg h, decide_eq_false (fun e => h e.1)]
theorem or_ite2 (p : Prop) [Decidable p] (b : Bool) : (if p then some true else some b) = some (decide p || b) := by
 by_cases h : p
 ·rw [if_pos h, decide_eq_true h]; rfl
 ·rw [if_neg h, decide_eq_false h]; rfl
theorem letter_ref (r : Int) : letterlockref1_letter.f r = some (letterZ r) := by
 unfold letterlockref1_letter.f letterZ
 simp only [in_ref, Option.bind_some, or_ite2, Bool.decide_eq_true, Bool.or_assoc]
theorem refName_loop (l : List Int) (hl : l.length ≤ 1000000) (m i : Nat) (hm : i + m = l.length) : Ev (fun k => letterlockref1_Right.l0 k l (i : Int)) ((l.drop i).all letterZ) := by
 induction m generalizing i with
 | zero =>
  rw [List.drop_eq_nil_of_le (by omega)]
  exact Ev.step (fun _ => rfl) (Ev.neg (by omega) (Ev.now _))
 | succ m ih =>
  have hi : i < l.length := by omega
  have ih := ih (i + 1) (by omega)
  rw [List.drop_eq_getElem_cons hi, List.all_cons]
  refine Ev.step (fun _ => rfl) (Ev.pos (by omega) (Ev.pos (by omega) ?_))
  rw [rd_get l i hi]
  refine Ev.put (letter_ref l[i]) ?_
  cases letterZ l[i] with
  | false => exact Ev.neg (by simp) (Ev.now _)
  | true =>
   refine Ev.pos rfl ?_
   rw [w64 (by omega) (by omega), Bool.true_and]
   exact ih
theorem refName_ev (s : ByteArray) (h : s.size ≤ 1000000) : Ev (fun k => letterlockref1_Right.f k s) (rightN (bytes s)) := by
 have hl := runesD_len (bytes s)
 rw [bytes_length] at hl
 unfold letterlockref1_Right.f
 refine Ev.bind (refRunes_ev s h) ?_
 unfold rightN
 cases hv : Lib.validD (bytes s) with
 | false =>
  rw [runesF_bad hv]
  exact Ev.neg (by simp) (Ev.step (fun _ => rfl) (Ev.now _))
 | true =>
  rw [runesF_valid hv]
  refine Ev.pos rfl ?_
  by_cases h1 : ((runesD (bytes s)).length : Int) < 1
  ·refine ev_cast (Ev.pos h1 (Ev.step (fun _ => rfl) (Ev.now _))) ?_
   rw [decide_eq_false (by omega), Bool.and_false]
  ·refine Ev.neg h1 ?_
   by_cases h2 : ((runesD (bytes s)).length : Int) > 32
   ·show Ev (fun k => letterlockref1_Right.j0 k (runesD (bytes s)) (decide (((runesD (bytes s)).length : Int) > 32))) _
    rw [decide_eq_true h2]
    refine ev_cast (Ev.step (fun _ => rfl) (Ev.now _)) ?_
    rw [decide_eq_false (by omega), Bool.and_false]
   ·show Ev (fun k => letterlockref1_Right.j0 k (runesD (bytes s)) (decide (((runesD (bytes s)).length : Int) > 32))) _
    rw [decide_eq_false h2]
    refine Ev.step (fun _ => rfl) (ev_cast (refName_loop (runesD (bytes s)) (by omega) (runesD (bytes s)).length 0 (by omega)) ?_)
    rw [decide_eq_true ⟨by omega, by omega⟩, Bool.and_true, Bool.true_and]; rfl
theorem refSplit_loop (s : ByteArray) (h : s.size ≤ 1000000) (m i : Nat) (hm : i + m = s.size) (hn : (47 : UInt8) ∉ (bytes s).take i) : Ev (fun k => letterlockref1_Split.l0 k s (i : Int)) (splitF s) := by
 induction m generalizing i with
 | zero =>
  rw [List.take_of_length_le (by rw [bytes_length]; omega)] at hn
  rw [split_bad (fun a b e _ _ => hn (by rw [e]; simp))]
  exact Ev.step (fun _ => rfl) (Ev.neg (by omega) (Ev.now _))
 | succ m ih =>
  have hi : i < (bytes s).length := by rw [bytes_length]; omega
  refine Ev.step (fun _ => rfl) (Ev.pos (by omega) (Ev.pos (by omega) ?_))
  rw [bt_bytes s i (by omega)]
  by_cases h47 : (bytes s)[i] = 47
  ·refine Ev.pos (by rw [h47]; rfl) (Ev.pos (by omega) ?_)
   rw [w64 (n := (i : Int) + 1) (by omega) (by omega), show (i : Int) + 1 = ((i + 1 : Nat) : Int) from by omega]
   refine Ev.pos (by omega) (Ev.pos (by omega) ?_)
   simp only [Int.toNat_natCast]
   have hl : bytes s = (bytes s).take i ++ 47 :: (bytes s).drop (i + 1) := by
    rw [← h47, ← List.drop_eq_getElem_cons hi, List.take_append_drop]
   have hcut : Lib.cut (bytes s) [47] = ((bytes s).take i, (bytes s).drop (i + 1), true) := by
    have := cut_at (a := (bytes s).take i) (b := (bytes s).drop (i + 1)) hn
    rw [← hl] at this; exact this
   have b1 : s.extract 0 i = ofBytes ((bytes s).take i) := bs_inj (by rw [bytes_to, bytes_ofBytes])
   have b2 : s.extract (i + 1) s.size = ofBytes ((bytes s).drop (i + 1)) := bs_inj (by rw [bytes_from, bytes_ofBytes])
   unfold splitF
   rw [hcut, b1, b2]
   have r1 := refName_ev (ofBytes ((bytes s).take i)) (by rw [size_ofBytes, List.length_take]; omega)
   have r2 := refName_ev (ofBytes ((bytes s).drop (i + 1))) (by rw [size_ofBytes, List.length_drop, bytes_length]; omega)
   rw [bytes_ofBytes] at r1 r2
   refine Ev.bind r1 ?_
   cases rightN ((bytes s).take i) with
   | false => exact ev_cast (Ev.neg (by simp) (Ev.now _)) (by rw [if_neg (by simp)])
   | true =>
    refine Ev.pos rfl (Ev.bind r2 ?_)
    cases rightN ((bytes s).drop (i + 1)) with
    | false => exact ev_cast (Ev.neg (by simp) (Ev.now _)) (by rw [if_neg (by simp)])
    | true => exact ev_cast (Ev.pos rfl (Ev.now _)) (by rw [if_pos ⟨rfl, rfl⟩])
  ·refine Ev.neg (fun e => h47 (UInt8.toNat_inj.1 (by show _ = 47; omega))) ?_
   rw [w64 (by omega) (by omega)]
   refine ih (i + 1) (by omega) ?_
   rw [List.take_succ_eq_append_getElem hi]
   intro hm2
   rcases List.mem_append.1 hm2 with h2 | h2
   ·exact hn h2
   ·exact h47 (List.mem_singleton.1 h2).symm
theorem refSplit_ev (s : ByteArray) (h : s.size ≤ 1000000) : Ev (fun k => letterlockref1_Split.f k s) (splitF s) := by
 unfold letterlockref1_Split.f
 exact refSplit_loop s h s.size 0 (by omega) (by simp)
end Go.Proofs.YtphehoidkmficaaGreatDoor.Ref
end
section

namespace Go.Proofs.YtphehoidkmficaaGreatDoor.Ref
open Go.RowKit Go.Proofs.YtphehoidkmficaaGreatDoor Go.Proofs.YtphehoidkmficaaGreatDoor.PA Go.Proofs.YtphehoidkmficaaGreatDoorW.PrintWords Go.Proofs.YtphehoidkmficaaGreatDoorW.PrintLast
set_option linter.unusedVariables false
def keyB : ByteArray := ⟨#[107, 101, 121]⟩
def hashesF : Nat → ByteArray → ByteArray × Int
 | 0, s => (s, 0)
 | n + 1, s => if (hashF s).2 = 0 then hashesF n (hashF s).1 else (⟨#[]⟩, (hashF s).2)
def backF (s : ByteArray) (n : Int) : ByteArray × Int := if right s = true then (if n < 0 then (⟨#[]⟩, 1) else hashesF n.toNat s) else (⟨#[]⟩, 1)
def stateF (s : ByteArray) (e : Int) : ByteArray × Int := if right s = true then (if e < 0 then (⟨#[]⟩, 9) else if 7 < e then (⟨#[]⟩, 9) else backF s (7 - e)) else (⟨#[]⟩, 1)
def keyF (s : ByteArray) : ByteArray × Int :=
 if right s = true then (if (pairF (textB keyB) s).2 = 0 then hashF (pairF (textB keyB) s).1 else (⟨#[]⟩, (pairF (textB keyB) s).2)) else (⟨#[]⟩, 1)
theorem back_loop (m : Nat) (s : ByteArray) (n i : Int) (h : s.size ≤ 9223372036854774000) (hm : n - i = m) (hn : n ≤ 9223372036854775807) (hi : 0 ≤ i) :
  Ev (fun k => regress_Back.l0 k s n i) (hashesF m s) := by
 induction m generalizing s i with
 | zero => exact Ev.step (fun _ => rfl) (Ev.neg (by omega) (Ev.now _))
 | succ m ih =>
  refine Ev.step (fun _ => rfl) (Ev.pos (by omega) (Ev.put (hash_val s h) ?_))
  unfold hashesF
  by_cases h0 : (hashF s).2 = 0
  ·rw [if_pos h0]
   refine Ev.pos h0 ?_
   rw [w64 (by omega) (by omega)]
   exact ih _ _ (by have := hash_size s; omega) (by omega) (by omega)
  ·rw [if_neg h0]
   exact Ev.neg h0 (Ev.now _)
theorem back_ev (s : ByteArray) (n : Int) (h : s.size ≤ 9223372036854774000) (hn : n ≤ 9223372036854775807) : Ev (fun k => regress_Back.f k s n) (backF s n) := by
 unfold regress_Back.f backF
 refine Ev.put (kind_val s h) ?_
 cases hr : right s with
 | false =>
  rw [if_neg (by simp)]
  exact Ev.pos ((kindF_zero s).2 hr) (Ev.step (fun _ => rfl) (Ev.now _))
 | true =>
  rw [if_pos rfl]
  refine Ev.neg (fun e => by rw [(kindF_zero s).1 e] at hr; simp at hr) ?_
  by_cases h0 : n < 0
  ·rw [if_pos h0]
   exact Ev.step (fun _ => rfl) (Ev.pos (decide_eq_true h0) (Ev.now _))
  ·rw [if_neg h0]
   refine Ev.step (fun _ => rfl) (Ev.neg (by simpa using h0) ?_)
   exact back_loop n.toNat s n 0 h (by omega) hn (by omega)
theorem key_text : textF keyB = (textB keyB, 0) := by
 unfold textF
 rw [if_neg]
 have := size_numB (n := keyB.size) (by decide)
 unfold textB
 rw [ByteArray.size_append, ByteArray.size_append, size_one, show keyB.size = 3 from rfl]
 rw [show keyB.size = 3 from rfl] at this
 omega
theorem textB_key_size : (textB keyB).size ≤ 4000 := by
 have := textF_size keyB
 rwa [key_text] at this
theorem key_ev (s : ByteArray) (h : s.size ≤ 9223372036854774000) : Ev (fun k => regress_Key.f k s) (keyF s) := by
 unfold regress_Key.f keyF
 refine Ev.put (kind_val s h) ?_
 cases hr : right s with
 | false =>
  rw [if_neg (by simp)]
  exact Ev.pos ((kindF_zero s).2 hr) (Ev.now _)
 | true =>
  rw [if_pos rfl]
  refine Ev.neg (fun e => by rw [(kindF_zero s).1 e] at hr; simp at hr) ?_
  have ht := ofText_ev keyB (by decide)
  rw [key_text] at ht
  refine Ev.bind ht (Ev.put (pair_val (textB keyB) s (by have := textB_key_size; omega) h) ?_)
  by_cases h0 : (pairF (textB keyB) s).2 = 0
  ·simp only [if_pos h0]
   exact Ev.put (hash_val _ (by have := pair_size (textB keyB) s; omega)) (Ev.now _)
  ·simp only [if_neg h0]
   exact Ev.now _
theorem keyB_len : (bytes keyB).length = 3 := rfl
def hT : Nat → T → T
 | 0, t => t
 | n + 1, t => hT n (.one .h t)
theorem len_hT (n : Nat) (t : T) : (enc (hT n t)).length = n + (enc t).length := by
 induction n generalizing t with
 | zero => simp [hT]
 | succ n ih => simp only [hT, ih, enc, List.length_cons]; omega
theorem ok_hT (n d : Nat) (t : T) (h : ok d t) : ok (d + n) (hT n t) := by
 induction n generalizing t d with
 | zero => exact h
 | succ n ih => exact ok_mono (ih (d + 1) (.one .h t) h) (by omega)
theorem hT_hT (a b : Nat) (t : T) : hT a (hT b t) = hT (b + a) t := by
 induction b generalizing t with
 | zero => simp [hT]
 | succ b ih => rw [show b + 1 + a = (b + a) + 1 from by omega]; exact ih _
theorem hashes_tm (n d : Nat) (t : T) (h : ok d t) (hd : d + n ≤ 40) (hl : (enc t).length + n ≤ 4000) : hashesF n (tm t) = (tm (hT n t), 0) := by
 induction n generalizing t d with
 | zero => rfl
 | succ n ih =>
  have hh : hashF (tm t) = (tm (.one .h t), 0) := hash_tm ⟨ok_mono (d := d + 1) (show ok (d + 1) (.one .h t) from h) (by omega), by simp only [enc, List.length_cons]; omega⟩
  unfold hashesF
  rw [hh, if_pos rfl]
  exact ih (d + 1) (.one .h t) h (by omega) (by simp only [enc, List.length_cons]; omega)
theorem back_tm (n d : Nat) (t : T) (h : ok d t) (hd : d + n ≤ 40) (hl : (enc t).length + n ≤ 4000) : backF (tm t) (n : Int) = (tm (hT n t), 0) := by
 unfold backF
 rw [if_pos (right_tm ⟨ok_mono h (by omega), by omega⟩), if_neg (by omega), Int.toNat_natCast]
 exact hashes_tm n d t h hd hl
theorem state_tm (e d : Nat) (t : T) (he : e ≤ 7) (h : ok d t) (hd : d + 7 ≤ 40) (hl : (enc t).length + 7 ≤ 4000) : stateF (tm t) (e : Int) = (tm (hT (7 - e) t), 0) := by
 unfold stateF
 rw [if_pos (right_tm ⟨ok_mono h (by omega), by omega⟩), if_neg (by omega), if_neg (by omega), show (7 : Int) - e = ((7 - e : Nat) : Int) from by omega]
 exact back_tm (7 - e) d t h (by omega) (by omega)
def keyT (t : T) : T := .one .h (.two .p (.text (bytes keyB)) t)
theorem key_tm (d : Nat) (t : T) (h : ok d t) (hd0 : 0 < d) (hd : d + 2 ≤ 40) (hl : (enc t).length + 15 ≤ 4000) : keyF (tm t) = (tm (keyT t), 0) := by
 have h3 := len_text keyB (by decide)
 rw [show keyB.size = 3 from rfl] at h3
 have hw1 : Wf (.two .p (.text (bytes keyB)) t) := by
  refine ⟨ok_mono (d := d + 1) ?_ (by omega), by simp only [enc, List.length_cons, List.length_append] at h3 ⊢; omega⟩
  obtain ⟨d, rfl⟩ : ∃ e, d = e + 1 := ⟨d - 1, by omega⟩
  exact ⟨show (bytes keyB).length ≤ 4000 by rw [keyB_len]; omega, h, fun e => by simp at e⟩
 have hw2 : Wf (keyT t) := by
  refine ⟨ok_mono (d := d + 2) ?_ (by omega), by simp only [keyT, enc, List.length_cons, List.length_append] at h3 ⊢; omega⟩
  obtain ⟨d, rfl⟩ : ∃ e, d = e + 1 := ⟨d - 1, by omega⟩
  exact ⟨show (bytes keyB).length ≤ 4000 by rw [keyB_len]; omega, h, fun e => by simp at e⟩
 unfold keyF
 rw [if_pos (right_tm ⟨ok_mono h (by omega), by omega⟩), textB_tm, pair_tm hw1, if_pos rfl]
 exact hash_tm hw2
theorem hashes_codes (n : Nat) (s : ByteArray) (h : right s = true) : (hashesF n s).2 = 0 ∧ right (hashesF n s).1 = true ∨ hashesF n s = (⟨#[]⟩, 10) := by
 induction n generalizing s with
 | zero => exact Or.inl ⟨rfl, h⟩
 | succ n ih =>
  unfold hashesF
  by_cases h0 : (hashF s).2 = 0
  ·rw [if_pos h0]; exact ih _ (ofF_right h0)
  ·rw [if_neg h0]
   rcases ofF_codes2 (c := ⟨#[104]⟩) (l := [s]) (by simp [h]) with h1 | h1
   ·exact absurd h1 h0
   ·exact Or.inr (Prod.ext rfl h1)
end Go.Proofs.YtphehoidkmficaaGreatDoor.Ref
end
section

namespace Go.Proofs.YtphehoidkmficaaGreatDoor.Ref
open Go.RowKit Go.Proofs.YtphehoidkmficaaGreatDoor Go.Proofs.YtphehoidkmficaaGreatDoor.PA Go.Proofs.YtphehoidkmficaaGreatDoorW.PrintWords Go.Proofs.YtphehoidkmficaaGreatDoorW.PrintLast
set_option linter.unusedVariables false
def nameB (a b : ByteArray) : ByteArray := (a ++ ⟨#[58]⟩) ++ b
def secretF (a b : ByteArray) (n : Nat) : ByteArray × Int :=
 if (textF (nameB a b)).2 = 0 then (if (pairF (textF (nameB a b)).1 (atomB n)).2 = 0 then hashF (pairF (textF (nameB a b)).1 (atomB n)).1 else (⟨#[]⟩, (pairF (textF (nameB a b)).1 (atomB n)).2)) else (⟨#[]⟩, (textF (nameB a b)).2)
theorem ofAtom_ev (n : Nat) (h : n < 18446744073709551616) : Ev (fun k => term_OfAtom.f k (n : Int)) (atomB n) := by
 unfold term_OfAtom.f
 have := size_numB h
 exact Ev.bind (wirePut_ev n h) (Ev.pos (show 1 + (numB n).size ≤ _ by omega) (Ev.now _))
theorem nameB_size (a b : ByteArray) : (nameB a b).size = a.size + 1 + b.size := by
 unfold nameB; rw [ByteArray.size_append, ByteArray.size_append, size_one]
def rootT (a b : ByteArray) (n : Nat) : T := .one .h (.two .p (.text (bytes (nameB a b))) (.atom n))
theorem rootT_ok (a b : ByteArray) (n : Nat) (hs : (nameB a b).size ≤ 1010) (h : n < 18446744073709551616) : ok 3 (rootT a b n) :=
 ⟨show (bytes (nameB a b)).length ≤ 4000 by rw [bytes_length]; omega, h, fun e => by simp at e⟩
theorem rootT_len (a b : ByteArray) (n : Nat) (hs : (nameB a b).size ≤ 1010) (h : n < 18446744073709551616) : (enc (rootT a b n)).length ≤ 1100 := by
 have h1 := len_text (nameB a b) (by omega)
 have h2 := len_atom n h
 simp only [rootT, enc, List.length_cons, List.length_append] at h1 h2 ⊢; omega
theorem secret_tm (a b : ByteArray) (n : Nat) (hs : (nameB a b).size ≤ 1010) (h : n < 18446744073709551616) : secretF a b n = (tm (rootT a b n), 0) := by
 have h1 := len_text (nameB a b) (by omega)
 have h2 := len_atom n h
 have hw2 : Wf (rootT a b n) := ⟨ok_mono (rootT_ok a b n hs h) (by omega), by have := rootT_len a b n hs h; omega⟩
 have hw1 : Wf (.two .p (.text (bytes (nameB a b))) (.atom n)) := ⟨ok_mono (d := 2) (rootT_ok a b n hs h) (by omega), by have := hw2.2; simp only [rootT, enc, List.length_cons, List.length_append] at this ⊢; omega⟩
 have ht : textF (nameB a b) = (textB (nameB a b), 0) := by
  unfold textF
  rw [if_neg]
  rw [textB_tm, size_tm]; omega
 unfold secretF
 rw [ht, if_pos rfl, textB_tm, atomB_tm, pair_tm hw1, if_pos rfl]
 exact hash_tm hw2
end Go.Proofs.YtphehoidkmficaaGreatDoor.Ref
end
section

namespace Go.Proofs.YtphehoidkmficaaGreatDoor.Ref
open Go.RowKit Go.Proofs.YtphehoidkmficaaGreatDoor Go.Proofs.YtphehoidkmficaaGreatDoor.PA Go.Proofs.YtphehoidkmficaaGreatDoorW.PrintWords Go.Proofs.YtphehoidkmficaaGreatDoorW.PrintLast
set_option linter.unusedVariables false
def catT (l : List ByteArray) : ByteArray := ofBytes (l.flatMap fun s => putT (bytes s))
def allB (l : List ByteArray) : ByteArray := numB l.length ++ catT l
theorem catT_cons (s : ByteArray) (l : List ByteArray) : catT (s :: l) = (numB s.size ++ s) ++ catT l := by
 refine bs_inj ?_
 unfold catT numB putT
 rw [bytes_append, bytes_append, bytes_ofBytes, bytes_ofBytes, bytes_ofBytes, List.flatMap_cons, bytes_length]
theorem catT_nil : catT [] = ⟨#[]⟩ := rfl
theorem catT_append (l m : List ByteArray) : catT (l ++ m) = catT l ++ catT m := by
 refine bs_inj ?_
 unfold catT
 rw [bytes_append, bytes_ofBytes, bytes_ofBytes, bytes_ofBytes, List.flatMap_append]
theorem catT_one (s : ByteArray) : catT [s] = numB s.size ++ s := by
 rw [catT_cons, catT_nil]
 refine bs_inj ?_
 rw [bytes_append]
 show bytes (numB s.size ++ s) ++ [] = _
 rw [List.append_nil]
theorem catT_size (l : List ByteArray) (h : ∀ s ∈ l, s.size ≤ 100000000000) : (catT l).size ≤ l.length * 100000000009 := by
 induction l with
 | nil => exact Nat.le_refl _
 | cons s l ih =>
  have h1 := h s List.mem_cons_self
  have h2 := size_numB (n := s.size) (by omega)
  have h3 := ih fun x hx => h x (List.mem_cons_of_mem _ hx)
  rw [catT_cons, ByteArray.size_append, ByteArray.size_append, List.length_cons]
  omega
theorem joinB_cons (a : ByteArray) (l : List ByteArray) : joinB (a :: l) = a ++ joinB l := by
 refine bs_inj ?_
 unfold joinB
 rw [bytes_append, bytes_ofBytes, bytes_ofBytes, List.flatMap_cons]
theorem joinB_texts (l : List ByteArray) : joinB (l.map fun s => numB s.size ++ s) = catT l := by
 induction l with
 | nil => rfl
 | cons s l ih => rw [List.map_cons, joinB_cons, ih, catT_cons]
theorem putAll_loop (l : List ByteArray) (hl : l.length ≤ 1000) (hs : ∀ s ∈ l, s.size ≤ 100000000000) (m i : Nat) (hm : i + m = l.length) (h0 : ByteArray) (hz : h0.size ≤ 9) :
  Ev (fun k => wire_PutAll.l0 k (h0 :: (l.take i).map fun s => numB s.size ++ s) l (l.length : Int) (i : Int)) (h0 ++ catT l) := by
 induction m generalizing i with
 | zero =>
  rw [List.take_of_length_le (by omega)]
  refine Ev.step (fun _ => rfl) (Ev.neg (by omega) (Ev.put (a := h0 ++ catT l) ?_ (Ev.now _)))
  have h1 := catT_size l hs
  have h2 : l.length * 100000000009 ≤ 1000 * 100000000009 := Nat.mul_le_mul_right _ hl
  unfold wire_join.f
  rw [if_pos ⟨by simp; omega, by rw [joinB_cons, joinB_texts, ByteArray.size_append]; omega⟩, joinB_cons, joinB_texts]
 | succ m ih =>
  have hi : i < l.length := by omega
  have hz := hs l[i] (List.getElem_mem hi)
  refine Ev.step (fun _ => rfl) (Ev.pos (by omega) (Ev.pos (by omega) (Ev.pos (by omega) ?_)))
  have hr : rdOf ByteArray.empty l (i : Int) = l[i] := by
   unfold rdOf; rw [Int.toNat_natCast, List.getD_eq_getElem?_getD, List.getElem?_eq_getElem hi]; rfl
  rw [hr]
  refine Ev.bind (putText_ev l[i] (by omega)) (Ev.pos (by simp; omega) ?_)
  rw [w64 (n := (i : Int) + 1) (by omega) (by omega)]
  have := ih (i + 1) (by omega)
  rw [List.take_succ_eq_append_getElem hi, List.map_append] at this
  exact this
theorem putAll_ev (l : List ByteArray) (hl : l.length ≤ 1000) (hs : ∀ s ∈ l, s.size ≤ 100000000000) : Ev (fun k => wire_PutAll.f k l) (allB l) := by
 have hw : IntKind.u64.wrap (l.length : Int) = (l.length : Int) := by rw [IntKind.wrap_u64]; omega
 unfold wire_PutAll.f allB
 rw [hw]
 exact Ev.bind (wirePut_ev l.length (by omega)) (putAll_loop l hl hs l.length 0 (by omega) _ (size_numB (by omega)))
theorem refPutText_ev (s : ByteArray) (h : s.size ≤ 100000000000000) : Ev (fun k => letterlockref2_PutText.f k s) (numB s.size ++ s) := by
 have hw : IntKind.u64.wrap (s.size : Int) = (s.size : Int) := by rw [IntKind.wrap_u64]; omega
 unfold letterlockref2_PutText.f
 rw [hw]
 have := size_numB (n := s.size) (by omega)
 exact Ev.bind (refPut_ev s.size (by omega)) (Ev.pos (by omega) (Ev.now _))
theorem refPutAll_loop (l : List ByteArray) (hl : l.length ≤ 1000) (hs : ∀ s ∈ l, s.size ≤ 100000000000) (m i : Nat) (hm : i + m = l.length) (h0 : ByteArray) (hz : h0.size ≤ 9) :
  Ev (fun k => letterlockref2_PutAll.l0 k l (h0 ++ catT (l.take i)) (i : Int)) (h0 ++ catT l) := by
 induction m generalizing i with
 | zero =>
  rw [List.take_of_length_le (by omega)]
  exact Ev.step (fun _ => rfl) (Ev.neg (by omega) (Ev.now _))
 | succ m ih =>
  have hi : i < l.length := by omega
  have hz := hs l[i] (List.getElem_mem hi)
  refine Ev.step (fun _ => rfl) (Ev.pos (by omega) (Ev.pos (by omega) ?_))
  have hr : rdOf ByteArray.empty l (i : Int) = l[i] := by
   unfold rdOf; rw [Int.toNat_natCast, List.getD_eq_getElem?_getD, List.getElem?_eq_getElem hi]; rfl
  rw [hr]
  have h1 := catT_size (l.take i) fun s hs2 => hs s (List.mem_of_mem_take hs2)
  have h2 : (l.take i).length * 100000000009 ≤ 1000 * 100000000009 := Nat.mul_le_mul_right _ (by rw [List.length_take]; omega)
  have h3 := size_numB (n := l[i].size) (by omega)
  refine Ev.bind (refPutText_ev l[i] (by omega)) (Ev.pos (by rw [ByteArray.size_append, ByteArray.size_append]; omega) ?_)
  rw [w64 (n := (i : Int) + 1) (by omega) (by omega)]
  have := ih (i + 1) (by omega)
  rw [List.take_succ_eq_append_getElem hi, catT_append, catT_one, ← ByteArray.append_assoc] at this
  exact this
theorem refPutAll_ev (l : List ByteArray) (hl : l.length ≤ 1000) (hs : ∀ s ∈ l, s.size ≤ 100000000000) : Ev (fun k => letterlockref2_PutAll.f k l) (allB l) := by
 have hw : IntKind.u64.wrap (l.length : Int) = (l.length : Int) := by rw [IntKind.wrap_u64]; omega
 unfold letterlockref2_PutAll.f allB
 rw [hw]
 refine Ev.bind (refPut_ev l.length (by omega)) ?_
 have := refPutAll_loop l hl hs l.length 0 (by omega) (numB l.length) (size_numB (by omega))
 have e : numB l.length ++ catT (l.take 0) = numB l.length := by
  rw [List.take_zero, catT_nil]
  refine bs_inj ?_
  rw [bytes_append]
  show _ ++ [] = _
  rw [List.append_nil]
 rw [e] at this
 exact this
def takeGo (most : Nat) : Nat → ByteArray → List ByteArray → List ByteArray × Int
 | 0, s, acc => if s.toList = [] then (acc, 0) else ([], 2)
 | n + 1, s, acc => if (takeTextF most s).2.2 = 0 then takeGo most n (takeTextF most s).2.1 (acc ++ [(takeTextF most s).1]) else ([], (takeTextF most s).2.2)
def takeAllF (many most : Nat) (s : ByteArray) : List ByteArray × Int :=
 if (takeF s).2.2 = 0 then (if (takeF s).1 > (many : Int) then ([], 10) else takeGo most (takeF s).1.toNat (takeF s).2.1 []) else ([], (takeF s).2.2)
theorem takeText_size (most : Nat) (s : ByteArray) : (takeTextF most s).2.1.size ≤ s.size := by
 unfold takeTextF
 cases h : takeL (bytes s) with
 | none => exact Nat.zero_le _
 | some x =>
  obtain ⟨n, r⟩ := x
  have h1 := congrArg List.length (take_inv h).1
  rw [bytes_length, List.length_append] at h1
  simp only
  split
  ·exact Nat.zero_le _
  ·split
   ·exact Nat.zero_le _
   ·rw [size_ofBytes, List.length_drop]; omega
theorem takeF_size (s : ByteArray) : (takeF s).2.1.size ≤ s.size ∧ 0 ≤ (takeF s).1 ∧ (takeF s).1 < 18446744073709551616 := by
 unfold takeF
 cases h : takeL (bytes s) with
 | none => exact ⟨Nat.zero_le _, by simp, by simp⟩
 | some x =>
  obtain ⟨n, r⟩ := x
  have h1 := congrArg List.length (take_inv h).1
  have h2 := (take_inv h).2
  rw [bytes_length, List.length_append] at h1
  simp only
  rw [size_ofBytes]
  omega
theorem limited_val (most : Nat) (s : ByteArray) (h : s.size ≤ 1000000) (hm : most ≤ 1000000) : wire_limited.f s (most : Int) = some (limitedF most s) := by
 unfold wire_limited.f
 rw [if_pos ⟨by omega, by omega, by omega⟩, Int.toNat_natCast]
theorem limited_take (most : Nat) (s : ByteArray) : limitedF most s = if (takeF s).2.2 = 0 then (if (takeF s).1 > (most : Int) then (0, ⟨#[]⟩, 10) else takeF s) else (0, ⟨#[]⟩, (takeF s).2.2) := by
 unfold limitedF takeF
 cases takeL (bytes s) with
 | none => rfl
 | some x =>
  obtain ⟨n, r⟩ := x
  simp only
  rw [if_pos trivial]
  by_cases h : most < n
  ·rw [if_pos h, if_pos (by omega)]
  ·rw [if_neg h, if_neg (by omega)]
theorem takeAll_loop (most : Nat) (hm : most ≤ 1000000) (n : Nat) (hn : n ≤ 1000) (m i : Nat) (hi : i + m = n) (s : ByteArray) (acc : List ByteArray) (hs : s.size ≤ 1000000) (ha : acc.length = i) :
  Ev (fun k => wire_TakeAll.l0 k (most : Int) s acc (n : Int) (i : Int)) (takeGo most m s acc) := by
 induction m generalizing i s acc with
 | zero =>
  refine Ev.step (fun _ => rfl) (Ev.neg (by omega) ?_)
  unfold takeGo
  by_cases h : s.toList = ([] : List UInt8)
  ·simp only [if_pos h]; exact Ev.now _
  ·simp only [if_neg h]; exact Ev.now _
 | succ m ih =>
  have hz := takeText_size most s
  refine Ev.step (fun _ => rfl) (Ev.pos (by omega) ?_)
  have hv : wire_TakeText.f s (most : Int) = some (takeTextF most s) := by
   unfold wire_TakeText.f
   rw [if_pos ⟨by omega, by omega, by omega⟩, Int.toNat_natCast]
  refine Ev.put hv ?_
  rw [takeGo]
  by_cases h : (takeTextF most s).2.2 = 0
  ·rw [if_pos h]
   refine Ev.pos h (Ev.pos (by omega) ?_)
   rw [w64 (n := (i : Int) + 1) (by omega) (by omega)]
   exact ih (i + 1) (by omega) _ _ (by omega) (by simp; omega)
  ·rw [if_neg h]
   exact Ev.neg h (Ev.now _)
theorem takeAll_ev (many most : Nat) (s : ByteArray) (hmn : many ≤ 1000) (hm : most ≤ 1000000) (hs : s.size ≤ 1000000) : Ev (fun k => wire_TakeAll.f k s (many : Int) (most : Int)) (takeAllF many most s) := by
 have hz := takeF_size s
 unfold wire_TakeAll.f takeAllF
 refine Ev.put (limited_val many s hs (by omega)) ?_
 rw [limited_take]
 by_cases h : (takeF s).2.2 = 0
 ·rw [if_pos h, if_pos h]
  by_cases h2 : (takeF s).1 > (many : Int)
  ·rw [if_pos h2, if_pos h2]
   exact Ev.neg (by simp) (Ev.now _)
  ·rw [if_neg h2, if_neg h2]
   refine Ev.pos h ?_
   have e : (takeF s).1 = (((takeF s).1.toNat : Nat) : Int) := by omega
   have := takeAll_loop most hm (takeF s).1.toNat (by omega) (takeF s).1.toNat 0 (by omega) (takeF s).2.1 [] (by omega) rfl
   rw [← e] at this
   exact this
 ·rw [if_neg h, if_neg h]
  exact Ev.neg h (Ev.now _)
theorem refTakeText_any (most : Nat) (hm : most ≤ 1000000) (s : ByteArray) (h : s.size ≤ 1000000) : Ev (fun k => letterlockref2_TakeText.f k s (most : Int)) (takeTextF most s) := by
 unfold letterlockref2_TakeText.f takeTextF
 refine Ev.bind (refTake_ev s) ?_
 unfold takeF
 cases ht : takeL (bytes s) with
 | none => exact Ev.neg (by simp) (Ev.now _)
 | some x =>
  obtain ⟨n, r⟩ := x
  have hn := (take_inv ht).2
  have hr : r.length ≤ 1000000 := by
   have := congrArg List.length (take_inv ht).1
   rw [bytes_length, List.length_append] at this
   omega
  refine Ev.pos rfl ?_
  simp only
  have hmx : IntKind.u64.wrap (mx (most : Int) 0) = (most : Int) := by
   have : mx (most : Int) 0 = (most : Int) := by unfold mx; omega
   rw [this, IntKind.wrap_u64]; omega
  rw [hmx, size_ofBytes, show IntKind.u64.wrap (r.length : Int) = (r.length : Int) from by rw [IntKind.wrap_u64]; omega]
  by_cases h1 : most < n
  ·rw [if_pos h1]; exact Ev.pos (by omega) (Ev.now _)
  rw [if_neg h1]
  refine Ev.neg (by omega) ?_
  by_cases h2 : r.length < n
  ·rw [if_pos h2]; exact Ev.pos (by omega) (Ev.now _)
  rw [if_neg h2]
  refine Ev.neg (by omega) (Ev.pos (by omega) (Ev.pos (by omega) (Ev.const ?_)))
  rw [Int.toNat_natCast, show (ofBytes r).extract 0 n = ofBytes (r.take n) from bs_inj (by rw [bytes_to, bytes_ofBytes, bytes_ofBytes]),
   show (ofBytes r).extract n r.length = ofBytes (r.drop n) from bs_inj (by rw [← size_ofBytes r, bytes_from, bytes_ofBytes, bytes_ofBytes])]
theorem refTakeAll_loop (most : Nat) (hm : most ≤ 1000000) (n : Nat) (hn : n ≤ 1000) (m i : Nat) (hi : i + m = n) (s : ByteArray) (acc : List ByteArray) (hs : s.size ≤ 1000000) (ha : acc.length = i) :
  Ev (fun k => letterlockref2_TakeAll.l0 k (most : Int) (n : Int) s acc (i : Int)) (takeGo most m s acc) := by
 induction m generalizing i s acc with
 | zero =>
  refine Ev.step (fun _ => rfl) (Ev.neg (by omega) ?_)
  unfold takeGo
  by_cases h : s.toList = ([] : List UInt8)
  ·simp only [if_pos h]; exact Ev.now _
  ·simp only [if_neg h]; exact Ev.now _
 | succ m ih =>
  have hz := takeText_size most s
  refine Ev.step (fun _ => rfl) (Ev.pos (by omega) (Ev.bind (refTakeText_any most hm s hs) ?_))
  rw [takeGo]
  by_cases h : (takeTextF most s).2.2 = 0
  ·rw [if_pos h]
   refine Ev.pos h (Ev.pos (by omega) ?_)
   rw [show IntKind.u64.wrap ((i : Int) + 1) = ((i + 1 : Nat) : Int) from by rw [IntKind.wrap_u64]; omega]
   exact ih (i + 1) (by omega) _ _ (by omega) (by simp; omega)
  ·rw [if_neg h]
   exact Ev.neg h (Ev.now _)
theorem refTakeAll_ev (many most : Nat) (s : ByteArray) (hmn : many ≤ 1000) (hm : most ≤ 1000000) (hs : s.size ≤ 1000000) : Ev (fun k => letterlockref2_TakeAll.f k s (many : Int) (most : Int)) (takeAllF many most s) := by
 have hz := takeF_size s
 unfold letterlockref2_TakeAll.f takeAllF
 refine Ev.bind (refTake_ev s) ?_
 have hmx : IntKind.u64.wrap (mx (many : Int) 0) = (many : Int) := by
  have : mx (many : Int) 0 = (many : Int) := by unfold mx; omega
  rw [this, IntKind.wrap_u64]; omega
 rw [hmx]
 by_cases h : (takeF s).2.2 = 0
 ·rw [if_pos h]
  refine Ev.pos h ?_
  by_cases h2 : (takeF s).1 > (many : Int)
  ·rw [if_pos h2]
   exact Ev.pos h2 (Ev.now _)
  ·rw [if_neg h2]
   refine Ev.neg h2 ?_
   have e : (takeF s).1 = (((takeF s).1.toNat : Nat) : Int) := by omega
   have := refTakeAll_loop most hm (takeF s).1.toNat (by omega) (takeF s).1.toNat 0 (by omega) (takeF s).2.1 [] (by omega) rfl
   rw [← e] at this
   exact this
 ·rw [if_neg h]
  exact Ev.neg h (Ev.now _)
theorem takeText_put {most : Nat} {s : ByteArray} (h : s.size ≤ most) (hm : most ≤ 1000000) (r : ByteArray) : takeTextF most ((numB s.size ++ s) ++ r) = (s, r, 0) := by
 unfold takeTextF
 have e : bytes ((numB s.size ++ s) ++ r) = putL s.size ++ (bytes s ++ bytes r) := by
  rw [bytes_append, bytes_append]; unfold numB; rw [bytes_ofBytes, List.append_assoc]
 rw [e, take_put (by omega)]
 simp only
 rw [if_neg (by omega), if_neg (by rw [List.length_append, bytes_length]; omega), List.take_append_of_le_length (by rw [bytes_length]; exact Nat.le_refl _), List.drop_append_of_le_length (by rw [bytes_length]; exact Nat.le_refl _)]
 rw [List.take_of_length_le (by rw [bytes_length]; exact Nat.le_refl _), List.drop_eq_nil_of_le (by rw [bytes_length]; exact Nat.le_refl _), List.nil_append, ofBytes_bytes, ofBytes_bytes]
theorem takeText_inv {most : Nat} {s t r : ByteArray} (h : takeTextF most s = (t, r, 0)) : s = (numB t.size ++ t) ++ r ∧ t.size ≤ most := by
 unfold takeTextF at h
 cases ht : takeL (bytes s) with
 | none => rw [ht] at h; simp at h
 | some x =>
  obtain ⟨n, q⟩ := x
  rw [ht] at h
  simp only at h
  by_cases h1 : most < n
  ·rw [if_pos h1] at h; simp at h
  rw [if_neg h1] at h
  by_cases h2 : q.length < n
  ·rw [if_pos h2] at h; simp at h
  rw [if_neg h2] at h
  simp only [Prod.mk.injEq, and_true] at h
  obtain ⟨rfl, rfl⟩ := h
  have h3 := (take_inv ht).1
  have hl : (ofBytes (q.take n)).size = n := by rw [size_ofBytes, List.length_take]; omega
  refine ⟨bs_inj ?_, by omega⟩
  rw [h3, bytes_append, bytes_append, hl]
  unfold numB
  rw [bytes_ofBytes, bytes_ofBytes, bytes_ofBytes, List.append_assoc, List.take_append_drop]
theorem takeGo_put (most : Nat) (hm : most ≤ 1000000) (l acc : List ByteArray) (h : ∀ s ∈ l, s.size ≤ most) : takeGo most l.length (catT l) acc = (acc ++ l, 0) := by
 induction l generalizing acc with
 | nil =>
  rw [List.length_nil, takeGo, if_pos (by rw [catT_nil, bytes_toList]; rfl), List.append_nil]
 | cons s l ih =>
  rw [List.length_cons, takeGo, catT_cons, takeText_put (h s List.mem_cons_self) hm, if_pos rfl, ih _ (fun x hx => h x (List.mem_cons_of_mem _ hx)), List.append_assoc]
  rfl
theorem takeGo_inv (most : Nat) (n : Nat) (s : ByteArray) (acc l : List ByteArray) (h : takeGo most n s acc = (l, 0)) : ∃ m, l = acc ++ m ∧ m.length = n ∧ s = catT m ∧ ∀ x ∈ m, x.size ≤ most := by
 induction n generalizing s acc with
 | zero =>
  rw [takeGo] at h
  by_cases hs : s.toList = []
  ·rw [if_pos hs] at h
   simp only [Prod.mk.injEq, and_true] at h
   refine ⟨[], by rw [List.append_nil, h], rfl, bs_inj ?_, by simp⟩
   rw [← bytes_toList, hs]; rfl
  ·rw [if_neg hs] at h; simp at h
 | succ n ih =>
  rw [takeGo] at h
  by_cases ht : (takeTextF most s).2.2 = 0
  ·rw [if_pos ht] at h
   obtain ⟨m, h1, h2, h3, h4⟩ := ih _ _ h
   have h5 := takeText_inv (most := most) (s := s) (t := (takeTextF most s).1) (r := (takeTextF most s).2.1) (by rw [← ht])
   refine ⟨(takeTextF most s).1 :: m, by rw [h1, List.append_assoc]; rfl, by rw [List.length_cons, h2], by rw [catT_cons, ← h3]; exact h5.1, fun x hx => ?_⟩
   rcases List.mem_cons.1 hx with rfl | hx
   ·exact h5.2
   ·exact h4 x hx
  ·rw [if_neg ht] at h
   simp only [Prod.mk.injEq] at h
   exact absurd h.2 ht
theorem takeAll_put {many most : Nat} (hm : most ≤ 1000000) (hmn : many ≤ 1000) {l : List ByteArray} (hl : l.length ≤ many) (h : ∀ s ∈ l, s.size ≤ most) : takeAllF many most (allB l) = (l, 0) := by
 have e : takeF (allB l) = ((l.length : Int), catT l, 0) := by
  unfold takeF allB
  rw [bytes_append]
  unfold numB
  rw [bytes_ofBytes, take_put (by omega)]
  simp only
  rw [ofBytes_bytes]
 unfold takeAllF
 rw [e, if_pos rfl, if_neg (by simp only; omega)]
 simp only [Int.toNat_natCast]
 rw [takeGo_put most hm l [] h]
 rfl
theorem takeAll_inv {many most : Nat} {s : ByteArray} {l : List ByteArray} (h : takeAllF many most s = (l, 0)) : s = allB l ∧ l.length ≤ many ∧ ∀ x ∈ l, x.size ≤ most := by
 unfold takeAllF at h
 by_cases h1 : (takeF s).2.2 = 0
 ·rw [if_pos h1] at h
  by_cases h2 : (takeF s).1 > (many : Int)
  ·rw [if_pos h2] at h; simp at h
  rw [if_neg h2] at h
  obtain ⟨m, e1, e2, e3, e4⟩ := takeGo_inv _ _ _ _ _ h
  rw [List.nil_append] at e1
  subst e1
  unfold takeF at h1 h2 e2 e3
  cases ht : takeL (bytes s) with
  | none => rw [ht] at h1; simp at h1
  | some x =>
   obtain ⟨n, r⟩ := x
   rw [ht] at h2 e2 e3
   simp only [Int.toNat_natCast] at h2 e2 e3
   refine ⟨bs_inj ?_, by omega, e4⟩
   unfold allB
   rw [(take_inv ht).1, bytes_append, ← e3, e2]
   unfold numB
   rw [bytes_ofBytes, bytes_ofBytes]
 ·rw [if_neg h1] at h
  simp only [Prod.mk.injEq] at h
  exact absurd h.2 h1
end Go.Proofs.YtphehoidkmficaaGreatDoor.Ref
end
