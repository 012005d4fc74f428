/- Contracts and laws that the statement of LawDataHides leans on (packed from this claim's own texts): part 10. -/
import Derived.Lib.Hide
import Derived.Test.YtlhoahbpklhpmaaGreatDoorQH1
import Derived.Test.YtlhoahbpklhpmaaGreatDoorQH6
import Derived.Test.YtlhoahbpklhpmaaGreatDoorQH7
import Derived.Test.YtlhoahbpklhpmaaGreatDoorQH8
import Derived.Test.YtlhoahbpklhpmaaGreatDoorQH9
section

namespace Go.Proofs.YtlhoahbpklhpmaaGreatDoor.PA
open Go.RowKit Go.Proofs.YtlhoahbpklhpmaaGreatDoorW.PrintWords Go.Proofs.YtlhoahbpklhpmaaGreatDoorW.PrintLast Go.Proofs.YtlhoahbpklhpmaaGreatDoorW.PrintMore
attribute [local go_sem] max2_int min2_int max_two min_two max_three min_three max_four min_four   -- for this text's walks alone
set_option linter.unusedVariables false
set_option linter.unusedSimpArgs false
def letterlockref6_State.f (k : Nat) (a0 : ByteArray) (a1 : Int) : Option (ByteArray × Int) := (letterlockref3_Right.f k a0).bind fun t204 => (if t204 = true then (if a1 < 0 then (some ((⟨#[]⟩ : ByteArray), 9)) else (if a1 > 7 then (some ((⟨#[]⟩ : ByteArray), 9)) else ((letterlockref6_Back.f k a0 (wrap64 (7 - a1))).bind fun bt205 => (some (bt205.1, bt205.2))))) else (some ((⟨#[]⟩ : ByteArray), 1)))
set_option maxHeartbeats 8000000 in
set_option maxRecDepth 100000 in
theorem letterlockref6_State.calls (k : Nat) (a0 : ByteArray) (a1 : Int) (r1 : ByteArray) (r2 : Int) (w : World) (h : letterlockref6_State.f k a0 a1 = some (r1, r2)) :
  Calls Tryz.prog 6 #[.string a0, .int .i64 a1] w fun e w' => e = .returned (.tuple #[.string r1, .int .i64 r2]) ∧ Below w.heap.size w w' := by
 have HB := Aside0.mk (Below.refl w.heap.size w)
 have H : ((letterlockref3_Right.f k a0).bind fun t204 => (if t204 = true then (if a1 < 0 then (some ((⟨#[]⟩ : ByteArray), 9)) else (if a1 > 7 then (some ((⟨#[]⟩ : ByteArray), 9)) else ((letterlockref6_Back.f k a0 (wrap64 (7 - a1))).bind fun bt205 => (some (bt205.1, bt205.2))))) else (some ((⟨#[]⟩ : ByteArray), 1)))) = some (r1, r2) := h
 clear h
 replace H := Option.bind_eq_some_iff.mp H
 obtain ⟨t204, A30, H⟩ := H
 replace H : (if t204 = true then (if a1 < 0 then (some ((⟨#[]⟩ : ByteArray), 9)) else (if a1 > 7 then (some ((⟨#[]⟩ : ByteArray), 9)) else ((letterlockref6_Back.f k a0 (wrap64 (7 - a1))).bind fun bt205 => (some (bt205.1, bt205.2))))) else (some ((⟨#[]⟩ : ByteArray), 1))) = some (r1, r2) := H
 have A3 := Aside0.mk A30
 clear A30
 by_cases c4 : t204 = true
 ·subst c4
  have H1 : (if a1 < 0 then (some ((⟨#[]⟩ : ByteArray), 9)) else (if a1 > 7 then (some ((⟨#[]⟩ : ByteArray), 9)) else ((letterlockref6_Back.f k a0 (wrap64 (7 - a1))).bind fun bt205 => (some (bt205.1, bt205.2))))) = some (r1, r2) := by rw [if_pos rfl] at H; exact H
  clear H
  have H := H1
  clear H1
  by_cases c5 : a1 < 0
  ·rw [if_pos c5] at H
   have c5b0 : decide (a1 < 0) = true := decide_eq_true c5
   clear c5
   simp only [Option.some.injEq, Prod.mk.injEq] at H
   obtain ⟨rfl, rfl⟩ := H
   go_enter Tryz.func6, Tryz.ntmps6
   go_wp2_with (first | ((with_reducible refine gate_callee (f := 18) rfl ?_); refine goesL_ (some 7) rfl rfl Tryz.func18 (by kernel_rfl) rfl #[.string a0] rfl (by (try simp only [List.map_toArray, List.map_cons, List.map_nil]); first | done | rfl | (simp only [List.length_drop, List.length_take]; rfl)) ?_; (with_reducible refine (letterlockref3_Right.calls k a0 true _ A3.out).mono ?_); rintro e w6 ⟨rfl, hb⟩; refine ⟨_, rfl, ?_⟩; have n0_ := Aside0.mk (below_step (by repeat (first | (with_reducible first | exact HB.out | apply below_alloc | apply pw_below_drewN | apply below_drew1) | exact HB.out)) hb); clear HB; have HB := n0_; clear n0_; (try clear hb); (try clear hb2); (try clear hk); (try clear hi)))
   go_ret2
   exact ⟨by first | rfl | (simp [errW_none, errW_some] <;> rfl) | (simp [*, errW_none, errW_some] <;> rfl), by repeat (first | (with_reducible first | exact HB.out | apply below_alloc | apply pw_below_drewN | apply below_drew1) | exact HB.out)⟩
  ·rw [if_neg c5] at H
   have c5b0 : decide (a1 < 0) = false := decide_eq_false c5
   clear c5
   by_cases c7 : a1 > 7
   ·rw [if_pos c7] at H
    have c7b0 : decide (7 < a1) = true := decide_eq_true c7
    clear c7
    simp only [Option.some.injEq, Prod.mk.injEq] at H
    obtain ⟨rfl, rfl⟩ := H
    go_enter Tryz.func6, Tryz.ntmps6
    go_wp2_with (first | ((with_reducible refine gate_callee (f := 18) rfl ?_); refine goesL_ (some 7) rfl rfl Tryz.func18 (by kernel_rfl) rfl #[.string a0] rfl (by (try simp only [List.map_toArray, List.map_cons, List.map_nil]); first | done | rfl | (simp only [List.length_drop, List.length_take]; rfl)) ?_; (with_reducible refine (letterlockref3_Right.calls k a0 true _ A3.out).mono ?_); rintro e w8 ⟨rfl, hb⟩; refine ⟨_, rfl, ?_⟩; have n0_ := Aside0.mk (below_step (by repeat (first | (with_reducible first | exact HB.out | apply below_alloc | apply pw_below_drewN | apply below_drew1) | exact HB.out)) hb); clear HB; have HB := n0_; clear n0_; (try clear hb); (try clear hb2); (try clear hk); (try clear hi)))
    go_ret2
    exact ⟨by first | rfl | (simp [errW_none, errW_some] <;> rfl) | (simp [*, errW_none, errW_some] <;> rfl), by repeat (first | (with_reducible first | exact HB.out | apply below_alloc | apply pw_below_drewN | apply below_drew1) | exact HB.out)⟩
   ·rw [if_neg c7] at H
    have c7b0 : decide (7 < a1) = false := decide_eq_false c7
    clear c7
    replace H := Option.bind_eq_some_iff.mp H
    obtain ⟨⟨t205, t206⟩, A90, H⟩ := H
    replace H : (some (t205, t206)) = some (r1, r2) := H
    have A9 := Aside0.mk A90
    clear A90
    simp only [Option.some.injEq, Prod.mk.injEq] at H
    obtain ⟨rfl, rfl⟩ := H
    go_enter Tryz.func6, Tryz.ntmps6
    go_wp2_with (first | ((with_reducible refine gate_callee (f := 18) rfl ?_); refine goesL_ (some 7) rfl rfl Tryz.func18 (by kernel_rfl) rfl #[.string a0] rfl (by (try simp only [List.map_toArray, List.map_cons, List.map_nil]); first | done | rfl | (simp only [List.length_drop, List.length_take]; rfl)) ?_; (with_reducible refine (letterlockref3_Right.calls k a0 true _ A3.out).mono ?_); rintro e w10 ⟨rfl, hb⟩; refine ⟨_, rfl, ?_⟩; have n0_ := Aside0.mk (below_step (by repeat (first | (with_reducible first | exact HB.out | apply below_alloc | apply pw_below_drewN | apply below_drew1) | exact HB.out)) hb); clear HB; have HB := n0_; clear n0_; (try clear hb); (try clear hb2); (try clear hk); (try clear hi)) | ((with_reducible refine gate_callee (f := 19) rfl ?_); refine goesL_ (some 18) rfl rfl Tryz.func19 (by kernel_rfl) rfl #[.string a0, .int .i64 (wrap64 (7 - a1))] rfl (by (try simp only [List.map_toArray, List.map_cons, List.map_nil]); first | done | rfl | (simp only [List.length_drop, List.length_take]; rfl)) ?_; (with_reducible refine (letterlockref6_Back.calls k a0 (wrap64 (7 - a1)) t205 t206 _ A9.out).mono ?_); rintro e w11 ⟨rfl, hb⟩; refine ⟨_, rfl, ?_⟩; have n0_ := Aside0.mk (below_step (by repeat (first | (with_reducible first | exact HB.out | apply below_alloc | apply pw_below_drewN | apply below_drew1) | exact HB.out)) hb); clear HB; have HB := n0_; clear n0_; (try clear hb); (try clear hb2); (try clear hk); (try clear hi)))
    go_ret2
    exact ⟨by first | rfl | (simp [errW_none, errW_some] <;> rfl) | (simp [*, errW_none, errW_some] <;> rfl), by repeat (first | (with_reducible first | exact HB.out | apply below_alloc | apply pw_below_drewN | apply below_drew1) | exact HB.out)⟩
 ·replace c4 := Bool.eq_false_iff.mpr c4
  subst c4
  have H1 : (some ((⟨#[]⟩ : ByteArray), 1)) = some (r1, r2) := by rw [if_neg (show ¬ (false = true) by decide)] at H; exact H
  clear H
  have H := H1
  clear H1
  simp only [Option.some.injEq, Prod.mk.injEq] at H
  obtain ⟨rfl, rfl⟩ := H
  go_enter Tryz.func6, Tryz.ntmps6
  go_wp2_with (first | ((with_reducible refine gate_callee (f := 18) rfl ?_); refine goesL_ (some 7) rfl rfl Tryz.func18 (by kernel_rfl) rfl #[.string a0] rfl (by (try simp only [List.map_toArray, List.map_cons, List.map_nil]); first | done | rfl | (simp only [List.length_drop, List.length_take]; rfl)) ?_; (with_reducible refine (letterlockref3_Right.calls k a0 false _ A3.out).mono ?_); rintro e w12 ⟨rfl, hb⟩; refine ⟨_, rfl, ?_⟩; have n0_ := Aside0.mk (below_step (by repeat (first | (with_reducible first | exact HB.out | apply below_alloc | apply pw_below_drewN | apply below_drew1) | exact HB.out)) hb); clear HB; have HB := n0_; clear n0_; (try clear hb); (try clear hb2); (try clear hk); (try clear hi)))
  go_ret2
  exact ⟨by first | rfl | (simp [errW_none, errW_some] <;> rfl) | (simp [*, errW_none, errW_some] <;> rfl), by repeat (first | (with_reducible first | exact HB.out | apply below_alloc | apply pw_below_drewN | apply below_drew1) | exact HB.out)⟩
def letterlockref6_Key.f (k : Nat) (a0 : ByteArray) : Option (ByteArray × Int) := (letterlockref3_Right.f k a0).bind fun t207 => (if t207 = true then ((letterlockref3_OfText.f k (⟨#[107, 101, 121]⟩ : ByteArray)).bind fun bt208 => ((letterlockref3_OfPair.f k bt208.1 a0).bind fun bt210 => (if bt210.2 = 0 then ((letterlockref3_OfHash.f k bt210.1).bind fun bt212 => (some (bt212.1, bt212.2))) else (some ((⟨#[]⟩ : ByteArray), bt210.2))))) else (some ((⟨#[]⟩ : ByteArray), 1)))
set_option maxHeartbeats 8000000 in
set_option maxRecDepth 100000 in
theorem letterlockref6_Key.calls (k : Nat) (a0 : ByteArray) (r1 : ByteArray) (r2 : Int) (w : World) (h : letterlockref6_Key.f k a0 = some (r1, r2)) :
  Calls Tryz.prog 8 #[.string a0] w fun e w' => e = .returned (.tuple #[.string r1, .int .i64 r2]) ∧ Below w.heap.size w w' := by
 have HB := Aside0.mk (Below.refl w.heap.size w)
 have H : ((letterlockref3_Right.f k a0).bind fun t207 => (if t207 = true then ((letterlockref3_OfText.f k (⟨#[107, 101, 121]⟩ : ByteArray)).bind fun bt208 => ((letterlockref3_OfPair.f k bt208.1 a0).bind fun bt210 => (if bt210.2 = 0 then ((letterlockref3_OfHash.f k bt210.1).bind fun bt212 => (some (bt212.1, bt212.2))) else (some ((⟨#[]⟩ : ByteArray), bt210.2))))) else (some ((⟨#[]⟩ : ByteArray), 1)))) = some (r1, r2) := h
 clear h
 replace H := Option.bind_eq_some_iff.mp H
 obtain ⟨t207, A20, H⟩ := H
 replace H : (if t207 = true then ((letterlockref3_OfText.f k (⟨#[107, 101, 121]⟩ : ByteArray)).bind fun bt208 => ((letterlockref3_OfPair.f k bt208.1 a0).bind fun bt210 => (if bt210.2 = 0 then ((letterlockref3_OfHash.f k bt210.1).bind fun bt212 => (some (bt212.1, bt212.2))) else (some ((⟨#[]⟩ : ByteArray), bt210.2))))) else (some ((⟨#[]⟩ : ByteArray), 1))) = some (r1, r2) := H
 have A2 := Aside0.mk A20
 clear A20
 by_cases c3 : t207 = true
 ·subst c3
  have H1 : ((letterlockref3_OfText.f k (⟨#[107, 101, 121]⟩ : ByteArray)).bind fun bt208 => ((letterlockref3_OfPair.f k bt208.1 a0).bind fun bt210 => (if bt210.2 = 0 then ((letterlockref3_OfHash.f k bt210.1).bind fun bt212 => (some (bt212.1, bt212.2))) else (some ((⟨#[]⟩ : ByteArray), bt210.2))))) = some (r1, r2) := by rw [if_pos rfl] at H; exact H
  clear H
  have H := H1
  clear H1
  replace H := Option.bind_eq_some_iff.mp H
  obtain ⟨⟨t208, t209⟩, A40, H⟩ := H
  replace H : ((letterlockref3_OfPair.f k t208 a0).bind fun bt210 => (if bt210.2 = 0 then ((letterlockref3_OfHash.f k bt210.1).bind fun bt212 => (some (bt212.1, bt212.2))) else (some ((⟨#[]⟩ : ByteArray), bt210.2)))) = some (r1, r2) := H
  have A4 := Aside0.mk A40
  clear A40
  replace H := Option.bind_eq_some_iff.mp H
  obtain ⟨⟨t210, t211⟩, A50, H⟩ := H
  replace H : (if t211 = 0 then ((letterlockref3_OfHash.f k t210).bind fun bt212 => (some (bt212.1, bt212.2))) else (some ((⟨#[]⟩ : ByteArray), t211))) = some (r1, r2) := H
  have A5 := Aside0.mk A50
  clear A50
  by_cases c6 : t211 = 0
  ·rw [if_pos c6] at H
   have c6b0 : (t211 == 0) = true := beq_iff_eq.mpr c6
   have c6b1 : (t211 != 0) = false := bne_eq_false_iff_eq.mpr c6
   clear c6
   replace H := Option.bind_eq_some_iff.mp H
   obtain ⟨⟨t212, t213⟩, A70, H⟩ := H
   replace H : (some (t212, t213)) = some (r1, r2) := H
   have A7 := Aside0.mk A70
   clear A70
   simp only [Option.some.injEq, Prod.mk.injEq] at H
   obtain ⟨rfl, rfl⟩ := H
   go_enter Tryz.func8, Tryz.ntmps8
   go_wp2_with (first | ((with_reducible refine gate_callee (f := 18) rfl ?_); refine goesL_ (some 9) rfl rfl Tryz.func18 (by kernel_rfl) rfl #[.string a0] rfl (by (try simp only [List.map_toArray, List.map_cons, List.map_nil]); first | done | rfl | (simp only [List.length_drop, List.length_take]; rfl)) ?_; (with_reducible refine (letterlockref3_Right.calls k a0 true _ A2.out).mono ?_); rintro e w8 ⟨rfl, hb⟩; refine ⟨_, rfl, ?_⟩; have n0_ := Aside0.mk (below_step (by repeat (first | (with_reducible first | exact HB.out | apply below_alloc | apply pw_below_drewN | apply below_drew1) | exact HB.out)) hb); clear HB; have HB := n0_; clear n0_; (try clear hb); (try clear hb2); (try clear hk); (try clear hi)) | ((with_reducible refine gate_callee (f := 21) rfl ?_); refine goesL_ (some 12) rfl rfl Tryz.func21 (by kernel_rfl) rfl #[.string (⟨#[107, 101, 121]⟩ : ByteArray)] rfl (by (try simp only [List.map_toArray, List.map_cons, List.map_nil]); first | done | rfl | (simp only [List.length_drop, List.length_take]; rfl)) ?_; (with_reducible refine (letterlockref3_OfText.calls k (⟨#[107, 101, 121]⟩ : ByteArray) t208 t209 _ A4.out).mono ?_); rintro e w9 ⟨rfl, hb⟩; refine ⟨_, rfl, ?_⟩; have n0_ := Aside0.mk (below_step (by repeat (first | (with_reducible first | exact HB.out | apply below_alloc | apply pw_below_drewN | apply below_drew1) | exact HB.out)) hb); clear HB; have HB := n0_; clear n0_; (try clear hb); (try clear hb2); (try clear hk); (try clear hi)) | ((with_reducible refine gate_callee (f := 22) rfl ?_); refine goesL_ (some 18) rfl rfl Tryz.func22 (by kernel_rfl) rfl #[.string t208, .string a0] rfl (by (try simp only [List.map_toArray, List.map_cons, List.map_nil]); first | done | rfl | (simp only [List.length_drop, List.length_take]; rfl)) ?_; (with_reducible refine (letterlockref3_OfPair.calls k t208 a0 t210 t211 _ A5.out).mono ?_); rintro e w10 ⟨rfl, hb⟩; refine ⟨_, rfl, ?_⟩; have n0_ := Aside0.mk (below_step (by repeat (first | (with_reducible first | exact HB.out | apply below_alloc | apply pw_below_drewN | apply below_drew1) | exact HB.out)) hb); clear HB; have HB := n0_; clear n0_; (try clear hb); (try clear hb2); (try clear hk); (try clear hi)) | ((with_reducible refine gate_callee (f := 23) rfl ?_); refine goesL_ (some 25) rfl rfl Tryz.func23 (by kernel_rfl) rfl #[.string t210] rfl (by (try simp only [List.map_toArray, List.map_cons, List.map_nil]); first | done | rfl | (simp only [List.length_drop, List.length_take]; rfl)) ?_; (with_reducible refine (letterlockref3_OfHash.calls k t210 t212 t213 _ A7.out).mono ?_); rintro e w11 ⟨rfl, hb⟩; refine ⟨_, rfl, ?_⟩; have n0_ := Aside0.mk (below_step (by repeat (first | (with_reducible first | exact HB.out | apply below_alloc | apply pw_below_drewN | apply below_drew1) | exact HB.out)) hb); clear HB; have HB := n0_; clear n0_; (try clear hb); (try clear hb2); (try clear hk); (try clear hi)))
   go_ret2
   exact ⟨by first | rfl | (simp [errW_none, errW_some] <;> rfl) | (simp [*, errW_none, errW_some] <;> rfl), by repeat (first | (with_reducible first | exact HB.out | apply below_alloc | apply pw_below_drewN | apply below_drew1) | exact HB.out)⟩
  ·rw [if_neg c6] at H
   have c6b0 : (t211 == 0) = false := beq_eq_false_iff_ne.mpr c6
   have c6b1 : (t211 != 0) = true := bne_iff_ne.mpr c6
   simp only [Option.some.injEq, Prod.mk.injEq] at H
   obtain ⟨rfl, rfl⟩ := H
   go_enter Tryz.func8, Tryz.ntmps8
   go_wp2_with (first | ((with_reducible refine gate_callee (f := 18) rfl ?_); refine goesL_ (some 9) rfl rfl Tryz.func18 (by kernel_rfl) rfl #[.string a0] rfl (by (try simp only [List.map_toArray, List.map_cons, List.map_nil]); first | done | rfl | (simp only [List.length_drop, List.length_take]; rfl)) ?_; (with_reducible refine (letterlockref3_Right.calls k a0 true _ A2.out).mono ?_); rintro e w12 ⟨rfl, hb⟩; refine ⟨_, rfl, ?_⟩; have n0_ := Aside0.mk (below_step (by repeat (first | (with_reducible first | exact HB.out | apply below_alloc | apply pw_below_drewN | apply below_drew1) | exact HB.out)) hb); clear HB; have HB := n0_; clear n0_; (try clear hb); (try clear hb2); (try clear hk); (try clear hi)) | ((with_reducible refine gate_callee (f := 21) rfl ?_); refine goesL_ (some 12) rfl rfl Tryz.func21 (by kernel_rfl) rfl #[.string (⟨#[107, 101, 121]⟩ : ByteArray)] rfl (by (try simp only [List.map_toArray, List.map_cons, List.map_nil]); first | done | rfl | (simp only [List.length_drop, List.length_take]; rfl)) ?_; (with_reducible refine (letterlockref3_OfText.calls k (⟨#[107, 101, 121]⟩ : ByteArray) t208 t209 _ A4.out).mono ?_); rintro e w13 ⟨rfl, hb⟩; refine ⟨_, rfl, ?_⟩; have n0_ := Aside0.mk (below_step (by repeat (first | (with_reducible first | exact HB.out | apply below_alloc | apply pw_below_drewN | apply below_drew1) | exact HB.out)) hb); clear HB; have HB := n0_; clear n0_; (try clear hb); (try clear hb2); (try clear hk); (try clear hi)) | ((with_reducible refine gate_callee (f := 22) rfl ?_); refine goesL_ (some 18) rfl rfl Tryz.func22 (by kernel_rfl) rfl #[.string t208, .string a0] rfl (by (try simp only [List.map_toArray, List.map_cons, List.map_nil]); first | done | rfl | (simp only [List.length_drop, List.length_take]; rfl)) ?_; (with_reducible refine (letterlockref3_OfPair.calls k t208 a0 t210 t211 _ A5.out).mono ?_); rintro e w14 ⟨rfl, hb⟩; refine ⟨_, rfl, ?_⟩; have n0_ := Aside0.mk (below_step (by repeat (first | (with_reducible first | exact HB.out | apply below_alloc | apply pw_below_drewN | apply below_drew1) | exact HB.out)) hb); clear HB; have HB := n0_; clear n0_; (try clear hb); (try clear hb2); (try clear hk); (try clear hi)))
   go_ret2
   exact ⟨by first | rfl | (simp [errW_none, errW_some] <;> rfl) | (simp [*, errW_none, errW_some] <;> rfl), by repeat (first | (with_reducible first | exact HB.out | apply below_alloc | apply pw_below_drewN | apply below_drew1) | exact HB.out)⟩
 ·replace c3 := Bool.eq_false_iff.mpr c3
  subst c3
  have H1 : (some ((⟨#[]⟩ : ByteArray), 1)) = some (r1, r2) := by rw [if_neg (show ¬ (false = true) by decide)] at H; exact H
  clear H
  have H := H1
  clear H1
  simp only [Option.some.injEq, Prod.mk.injEq] at H
  obtain ⟨rfl, rfl⟩ := H
  go_enter Tryz.func8, Tryz.ntmps8
  go_wp2_with (first | ((with_reducible refine gate_callee (f := 18) rfl ?_); refine goesL_ (some 9) rfl rfl Tryz.func18 (by kernel_rfl) rfl #[.string a0] rfl (by (try simp only [List.map_toArray, List.map_cons, List.map_nil]); first | done | rfl | (simp only [List.length_drop, List.length_take]; rfl)) ?_; (with_reducible refine (letterlockref3_Right.calls k a0 false _ A2.out).mono ?_); rintro e w15 ⟨rfl, hb⟩; refine ⟨_, rfl, ?_⟩; have n0_ := Aside0.mk (below_step (by repeat (first | (with_reducible first | exact HB.out | apply below_alloc | apply pw_below_drewN | apply below_drew1) | exact HB.out)) hb); clear HB; have HB := n0_; clear n0_; (try clear hb); (try clear hb2); (try clear hk); (try clear hi)))
  go_ret2
  exact ⟨by first | rfl | (simp [errW_none, errW_some] <;> rfl) | (simp [*, errW_none, errW_some] <;> rfl), by repeat (first | (with_reducible first | exact HB.out | apply below_alloc | apply pw_below_drewN | apply below_drew1) | exact HB.out)⟩
def letterlocklaw9_pick.f (a0 : Int) (a1 : Int) : Option (Int) := if a0 < 0 then (if a1 = 0 then (none) else (some (Int.tmod (wrap64 (-(wrap64 (a0 + 1)))) a1))) else (if a1 = 0 then (none) else (some (Int.tmod a0 a1)))
set_option maxHeartbeats 8000000 in
set_option maxRecDepth 100000 in
theorem letterlocklaw9_pick.calls (a0 : Int) (a1 : Int) (r : Int) (w : World) (h : letterlocklaw9_pick.f a0 a1 = some r) :
  Calls Tryz.prog 5 #[.int .i64 a0, .int .i64 a1] w fun e w' => e = .returned (.int .i64 r) ∧ Drawn0 w w' := by
 have H : (if a0 < 0 then (if a1 = 0 then (none) else (some (Int.tmod (wrap64 (-(wrap64 (a0 + 1)))) a1))) else (if a1 = 0 then (none) else (some (Int.tmod a0 a1)))) = some r := h
 clear h
 by_cases c3 : a0 < 0
 ·rw [if_pos c3] at H
  have c3b0 : decide (a0 < 0) = true := decide_eq_true c3
  clear c3
  by_cases c4 : a1 = 0
  ·rw [if_pos c4] at H
   exact absurd H (by simp)
  ·rw [if_neg c4] at H
   have c4b0 : (a1 == 0) = false := beq_eq_false_iff_ne.mpr c4
   have c4b1 : (a1 != 0) = true := bne_iff_ne.mpr c4
   obtain rfl := Option.some.inj H
   go_enter Tryz.func5, Tryz.ntmps5
   go_wp2
   go_ret
   exact ⟨by first | rfl | (simp; done) | (simp [*]; done), by repeat (first | exact Drawn0.refl _ | apply Drawn0.step)⟩
 ·rw [if_neg c3] at H
  have c3b0 : decide (a0 < 0) = false := decide_eq_false c3
  clear c3
  by_cases c5 : a1 = 0
  ·rw [if_pos c5] at H
   exact absurd H (by simp)
  ·rw [if_neg c5] at H
   have c5b0 : (a1 == 0) = false := beq_eq_false_iff_ne.mpr c5
   have c5b1 : (a1 != 0) = true := bne_iff_ne.mpr c5
   obtain rfl := Option.some.inj H
   go_enter Tryz.func5, Tryz.ntmps5
   go_wp2
   go_ret
   exact ⟨by first | rfl | (simp; done) | (simp [*]; done), by repeat (first | exact Drawn0.refl _ | apply Drawn0.step)⟩
def letterlocklaw9_rootOf.f (k : Nat) (a0 : Int) : Option (ByteArray) := (letterlocklaw9_pick.f a0 5).bind fun t214 => ((letterlockref5_Secret.f k (⟨#[114, 111, 111, 116]⟩ : ByteArray) (⟨#[120]⟩ : ByteArray) (IntKind.u64.wrap (t214))).bind fun bt215 => (some bt215.1))
set_option maxHeartbeats 8000000 in
set_option maxRecDepth 100000 in
theorem letterlocklaw9_rootOf.calls (k : Nat) (a0 : Int) (r : ByteArray) (w : World) (h : letterlocklaw9_rootOf.f k a0 = some r) :
  Calls Tryz.prog 7 #[.int .i64 a0] w fun e w' => e = .returned (.string r) ∧ Below w.heap.size w w' := by
 have HB := Aside0.mk (Below.refl w.heap.size w)
 have H : ((letterlocklaw9_pick.f a0 5).bind fun t214 => ((letterlockref5_Secret.f k (⟨#[114, 111, 111, 116]⟩ : ByteArray) (⟨#[120]⟩ : ByteArray) (IntKind.u64.wrap (t214))).bind fun bt215 => (some bt215.1))) = some r := h
 clear h
 replace H := Option.bind_eq_some_iff.mp H
 obtain ⟨t214, A20, H⟩ := H
 replace H : ((letterlockref5_Secret.f k (⟨#[114, 111, 111, 116]⟩ : ByteArray) (⟨#[120]⟩ : ByteArray) (IntKind.u64.wrap (t214))).bind fun bt215 => (some bt215.1)) = some r := H
 have A2 := Aside0.mk A20
 clear A20
 replace H := Option.bind_eq_some_iff.mp H
 obtain ⟨⟨t215, t216⟩, A30, H⟩ := H
 replace H : (some t215) = some r := H
 have A3 := Aside0.mk A30
 clear A30
 obtain rfl := Option.some.inj H
 go_enter Tryz.func7, Tryz.ntmps7
 go_wp2_with (first | ((with_reducible refine gate_callee (f := 5) rfl ?_); refine goesL_ (some 7) rfl rfl Tryz.func5 (by kernel_rfl) rfl #[.int .i64 a0, .int .i64 5] rfl (by (try simp only [List.map_toArray, List.map_cons, List.map_nil]); first | done | rfl | (simp only [List.length_drop, List.length_take]; rfl)) ?_; (with_reducible refine (letterlocklaw9_pick.calls a0 5 t214 _ A2.out).mono ?_); rintro e w' ⟨rfl, ⟨nd, rfl⟩⟩; refine ⟨_, rfl, ?_⟩) | ((with_reducible refine gate_callee (f := 20) rfl ?_); refine goesL_ (some 9) rfl rfl Tryz.func20 (by kernel_rfl) rfl #[.string (⟨#[114, 111, 111, 116]⟩ : ByteArray), .string (⟨#[120]⟩ : ByteArray), .int .u64 (IntKind.u64.wrap (t214))] rfl (by (try simp only [List.map_toArray, List.map_cons, List.map_nil]); first | done | rfl | (simp only [List.length_drop, List.length_take]; rfl)) ?_; (with_reducible refine (letterlockref5_Secret.calls k (⟨#[114, 111, 111, 116]⟩ : ByteArray) (⟨#[120]⟩ : ByteArray) (IntKind.u64.wrap (t214)) t215 t216 _ A3.out).mono ?_); rintro e w4 ⟨rfl, hb⟩; refine ⟨_, rfl, ?_⟩; have n0_ := Aside0.mk (below_step (by repeat (first | (with_reducible first | exact HB.out | apply below_alloc | apply pw_below_drewN | apply below_drew1) | exact HB.out)) hb); clear HB; have HB := n0_; clear n0_; (try clear hb); (try clear hb2); (try clear hk); (try clear hi)))
 go_ret
 exact ⟨by first | rfl | (simp [errW_none, errW_some] <;> rfl) | (simp [*, errW_none, errW_some] <;> rfl), by repeat (first | (with_reducible first | exact HB.out | apply below_alloc | apply pw_below_drewN | apply below_drew1) | exact HB.out)⟩
def letterlocklaw9_signerOf.f (k : Nat) (a0 : Int) : Option (ByteArray) := (letterlockref5_Secret.f k (⟨#[115, 105, 103, 110]⟩ : ByteArray) (⟨#[120]⟩ : ByteArray) (IntKind.u64.wrap (a0))).bind fun bt217 => (some bt217.1)
set_option maxHeartbeats 8000000 in
set_option maxRecDepth 100000 in
theorem letterlocklaw9_signerOf.calls (k : Nat) (a0 : Int) (r : ByteArray) (w : World) (h : letterlocklaw9_signerOf.f k a0 = some r) :
  Calls Tryz.prog 12 #[.int .i64 a0] w fun e w' => e = .returned (.string r) ∧ Below w.heap.size w w' := by
 have HB := Aside0.mk (Below.refl w.heap.size w)
 have H : ((letterlockref5_Secret.f k (⟨#[115, 105, 103, 110]⟩ : ByteArray) (⟨#[120]⟩ : ByteArray) (IntKind.u64.wrap (a0))).bind fun bt217 => (some bt217.1)) = some r := h
 clear h
 replace H := Option.bind_eq_some_iff.mp H
 obtain ⟨⟨t217, t218⟩, A20, H⟩ := H
 replace H : (some t217) = some r := H
 have A2 := Aside0.mk A20
 clear A20
 obtain rfl := Option.some.inj H
 go_enter Tryz.func12, Tryz.ntmps12
 go_wp2_with (first | ((with_reducible refine gate_callee (f := 20) rfl ?_); refine goesL_ (some 8) rfl rfl Tryz.func20 (by kernel_rfl) rfl #[.string (⟨#[115, 105, 103, 110]⟩ : ByteArray), .string (⟨#[120]⟩ : ByteArray), .int .u64 (IntKind.u64.wrap (a0))] rfl (by (try simp only [List.map_toArray, List.map_cons, List.map_nil]); first | done | rfl | (simp only [List.length_drop, List.length_take]; rfl)) ?_; (with_reducible refine (letterlockref5_Secret.calls k (⟨#[115, 105, 103, 110]⟩ : ByteArray) (⟨#[120]⟩ : ByteArray) (IntKind.u64.wrap (a0)) t217 t218 _ A2.out).mono ?_); rintro e w3 ⟨rfl, hb⟩; refine ⟨_, rfl, ?_⟩; have n0_ := Aside0.mk (below_step (by repeat (first | (with_reducible first | exact HB.out | apply below_alloc | apply pw_below_drewN | apply below_drew1) | exact HB.out)) hb); clear HB; have HB := n0_; clear n0_; (try clear hb); (try clear hb2); (try clear hk); (try clear hi)))
 go_ret
 exact ⟨by first | rfl | (simp [errW_none, errW_some] <;> rfl) | (simp [*, errW_none, errW_some] <;> rfl), by repeat (first | (with_reducible first | exact HB.out | apply below_alloc | apply pw_below_drewN | apply below_drew1) | exact HB.out)⟩
def letterlocklaw9_verifyOf.l0 : Nat → Int → List ByteArray → Int → Option (List ByteArray)
 | 0, _, _, _ => none
 | k + 1, x0, x3, x4 => if x4 ≤ x0 then ((letterlocklaw9_signerOf.f k x4).bind fun t219 => ((letterlockref3_OfPublic.f k t219).bind fun bt220 => (if x3.length < 8796093022208 then (letterlocklaw9_verifyOf.l0 k x0 (x3 ++ [bt220.1]) (wrap64 (x4 + 1))) else (none)))) else (some x3)
def letterlocklaw9_verifyOf.f (k : Nat) (a0 : Int) : Option (List ByteArray) := letterlocklaw9_verifyOf.l0 k a0 ([] : List ByteArray) 0
set_option maxHeartbeats 8000000 in
set_option maxRecDepth 100000 in
theorem letterlocklaw9_verifyOf.calls (k : Nat) (a0 : Int) (r : List ByteArray) (w : World) (h : letterlocklaw9_verifyOf.f k a0 = some r) :
  Calls Tryz.prog 17 #[.int .i64 a0] w fun e w' => ∃ v0_ : Value, e = .returned (v0_) ∧ Kd.R Kd.string 9 w' w.heap.size (fun _ => True) v0_ r ∧ Below w.heap.size w w' := by
 have HB := Aside0.mk (Below.refl w.heap.size w)
 have H : (letterlocklaw9_verifyOf.l0 k a0 ([] : List ByteArray) 0) = some r := h
 clear h
 have H' := Aside0.mk H
 clear H
 go_enter Tryz.func17, Tryz.ntmps17
 go_wp2
 go_loopg [3, 4] k (fun kq v3 v4 w' => ∃ (x3_1 : List ByteArray) (x4_1 : Int), v4 = .int .i64 x4_1 ∧ Aside0 (letterlocklaw9_verifyOf.l0 kq a0 x3_1 x4_1 = some r) ∧ Aside0 (kq ≤ k) ∧ Aside0 (Kd.R Kd.string 9 w' w.heap.size (fun _ => True) v3 x3_1) ∧ Aside0 (Below w.heap.size w w'))
 case atStart => exact ⟨(([] : List ByteArray)), (0), (by first | rfl | (simp; done) | (simp [*]; done)), H', ⟨Nat.le_refl _⟩, ⟨by first | exact Kd.R_nil _ _ _ _ _ | exact Kd.N_nil _ _ _ _ _ | exact Kd.V_nil _ _ _ _ _ | exact Kd.Q_nil _ _ _ _ _ | exact Kd.S_nil _ _ _ _ _⟩, ⟨by repeat (first | (with_reducible first | exact HB.out | apply below_alloc | apply pw_below_drewN | apply below_drew1) | exact HB.out)⟩⟩
 case round =>
  clear H'
  try clear c1
  obtain ⟨x3_1, x4_1, rfl, HA, HK1, HO_3, HB⟩ := hrel
  cases gk with
  | zero => exact absurd HA.out (by simp [letterlocklaw9_verifyOf.l0])
  | succ k1 =>
   have H := HA.out
   clear HA
   simp only [letterlocklaw9_verifyOf.l0] at H
   by_cases c2 : x4_1 ≤ a0
   ·rw [if_pos c2] at H
    have c2b0 : decide (x4_1 ≤ a0) = true := decide_eq_true c2
    clear c2
    replace H := Option.bind_eq_some_iff.mp H
    obtain ⟨t219, A30, H⟩ := H
    replace H : ((letterlockref3_OfPublic.f k1 t219).bind fun bt220 => (if x3_1.length < 8796093022208 then (letterlocklaw9_verifyOf.l0 k1 a0 (x3_1 ++ [bt220.1]) (wrap64 (x4_1 + 1))) else (none))) = some r := H
    have A3 := Aside0.mk A30
    clear A30
    replace H := Option.bind_eq_some_iff.mp H
    obtain ⟨⟨t220, t221⟩, A40, H⟩ := H
    replace H : (if x3_1.length < 8796093022208 then (letterlocklaw9_verifyOf.l0 k1 a0 (x3_1 ++ [t220]) (wrap64 (x4_1 + 1))) else (none)) = some r := H
    have A4 := Aside0.mk A40
    clear A40
    by_cases c5 : x3_1.length < 8796093022208
    ·rw [if_pos c5] at H
     have LMc5 := Aside0.mk c5
     clear c5
     obtain ⟨y222, hy222⟩ : ∃ y_ : List ByteArray, y_ = (x3_1 ++ [t220]) := ⟨_, rfl⟩
     replace H : (letterlocklaw9_verifyOf.l0 k1 a0 y222 (wrap64 (x4_1 + 1))) = some r := by first | (rw [hy222]; with_reducible exact H) | (have H2_ := (Option.bind_some _ _).symm.trans H; rw [hy222]; with_reducible exact H2_) | (have H2_ := (Option.bind_some _ _).symm.trans H; with_reducible exact H2_) | with_reducible exact H | (rw [hy222]; exact H) | exact H
     have Ny222 := Aside0.mk hy222
     clear hy222
     have H' := Aside0.mk H
     clear H
     go_wp2_with (first | ((with_reducible refine gate_callee (f := 12) rfl ?_); refine goesL_ (some 14) rfl rfl Tryz.func12 (by kernel_rfl) rfl #[.int .i64 x4_1] rfl (by (try simp only [List.map_toArray, List.map_cons, List.map_nil]); first | done | rfl | (simp only [List.length_drop, List.length_take]; rfl)) ?_; (with_reducible refine (letterlocklaw9_signerOf.calls k1 x4_1 t219 _ A3.out).mono ?_); rintro e w6 ⟨rfl, hb⟩; refine ⟨_, rfl, ?_⟩; have n0_ := Aside0.mk (Kd.R_below (by (with_reducible repeat (first | apply Kd.R_alloc | apply Kd.R_drewN | apply Kd.R_drew)); exact HO_3.out) hb); have n1_ := Aside0.mk (below_step (by repeat (first | (with_reducible first | exact HB.out | apply below_alloc | apply pw_below_drewN | apply below_drew1) | exact HB.out)) hb); clear HO_3; clear HB; have HO_3 := n0_; have HB := n1_; clear n0_ n1_; (try clear hb); (try clear hb2); (try clear hk); (try clear hi)) | ((with_reducible refine gate_callee (f := 50) rfl ?_); refine goesL_ (some 15) rfl rfl Tryz.func50 (by kernel_rfl) rfl #[.string t219] rfl (by (try simp only [List.map_toArray, List.map_cons, List.map_nil]); first | done | rfl | (simp only [List.length_drop, List.length_take]; rfl)) ?_; (with_reducible refine (letterlockref3_OfPublic.calls k1 t219 t220 t221 _ A4.out).mono ?_); rintro e w7 ⟨rfl, hb⟩; refine ⟨_, rfl, ?_⟩; have n0_ := Aside0.mk (Kd.R_below (by (with_reducible repeat (first | apply Kd.R_alloc | apply Kd.R_drewN | apply Kd.R_drew)); exact HO_3.out) hb); have n1_ := Aside0.mk (below_step (by repeat (first | (with_reducible first | exact HB.out | apply below_alloc | apply pw_below_drewN | apply below_drew1) | exact HB.out)) hb); clear HO_3; clear HB; have HO_3 := n0_; have HB := n1_; clear n0_ n1_; (try clear hb); (try clear hb2); (try clear hk); (try clear hi)) | ((with_reducible refine gate_builtin (b := .append) (xs := #[.tmp 18, .tmp 20]) rfl ?_); at_builtin; refine Kd.R_append Kd.string (w0 := w) w.heap.size rfl (.tmp 18) (.tmp 20) 32 9 (.string ⟨#[]⟩) 16 rfl Tryz.underlying32 info9 rfl (by decide) (by omega) u3 x3_1 t220 [.string t220] (fun _ => True) (fun _ => False) rfl rfl ?aP (fun _ hk => hk.elim) ?aF ?aO ?aB ?aS ?aL ?_; (case aP => exact rfl); (case aB => exact (by repeat (first | (with_reducible first | exact HB.out | apply below_alloc | apply pw_below_drewN | apply below_drew1) | exact HB.out))); (case aF => exact (fun _ _ => trivial)); (case aO => exact (by (with_reducible repeat (first | apply Kd.R_alloc | apply Kd.R_drewN | apply Kd.R_drew)); exact HO_3.out)); (case aS => exact (below_size (by repeat (first | (with_reducible first | exact HB.out | apply below_alloc | apply pw_below_drewN | apply below_drew1) | exact HB.out)))); (case aL => have := LMc5.out; omega); intro v223 w8 ho hb hg hat; rw [← Ny222.out] at ho; have n0_ := Aside0.mk (hb); have n1_ := Aside0.mk (ho); clear HB; clear HO_3; have HB := n0_; have HO224 := n1_; clear n0_ n1_; clear ho hb hg hat))
     go_roundg k1
     case measure => have := HK1.out; omega
     case rel => exact ⟨(y222), (wrap64 (x4_1 + 1)), (by first | rfl | (simp; done) | (simp [*]; done)), H', ⟨by have := HK1.out; omega⟩, ⟨by (with_reducible repeat (first | apply Kd.R_alloc | apply Kd.R_drewN | apply Kd.R_drew)); exact HO224.out⟩, ⟨by repeat (first | (with_reducible first | exact HB.out | apply below_alloc | apply pw_below_drewN | apply below_drew1) | exact HB.out)⟩⟩
    ·rw [if_neg c5] at H
     exact absurd H (by simp)
   ·rw [if_neg c2] at H
    have c2b0 : decide (x4_1 ≤ a0) = false := decide_eq_false c2
    clear c2
    obtain rfl := Option.some.inj H
    go_wp2
    go_ret
    exact ⟨_, by first | rfl | (simp [errW_none, errW_some] <;> rfl) | (simp [*, errW_none, errW_some] <;> rfl), by (with_reducible repeat (first | apply Kd.R_alloc | apply Kd.R_drewN | apply Kd.R_drew)); exact HO_3.out, by repeat (first | (with_reducible first | exact HB.out | apply below_alloc | apply pw_below_drewN | apply below_drew1) | exact HB.out)⟩
end Go.Proofs.YtlhoahbpklhpmaaGreatDoor.PA
end
section

namespace Go.Proofs.YtlhoahbpklhpmaaGreatDoor.Ref
open Go.RowKit Go.Proofs.YtlhoahbpklhpmaaGreatDoor Go.Proofs.YtlhoahbpklhpmaaGreatDoor.PA Go.Proofs.YtlhoahbpklhpmaaGreatDoorW.PrintWords Go.Proofs.YtlhoahbpklhpmaaGreatDoorW.PrintLast
set_option linter.unusedVariables false
theorem nums_of (l : List Int) : strOfNums l = ofBytes (l.map fun n => UInt8.ofNat n.toNat) := bs_inj (by rw [nums_bytes, bytes_ofBytes])
theorem u8_mod (n : Nat) : UInt8.ofNat (n % 256) = UInt8.ofNat n := UInt8.toNat_inj.1 (by rw [UInt8.toNat_ofNat', UInt8.toNat_ofNat']; omega)
theorem beBytes_bits {n : Nat} (h : n < 18446744073709551616) : (beBytes n).length = (Lib.bitLen n + 7) / 8 := by
 induction n using Nat.strongRecOn with
 | _ n ih =>
  by_cases h0 : n = 0
  ·subst h0
   rw [beBytes_zero]
   rfl
  by_cases h1 : n < 256
  ·have h2 := Lib.bitLen_le8 ⟨n, h1⟩
   have h3 := Lib.bitLen_half n h0 (by omega)
   have h2 : Lib.bitLen n ≤ 8 := h2
   rw [beBytes_pos h0, show n / 256 = 0 from by omega, beBytes_zero]
   simp only [List.nil_append, List.length_singleton]
   omega
  ·have h2 := Lib.bitLen_shift8 n (by omega) h
   have h3 := ih (n / 256) (by omega) (by omega)
   rw [beBytes_pos h0, List.length_append, h3, List.length_singleton]
   omega
theorem put_loop (i x : Nat) (h : Int) (zs tl : List Int) (hz : zs.length = i) (hx : (beBytes x).length = i) (hi : i ≤ 8) :
  Ev (fun k => wire_Put.l0 k (x : Int) (h :: (zs ++ tl)) (i : Int)) (strOfNums (h :: ((beBytes x).map (fun c => (c.toNat : Int)) ++ tl))) := by
 induction i generalizing x zs tl with
 | zero =>
  obtain rfl := List.length_eq_zero_iff.1 hz
  have : beBytes x = [] := List.length_eq_zero_iff.1 hx
  rw [this]
  refine Ev.step (fun _ => rfl) (Ev.neg (by simp) (Ev.now _))
 | succ i ih =>
  have hx0 : x ≠ 0 := by rintro rfl; rw [beBytes_zero] at hx; simp at hx
  rw [beBytes_pos hx0] at hx
  simp only [List.length_append, List.length_singleton, Nat.add_right_cancel_iff] at hx
  obtain ⟨ys, z, rfl⟩ : ∃ ys z, zs = ys ++ [z] := ⟨zs.dropLast, zs.getLast (by rintro rfl; simp at hz), (List.dropLast_concat_getLast _).symm⟩
  simp only [List.length_append, List.length_singleton, Nat.add_right_cancel_iff] at hz
  refine Ev.step (fun _ => rfl) (Ev.pos (by omega) (Ev.pos (by omega) (Ev.pos (by simp only [List.length_cons, List.length_append, hz]; omega) ?_)))
  have h1 : (h :: (ys ++ [z] ++ tl)).set (((i + 1 : Nat) : Int)).toNat ((x : Int) % 256) = h :: (ys ++ ((x : Int) % 256 :: tl)) := by
   rw [Int.toNat_natCast, List.set_cons_succ, List.append_assoc, List.set_append_right _ _ (by omega), hz, Nat.sub_self]
   rfl
  have h2 : wrap64 (((i + 1 : Nat) : Int) - 1) = (i : Int) := by rw [w64 (by omega) (by omega)]; omega
  rw [h1, h2]
  refine ev_cast (ih (x / 256) ys ((x : Int) % 256 :: tl) hz hx (by omega)) ?_
  rw [beBytes_pos hx0, List.map_append, List.append_assoc]
  congr 3
  simp only [List.map_cons, List.map_nil, List.singleton_append, toNat_mod]
  congr 1
theorem ofNat_map (l : Bs) : (l.map (fun c => (c.toNat : Int))).map (fun n => UInt8.ofNat n.toNat) = l := by
 rw [List.map_map]
 conv => rhs; rw [← List.map_id l]
 congr 1
 funext c
 simp [UInt8.ofNat_toNat]
theorem wirePut_ev (n : Nat) (h : n < 18446744073709551616) : Ev (fun k => wire_Put.f k (n : Int)) (ofBytes (putL n)) := by
 have hb := beBytes_bits h
 have h8 := beBytes_len8 h
 have hl : bits_Len64.f (n : Int) = some ((Lib.bitLen n : Nat) : Int) := by
  unfold bits_Len64.f
  rw [if_pos ⟨by omega, by omega⟩, Int.toNat_natCast]
 have h1 : wrap64 (Int.tdiv (wrap64 (((Lib.bitLen n : Nat) : Int) + 7)) 8) = ((beBytes n).length : Int) := by
  rw [w64 (n := ((Lib.bitLen n : Nat) : Int) + 7) (by omega) (by omega), Int.tdiv_eq_ediv_of_nonneg (by omega), hb]
  rw [w64 (by omega) (by omega)]
  omega
 unfold wire_Put.f
 refine Ev.put hl ?_
 rw [h1, w64 (n := 1 + ((beBytes n).length : Int)) (by omega) (by omega)]
 refine Ev.pos (by omega) (Ev.pos (by omega) (Ev.put rfl (Ev.pos (by rw [List.length_replicate]; omega) ?_)))
 rw [show (1 + ((beBytes n).length : Int)).toNat = (beBytes n).length + 1 from by omega, List.replicate_succ]
 have h2 := put_loop (beBytes n).length n (((beBytes n).length : Int) % 256) (List.replicate (beBytes n).length 0) [] (by simp) rfl h8
 rw [List.append_nil] at h2
 refine ev_cast h2 ?_
 rw [nums_of, List.append_nil, List.map_cons, ofNat_map]
 unfold putL
 clear h2 h1 hl
 congr 2
 rw [show (((beBytes n).length : Int) % 256).toNat = (beBytes n).length % 256 from by omega]
 exact u8_mod _
def numB (n : Nat) : ByteArray := ofBytes (putL n)
theorem size_numB {n : Nat} (h : n < 18446744073709551616) : (numB n).size ≤ 9 := by
 unfold numB; rw [size_ofBytes]; exact putL_len h
theorem joinB_two (a b : ByteArray) : joinB [a, b] = a ++ b := by
 unfold joinB
 simp only [List.flatMap_cons, List.flatMap_nil, List.append_nil]
 rw [ofBytes_append, ofBytes_bytes, ofBytes_bytes]
theorem putText_ev (s : ByteArray) (h : s.size ≤ 100000000000000) : Ev (fun k => wire_PutText.f k s) (numB s.size ++ s) := by
 have hw : IntKind.u64.wrap (s.size : Int) = (s.size : Int) := by rw [IntKind.wrap_u64]; omega
 unfold wire_PutText.f
 rw [hw]
 refine Ev.bind (wirePut_ev s.size (by omega)) (Ev.put (a := numB s.size ++ s) ?_ (Ev.now _))
 have := size_numB (n := s.size) (by omega)
 show wire_join.f [numB s.size, s] = _
 unfold wire_join.f
 rw [if_pos ⟨by simp, by rw [joinB_two, ByteArray.size_append]; omega⟩, joinB_two]
theorem refPut_loop (n : Nat) (acc : List Int) (hn : n < 18446744073709551616) (ha : acc.length + (beBytes n).length ≤ 8) :
  Ev (fun k => letterlockref2_Put.l0 k (n : Int) acc) (ofBytes (UInt8.ofNat (acc.length + (beBytes n).length) :: (beBytes n ++ bytes (strOfNums acc)))) := by
 induction n using Nat.strongRecOn generalizing acc with
 | _ n ih =>
  by_cases h0 : n = 0
  ·subst h0
   rw [beBytes_zero] at ha ⊢
   refine Ev.step (fun _ => rfl) (Ev.neg (by simp) (Ev.put rfl (Ev.pos ?_ (Ev.const ?_))))
   ·rw [← bytes_length, ← bytes_length, nums_bytes, nums_bytes, List.length_map, List.length_map]
    simp only [List.length_singleton]
    omega
   ·refine congrArg some (bs_inj ?_)
    rw [bytes_append, nums_bytes, bytes_ofBytes]
    simp only [List.map_cons, List.map_nil, List.length_nil, Nat.add_zero, List.nil_append, List.singleton_append]
    congr 2
    omega
  ·refine Ev.step (fun _ => rfl) (Ev.pos (by omega) (Ev.put rfl (Ev.pos ?_ ?_)))
   ·simp only [List.length_singleton]; omega
   ·have h1 : IntKind.u64.wrap (Int.tdiv (n : Int) 256) = ((n / 256 : Nat) : Int) := by
     rw [IntKind.wrap_u64, Int.tdiv_eq_ediv_of_nonneg (by omega)]; omega
    have h2 : Int.tmod (n : Int) 256 % 256 = ((n % 256 : Nat) : Int) := by
     rw [Int.tmod_eq_emod_of_nonneg (by omega)]; omega
    rw [h1, h2]
    rw [beBytes_pos h0, List.length_append, List.length_singleton] at ha
    refine ev_cast (ih (n / 256) (by omega) _ (by omega) (by simp only [List.length_append, List.length_singleton]; omega)) ?_
    rw [beBytes_pos h0]
    simp only [List.length_append, List.length_singleton]
    rw [show 1 + acc.length + (beBytes (n / 256)).length = acc.length + ((beBytes (n / 256)).length + 1) from by omega, List.append_assoc]
    congr 3
theorem refPut_ev (n : Nat) (h : n < 18446744073709551616) : Ev (fun k => letterlockref2_Put.f k (n : Int)) (numB n) := by
 have h8 := beBytes_len8 h
 unfold letterlockref2_Put.f
 refine ev_cast (refPut_loop n [] h (by simpa using h8)) ?_
 unfold numB putL
 rw [nums_bytes]
 simp
theorem refTake_loop (s : ByteArray) (j c m : Nat) (hm : j + m = c) (hj : 1 ≤ j) (hc : c ≤ s.size) (hc9 : c ≤ 9) :
  Ev (fun k => letterlockref2_Take.l0 k s ((beNum (((bytes s).drop 1).take (j - 1)) : Nat) : Int) (c : Int) (j : Int)) (((beNum (((bytes s).drop 1).take (c - 1)) : Nat) : Int), s.extract c s.size, 0) := by
 induction m generalizing j with
 | zero =>
  obtain rfl : j = c := by omega
  exact Ev.step (fun _ => rfl) (Ev.neg (by omega) (Ev.pos (by omega) (Ev.pos (by omega) (Ev.now _))))
 | succ m ih =>
  have hl : j - 1 < ((bytes s).drop 1).length := by rw [List.length_drop, bytes_length]; omega
  have hb : bt s (j : Int) = ((((bytes s).drop 1)[j - 1]).toNat : Int) := by
   rw [bt_bytes s j (by omega), List.getElem_drop]
   congr 2
   congr 1
   omega
  have hlt := beNum_lt (((bytes s).drop 1).take (j - 1))
  have hlen : (((bytes s).drop 1).take (j - 1)).length = j - 1 := by rw [List.length_take]; omega
  rw [hlen] at hlt
  have h7 : 256 ^ (j - 1) ≤ 256 ^ 7 := Nat.pow_le_pow_right (by decide) (by omega)
  have h7' : (256 : Nat) ^ 7 = 72057594037927936 := by decide
  have hbb := (((bytes s).drop 1)[j - 1]).toNat_lt
  have hst : beNum (((bytes s).drop 1).take (j + 1 - 1)) = beNum (((bytes s).drop 1).take (j - 1)) * 256 + (((bytes s).drop 1)[j - 1]).toNat := by
   rw [show j + 1 - 1 = (j - 1) + 1 from by omega, take_succ_get _ _ hl, beNum_snoc]
  refine Ev.step (fun _ => rfl) (Ev.pos (by omega) (Ev.pos (by omega) (Ev.pos (by omega) ?_)))
  have h1 : IntKind.u64.wrap (IntKind.u64.wrap (256 * ((beNum (((bytes s).drop 1).take (j - 1)) : Nat) : Int)) + IntKind.u64.wrap (bt s (j : Int))) = ((beNum (((bytes s).drop 1).take (j + 1 - 1)) : Nat) : Int) := by
   rw [hst, hb, IntKind.wrap_u64, IntKind.wrap_u64, IntKind.wrap_u64]
   omega
  rw [h1, w64 (n := (j : Int) + 1) (by omega) (by omega)]
  exact ih (j + 1) (by omega) (by omega)
theorem refTake_ev (s : ByteArray) : Ev (fun k => letterlockref2_Take.f k s) (takeF s) := by
 unfold letterlockref2_Take.f
 cases hs : bytes s with
 | nil =>
  have ht : takeF s = (0, ⟨#[]⟩, 2) := by unfold takeF; rw [hs]; rfl
  rw [ht]
  exact Ev.pos (by rw [bytes_toList, hs]) (Ev.step (fun _ => rfl) (Ev.now _))
 | cons c r =>
  have hsz : s.size = r.length + 1 := by rw [← bytes_length, hs, List.length_cons]
  have hb0 : bt s 0 = (c.toNat : Int) := by
   have := bt_bytes s 0 (by omega)
   simp only [hs, List.getElem_cons_zero] at this
   exact this
  have hlt := c.toNat_lt
  refine Ev.neg (by rw [bytes_toList, hs]; simp) (Ev.pos (by omega) ?_)
  rw [hb0]
  have hw : wrap64 (1 + wrap64 (c.toNat : Int)) = ((c.toNat + 1 : Nat) : Int) := by rw [w64 (n := (c.toNat : Int)) (by omega) (by omega), w64 (by omega) (by omega)]; omega
  rw [hw]
  have ht : takeF s = (match (if 8 < c.toNat then none else if r.length < c.toNat then none else if 0 < c.toNat ∧ r.head? = some 0 then none else some (beNum (r.take c.toNat), r.drop c.toNat)) with | none => (0, ⟨#[]⟩, 2) | some (n, r) => ((n : Int), ofBytes r, 0)) := by
   unfold takeF; rw [hs]; rfl
  by_cases h1 : 8 < c.toNat
  ·rw [if_pos h1] at ht
   rw [ht]
   exact Ev.pos (by omega) (Ev.step (fun _ => rfl) (Ev.now _))
  rw [if_neg h1] at ht
  refine Ev.neg (by omega) ?_
  by_cases h2 : r.length < c.toNat
  ·rw [if_pos h2] at ht
   rw [ht]
   exact Ev.pos (by omega) (Ev.step (fun _ => rfl) (Ev.now _))
  rw [if_neg h2] at ht
  refine Ev.neg (by omega) ?_
  have hgo : Ev (fun k => letterlockref2_Take.l0 k s 0 ((c.toNat + 1 : Nat) : Int) 1) (((beNum (r.take c.toNat) : Nat) : Int), ofBytes (r.drop c.toNat), 0) := by
   have := refTake_loop s 1 (c.toNat + 1) c.toNat (by omega) (by omega) (by omega) (by omega)
   rw [hs] at this
   refine ev_cast this ?_
   rw [show s.extract (c.toNat + 1) s.size = ofBytes (r.drop c.toNat) from bs_inj (by rw [bytes_from, hs, bytes_ofBytes]; rfl)]
   rfl
  by_cases h3 : 0 < c.toNat
  ·refine Ev.pos (by omega) ?_
   have hr0 : 0 < r.length := by omega
   have hb1 : bt s 1 = ((r[0]).toNat : Int) := by
    have := bt_bytes s 1 (by omega)
    simp only [hs, List.getElem_cons_succ] at this
    exact this
   have hh : r.head? = some r[0] := by rw [List.head?_eq_getElem?, List.getElem?_eq_getElem hr0]
   refine Ev.pos (by omega) ?_
   rw [hb1]
   by_cases h4 : r[0] = 0
   ·rw [if_pos ⟨h3, by rw [hh, h4]⟩] at ht
    rw [ht, h4]
    exact Ev.step (fun _ => rfl) (Ev.now _)
   ·have h5 : ¬ (r[0]).toNat = 0 := fun e => h4 (UInt8.toNat_inj.1 e)
    rw [if_neg (fun e => h4 (by have := e.2; rw [hh] at this; exact Option.some.inj this))] at ht
    rw [ht, beq_eq_false_iff_ne.mpr (by omega)]
    refine Ev.step (fun _ => rfl) (Ev.pos (by omega) ?_)
    rw [hb0, hw]
    exact hgo
  ·rw [if_neg (fun e => h3 e.1)] at ht
   rw [ht]
   refine Ev.neg (by omega) (Ev.step (fun _ => rfl) (Ev.pos (by omega) ?_))
   rw [hb0, hw]
   exact hgo
theorem refTakeText_ev (s : ByteArray) (h : s.size ≤ 1000000) : Ev (fun k => letterlockref2_TakeText.f k s 4000) (takeTextF 4000 s) := by
 unfold letterlockref2_TakeText.f takeTextF
 refine Ev.bind (refTake_ev s) ?_
 unfold takeF
 cases ht : takeL (bytes s) with
 | none => exact Ev.neg (by simp) (Ev.now _)
 | some x =>
  obtain ⟨n, r⟩ := x
  have hn := (take_inv ht).2
  have hr : r.length ≤ 1000000 := by
   have := congrArg List.length (take_inv ht).1
   rw [bytes_length, List.length_append] at this
   omega
  refine Ev.pos rfl ?_
  simp only
  rw [show IntKind.u64.wrap (mx 4000 0) = 4000 from rfl, size_ofBytes, show IntKind.u64.wrap (r.length : Int) = (r.length : Int) from by rw [IntKind.wrap_u64]; omega]
  by_cases h1 : 4000 < n
  ·rw [if_pos h1]; exact Ev.pos (by omega) (Ev.now _)
  rw [if_neg h1]
  refine Ev.neg (by omega) ?_
  by_cases h2 : r.length < n
  ·rw [if_pos h2]; exact Ev.pos (by omega) (Ev.now _)
  rw [if_neg h2]
  refine Ev.neg (by omega) (Ev.pos (by omega) (Ev.pos (by omega) (Ev.const ?_)))
  rw [Int.toNat_natCast, show (ofBytes r).extract 0 n = ofBytes (r.take n) from bs_inj (by rw [bytes_to, bytes_ofBytes, bytes_ofBytes]),
   show (ofBytes r).extract n r.length = ofBytes (r.drop n) from bs_inj (by rw [← size_ofBytes r, bytes_from, bytes_ofBytes, bytes_ofBytes])]
end Go.Proofs.YtlhoahbpklhpmaaGreatDoor.Ref
end
section

namespace Go.Proofs.YtlhoahbpklhpmaaGreatDoor.Ref
open Go.RowKit Go.Proofs.YtlhoahbpklhpmaaGreatDoor Go.Proofs.YtlhoahbpklhpmaaGreatDoor.PA Go.Proofs.YtlhoahbpklhpmaaGreatDoorW.PrintWords Go.Proofs.YtlhoahbpklhpmaaGreatDoorW.PrintLast
set_option linter.unusedVariables false
def textB (s : ByteArray) : ByteArray := (⟨#[116]⟩ : ByteArray) ++ (numB s.size ++ s)
def textF (s : ByteArray) : ByteArray × Int := if (textB s).size > 4000 then (⟨#[]⟩, 10) else (textB s, 0)
theorem ofText_ev (s : ByteArray) (h : s.size ≤ 100000000000000) : Ev (fun k => term_OfText.f k s) (textF s) := by
 have h1 := size_numB (n := s.size) (by omega)
 have h2 : (numB s.size ++ s).size ≤ 100000000000009 := by rw [ByteArray.size_append]; omega
 unfold term_OfText.f
 refine Ev.bind (putText_ev s h) (Ev.pos (by omega) ?_)
 unfold textF textB
 by_cases h3 : ((⟨#[116]⟩ : ByteArray) ++ (numB s.size ++ s)).size > 4000
 ·rw [if_pos h3]
  exact Ev.pos (by omega) (Ev.now _)
 ·rw [if_neg h3]
  exact Ev.neg (by omega) (Ev.now _)
def atomB (n : Nat) : ByteArray := (⟨#[97]⟩ : ByteArray) ++ numB n
theorem size_one (c : UInt8) : (⟨#[c]⟩ : ByteArray).size = 1 := rfl
theorem size_atomB {n : Nat} (h : n < 18446744073709551616) : (atomB n).size ≤ 10 := by
 unfold atomB
 have := size_numB h
 rw [ByteArray.size_append, size_one]; omega
theorem of_val (c : ByteArray) (l : List ByteArray) (hc : c.size ≤ 1000000) (hl : l.length ≤ 1000000) (h : ∀ s ∈ l, s.size ≤ 9223372036854774000) : term_of.f c l = some (ofF c l) := by
 unfold term_of.f
 rw [if_pos ⟨hc, hl, by simpa using h⟩]
def hashF (s : ByteArray) : ByteArray × Int := ofF (⟨#[104]⟩ : ByteArray) [s]
def pairF (a b : ByteArray) : ByteArray × Int := ofF (⟨#[112]⟩ : ByteArray) [a, b]
theorem hash_val (s : ByteArray) (h : s.size ≤ 9223372036854774000) : term_OfHash.f s = some (hashF s) := by
 unfold term_OfHash.f
 rw [of_val _ _ (by rw [size_one]; omega) (by simp) (by simpa using h)]
 rfl
theorem pair_val (a b : ByteArray) (ha : a.size ≤ 9223372036854774000) (hb : b.size ≤ 9223372036854774000) : term_OfPair.f a b = some (pairF a b) := by
 unfold term_OfPair.f
 rw [of_val _ _ (by rw [size_one]; omega) (by simp) (by simpa using ⟨ha, hb⟩)]
 rfl
theorem right_big {s : ByteArray} (h : 4000 < s.size) : right s = false := by
 cases hr : right s with
 | false => rfl
 | true => have := right_size hr; omega
theorem right_of {s : ByteArray} {t : T} (h : bytes s = enc t) (hw : Wf t) : right s = true := by
 unfold right; rw [h, termOf_enc hw]; rfl
theorem right_inv {s : ByteArray} (h : right s = true) : ∃ t, Wf t ∧ bytes s = enc t := by
 obtain ⟨t, ht⟩ := Option.isSome_iff_exists.1 h
 obtain ⟨h1, h2⟩ := termOf_inv ht
 exact ⟨t, h2, h1⟩
theorem ofF_size (c : ByteArray) (l : List ByteArray) : (ofF c l).1.size ≤ 4000 := by
 unfold ofF
 split
 ·split
  ·rename_i h; exact right_size h
  ·exact Nat.zero_le _
 ·exact Nat.zero_le _
theorem ofF_right {c : ByteArray} {l : List ByteArray} (h : (ofF c l).2 = 0) : right (ofF c l).1 = true := by
 unfold ofF at h ⊢
 split
 ·rename_i h1
  rw [if_pos h1] at h
  split
  ·rename_i h2; exact h2
  ·rename_i h2; rw [if_neg h2] at h; simp at h
 ·rename_i h1; rw [if_neg h1] at h; simp at h
theorem kindF_zero (s : ByteArray) : kindF s = 0 ↔ right s = false := by
 unfold kindF right
 cases h : termOf (bytes s) with
 | none => simp
 | some t =>
  have : t.code.toNat ≠ 0 := by
   cases t with
   | atom n => exact (by decide : (97 : UInt8).toNat ≠ 0)
   | text n => exact (by decide : (116 : UInt8).toNat ≠ 0)
   | one k a => exact (by cases k <;> decide : k.code.toNat ≠ 0)
   | two k a b => exact (by cases k <;> decide : k.code.toNat ≠ 0)
  simp only [Option.isSome_some]
  constructor
  ·intro h; omega
  ·intro h; simp at h
theorem bytes_numB (n : Nat) : bytes (numB n) = putL n := bytes_ofBytes _
theorem bytes_one (c : UInt8) : bytes (⟨#[c]⟩ : ByteArray) = [c] := rfl
theorem bytes_textB (s : ByteArray) : bytes (textB s) = enc (.text (bytes s)) := by
 unfold textB
 rw [bytes_append, bytes_append, bytes_one, bytes_numB]
 show _ = 116 :: putT (bytes s)
 unfold putT
 rw [bytes_length]; rfl
theorem bytes_atomB (n : Nat) : bytes (atomB n) = enc (.atom n) := by
 unfold atomB
 rw [bytes_append, bytes_one, bytes_numB]; rfl
theorem right_textB (s : ByteArray) : right (textB s) = decide ((textB s).size ≤ 4000) := by
 by_cases h : (textB s).size ≤ 4000
 ·rw [decide_eq_true h]
  refine right_of (bytes_textB s) ⟨?_, ?_⟩
  ·show (bytes s).length ≤ 4000
   have : s.size ≤ (textB s).size := by unfold textB; rw [ByteArray.size_append, ByteArray.size_append]; omega
   rw [bytes_length]; omega
  ·rw [← bytes_textB, bytes_length]; exact h
 ·rw [decide_eq_false h]
  exact right_big (by omega)
theorem textF_right (s : ByteArray) : textF s = if right (textB s) = true then (textB s, 0) else (⟨#[]⟩, 10) := by
 unfold textF
 rw [right_textB]
 by_cases h : (textB s).size ≤ 4000
 ·rw [if_neg (by omega), decide_eq_true h, if_pos rfl]
 ·rw [if_pos (by omega), decide_eq_false h, if_neg (by simp)]
theorem textF_size (s : ByteArray) : (textF s).1.size ≤ 4000 := by
 unfold textF
 split
 ·exact Nat.zero_le _
 ·rename_i h; show (textB s).size ≤ 4000; omega
theorem hash_size (s : ByteArray) : (hashF s).1.size ≤ 4000 := ofF_size _ _
theorem pair_size (a b : ByteArray) : (pairF a b).1.size ≤ 4000 := ofF_size _ _
theorem kind_val (s : ByteArray) (h : s.size ≤ 9223372036854774000) : term_Kind.f s = some (kindF s) := by
 unfold term_Kind.f; rw [if_pos h]
theorem hash_of {s : ByteArray} {t : T} (h : bytes s = enc t) (hw : Wf (.one .h t)) : hashF s = (⟨#[104]⟩ ++ s, 0) := by
 have h1 : right s = true := right_of h ⟨ok_mono (d := 39) (show ok 39 t from hw.1) (by omega), by have := hw.2; simp only [enc, List.length_cons] at this; omega⟩
 have h2 : right ((⟨#[104]⟩ : ByteArray) ++ s) = true := right_of (t := .one .h t) (by rw [bytes_append, h]; rfl) hw
 unfold hashF ofF
 rw [if_pos (by simp [h1]), if_pos (show right (catB ⟨#[104]⟩ [s]) = true from h2)]
 rfl
def tm (t : T) : ByteArray := ofBytes (enc t)
theorem bytes_tm (t : T) : bytes (tm t) = enc t := bytes_ofBytes _
theorem size_tm (t : T) : (tm t).size = (enc t).length := size_ofBytes _
theorem right_tm {t : T} (h : Wf t) : right (tm t) = true := right_of (bytes_tm t) h
theorem hash_tm {t : T} (hw : Wf (.one .h t)) : hashF (tm t) = (tm (.one .h t), 0) := by
 rw [hash_of (bytes_tm t) hw, show (⟨#[104]⟩ : ByteArray) ++ tm t = tm (.one .h t) from bs_inj (by rw [bytes_append, bytes_tm, bytes_tm]; rfl)]
theorem pair_tm {a b : T} (hw : Wf (.two .p a b)) : pairF (tm a) (tm b) = (tm (.two .p a b), 0) := by
 have ha : Wf a := ⟨ok_mono (d := 39) hw.1.1 (by omega), by have := hw.2; simp only [enc, List.length_cons, List.length_append] at this; omega⟩
 have hb : Wf b := ⟨ok_mono (d := 39) hw.1.2.1 (by omega), by have := hw.2; simp only [enc, List.length_cons, List.length_append] at this; omega⟩
 have he : catB ⟨#[112]⟩ [tm a, tm b] = tm (.two .p a b) := bs_inj (by
  show bytes ((⟨#[112]⟩ ++ tm a) ++ tm b) = _
  rw [bytes_append, bytes_append, bytes_tm, bytes_tm, bytes_tm]
  simp only [enc, K2.code]
  rfl)
 unfold pairF ofF
 rw [he, if_pos (by simp [right_tm ha, right_tm hb]), if_pos (right_tm hw)]
theorem textB_tm (s : ByteArray) : textB s = tm (.text (bytes s)) := bs_inj (by rw [bytes_textB, bytes_tm])
theorem atomB_tm (n : Nat) : atomB n = tm (.atom n) := bs_inj (by rw [bytes_atomB, bytes_tm])
theorem len_text (s : ByteArray) (h : s.size ≤ 4000) : (enc (.text (bytes s))).length ≤ 10 + s.size := by
 rw [← bytes_textB, bytes_length]
 have := size_numB (n := s.size) (by omega)
 unfold textB
 rw [ByteArray.size_append, ByteArray.size_append, size_one]; omega
theorem len_atom (n : Nat) (h : n < 18446744073709551616) : (enc (.atom n)).length ≤ 10 := by
 rw [← bytes_atomB, bytes_length]; exact size_atomB h
theorem ofF_codes2 {c : ByteArray} {l : List ByteArray} (h : l.all right = true) : (ofF c l).2 = 0 ∨ (ofF c l).2 = 10 := by
 unfold ofF
 rw [if_pos h]
 split
 ·exact Or.inl rfl
 ·exact Or.inr rfl
theorem right_tm_of {s : ByteArray} (h : right s = true) : ∃ t, Wf t ∧ s = tm t := by
 obtain ⟨t, h1, h2⟩ := right_inv h
 exact ⟨t, h1, bs_inj (by rw [h2, bytes_tm])⟩
end Go.Proofs.YtlhoahbpklhpmaaGreatDoor.Ref
end
section

section
namespace Go.Proofs.YtlhoahbpklhpmaaGreatDoor.Ref
open Go.RowKit Go.Proofs.YtlhoahbpklhpmaaGreatDoor Go.Proofs.YtlhoahbpklhpmaaGreatDoor.PA Go.Proofs.YtlhoahbpklhpmaaGreatDoorW.PrintWords Go.Proofs.YtlhoahbpklhpmaaGreatDoorW.PrintLast
set_option linter.unusedVariables false
def manyC (c : UInt8) : Int := if c = 97 then 0 else if c = 116 then 0 else match kind1 c with | some _ => 1 | none => match kind2 c with | some _ => 2 | none => -1
theorem many_fin : ∀ c : Fin 256, letterlockref3_many.f 2 ((c.val : Nat) : Int) = some (manyC (UInt8.ofNat c.val)) := by decide +kernel
theorem many_ev (c : UInt8) : Ev (fun k => letterlockref3_many.f k (c.toNat : Int)) (manyC c) := by
 refine Ev.of (k := 2) (letterlockref3_many.mono _) ?_
 have := many_fin ⟨c.toNat, c.toNat_lt⟩
 simpa using this
def sizeF (d : Nat) (l : Bs) : Int := match parse d l with | some (t, _) => ((enc t).length : Int) | none => 0
theorem size_end {s : ByteArray} {c : UInt8} {l : Bs} (hs : bytes s = c :: l) (a x : Int) (m : Int) (hm : manyC c ≤ m) : Ev (fun k => letterlockref3_size.l0 k s a x m) x := by
 have hsz : s.size = l.length + 1 := by rw [← bytes_length, hs, List.length_cons]
 have hb0 : bt s 0 = (c.toNat : Int) := by
  have := bt_bytes s 0 (by omega)
  simp only [hs, List.getElem_cons_zero] at this
  exact this
 refine Ev.step (fun _ => rfl) (Ev.pos (by omega) ?_)
 rw [hb0]
 exact Ev.bind (many_ev c) (Ev.neg (by omega) (Ev.now _))
theorem size_more {s : ByteArray} {c : UInt8} {l : Bs} (hs : bytes s = c :: l) (a x m v : Int) (hm : m < manyC c) (hb : c ≠ 98 ∨ m ≠ 0) (h : Ev (fun k => letterlockref3_size.j3 k s a x m false) v) :
  Ev (fun k => letterlockref3_size.l0 k s a x m) v := by
 have hsz : s.size = l.length + 1 := by rw [← bytes_length, hs, List.length_cons]
 have hb0 : bt s 0 = (c.toNat : Int) := by
  have := bt_bytes s 0 (by omega)
  simp only [hs, List.getElem_cons_zero] at this
  exact this
 refine Ev.step (fun _ => rfl) (Ev.pos (by omega) ?_)
 rw [hb0]
 refine Ev.bind (many_ev c) (Ev.pos hm ?_)
 by_cases h98 : c = 98
 ·refine Ev.pos (by rw [h98]; rfl) (Ev.neg ?_ h)
  rcases hb with hb | hb
  ·exact absurd h98 hb
  ·exact hb
 ·refine Ev.neg (fun e => h98 (UInt8.toNat_inj.1 (by omega : c.toNat = 98))) h
def Told (d : Nat) : Prop := ∀ s : ByteArray, s.size ≤ 4000 → Ev (fun k => letterlockref3_size.f k s (d : Int)) (sizeF d (bytes s))
theorem part_none {d : Nat} (ih : Told d) (hd : d ≤ 40) {s : ByteArray} (hs : s.size ≤ 4000) {x : Nat} (hx : x ≤ s.size) (m : Int) (hp : parse d ((bytes s).drop x) = none) :
  Ev (fun k => letterlockref3_size.j3 k s ((d + 1 : Nat) : Int) (x : Int) m false) 0 := by
 refine Ev.step (fun _ => rfl) (Ev.pos (by omega) ?_)
 rw [Int.toNat_natCast, show wrap64 (((d + 1 : Nat) : Int) - 1) = (d : Int) from by rw [w64 (by omega) (by omega)]; omega]
 have h := ih (s.extract x s.size) (by rw [← bytes_length, bytes_from, List.length_drop, bytes_length]; omega)
 rw [bytes_from, show sizeF d ((bytes s).drop x) = 0 from by unfold sizeF; rw [hp]] at h
 exact Ev.bind h (Ev.pos rfl (Ev.now _))
theorem part_some {d : Nat} (ih : Told d) (hd : d ≤ 40) {s : ByteArray} (hs : s.size ≤ 4000) {x : Nat} (hx : x ≤ s.size) (m : Nat) (hm : m ≤ 5) {t : T} {r : Bs} (hp : parse d ((bytes s).drop x) = some (t, r)) {v : Int}
  (h1 : Ev (fun k => letterlockref3_size.l0 k s ((d + 1 : Nat) : Int) ((x + (enc t).length : Nat) : Int) ((m + 1 : Nat) : Int)) v) :
  Ev (fun k => letterlockref3_size.j3 k s ((d + 1 : Nat) : Int) (x : Int) (m : Int) false) v := by
 refine Ev.step (fun _ => rfl) (Ev.pos (by omega) ?_)
 rw [Int.toNat_natCast, show wrap64 (((d + 1 : Nat) : Int) - 1) = (d : Int) from by rw [w64 (by omega) (by omega)]; omega]
 have h := ih (s.extract x s.size) (by rw [← bytes_length, bytes_from, List.length_drop, bytes_length]; omega)
 have hz : sizeF d ((bytes s).drop x) = ((enc t).length : Int) := by unfold sizeF; rw [hp]
 rw [bytes_from, hz] at h
 have hl := enc_pos t
 have hl2 : (enc t).length ≤ 4000 := by
  have := congrArg List.length (parse_inv _ _ _ _ hp).1
  rw [List.length_drop, bytes_length, List.length_append] at this
  omega
 refine Ev.bind h (Ev.neg (by omega) ?_)
 rw [w64 (n := (x : Int) + _) (by omega) (by omega), w64 (n := (m : Int) + 1) (by omega) (by omega)]
 exact h1
theorem told (d : Nat) (hd : d ≤ 40) : Told d := by
 induction d with
 | zero =>
  intro s hs
  refine Ev.step (fun _ => rfl) ?_
  by_cases h0 : s.toList = ([] : List UInt8)
  ·exact Ev.pos h0 (Ev.step (fun _ => rfl) (Ev.now _))
  ·exact Ev.neg h0 (Ev.step (fun _ => rfl) (Ev.now _))
 | succ d ih =>
  have ih := ih (by omega)
  intro s hs
  refine Ev.step (fun _ => rfl) ?_
  cases hb : bytes s with
  | nil => exact Ev.pos (by rw [bytes_toList, hb]) (Ev.step (fun _ => rfl) (Ev.now _))
  | cons c l =>
   have hsz : s.size = l.length + 1 := by rw [← bytes_length, hb, List.length_cons]
   have hb0 : bt s 0 = (c.toNat : Int) := by
    have := bt_bytes s 0 (by omega)
    simp only [hb, List.getElem_cons_zero] at this
    exact this
   have hx : s.extract 1 s.size = ofBytes l := bs_inj (by rw [bytes_from, hb, bytes_ofBytes]; rfl)
   have hd1 : (bytes s).drop 1 = l := by rw [hb]; rfl
   refine Ev.neg (by rw [bytes_toList, hb]; simp) (Ev.neg (by omega) (Ev.pos (by omega) ?_))
   rw [hb0]
   refine Ev.bind (many_ev c) ?_
   unfold sizeF
   simp only [parse]
   by_cases h97 : c = 97
   ·subst h97
    rw [show manyC 97 = 0 from rfl, if_pos rfl]
    refine Ev.step (fun _ => rfl) (Ev.pos (by omega) ?_)
    rw [hb0]
    refine Ev.pos rfl (Ev.step (fun _ => rfl) (Ev.pos (by omega) ?_))
    rw [hx, hb0]
    refine Ev.bind (refTake_ev (ofBytes l)) (Ev.pos (by omega) (Ev.neg (by decide) ?_))
    unfold takeF
    rw [bytes_ofBytes]
    cases ht : takeL l with
    | none => exact Ev.neg (by simp) (Ev.now _)
    | some y =>
     obtain ⟨n, r⟩ := y
     have := congrArg List.length (take_inv ht).1
     rw [List.length_append] at this
     refine Ev.pos rfl (Ev.const ?_)
     simp only [Option.map_some, size_ofBytes, enc, List.length_cons]
     rw [w64 (by omega) (by omega)]
     congr 1
     omega
   rw [if_neg h97]
   have hn97 : ¬ (c.toNat : Int) = 97 := fun e => h97 (UInt8.toNat_inj.1 (by omega : c.toNat = 97))
   by_cases h116 : c = 116
   ·subst h116
    rw [show manyC 116 = 0 from rfl, if_pos rfl]
    refine Ev.step (fun _ => rfl) (Ev.pos (by omega) ?_)
    rw [hb0]
    refine Ev.neg (by decide) (Ev.step (fun _ => rfl) (Ev.pos (by omega) ?_))
    rw [hx, hb0]
    refine Ev.bind (refTake_ev (ofBytes l)) (Ev.pos (by omega) (Ev.pos rfl (Ev.bind (refTakeText_ev (ofBytes l) (by rw [size_ofBytes]; omega)) ?_)))
    unfold takeTextF takeT
    rw [bytes_ofBytes]
    cases ht : takeL l with
    | none => exact Ev.neg (by simp) (Ev.now _)
    | some y =>
     obtain ⟨n, r⟩ := y
     simp only
     by_cases h1 : 4000 < n
     ·rw [if_pos h1, if_pos h1]; exact Ev.neg (by simp) (Ev.now _)
     rw [if_neg h1, if_neg h1]
     by_cases h2 : r.length < n
     ·rw [if_pos h2, if_pos h2]; exact Ev.neg (by simp) (Ev.now _)
     rw [if_neg h2, if_neg h2]
     have := congrArg List.length (take_inv ht).1
     rw [List.length_append] at this
     refine Ev.pos rfl (Ev.const ?_)
     have hlt : (r.take n).length = n := by rw [List.length_take]; omega
     simp only [Option.map_some, size_ofBytes, enc, List.length_cons, putT, List.length_append, hlt, List.length_drop]
     rw [w64 (by omega) (by omega)]
     congr 1
     omega
   rw [if_neg h116]
   have hn116 : ((c.toNat : Int) == 116) = false := beq_eq_false_iff_ne.mpr fun e => h116 (UInt8.toNat_inj.1 (by omega : c.toNat = 116))
   have hgo : ∀ v, 0 ≤ manyC c → Ev (fun k => letterlockref3_size.l0 k s ((d + 1 : Nat) : Int) ((1 : Nat) : Int) ((0 : Nat) : Int)) v → Ev (fun k => letterlockref3_size.j0 k s ((d + 1 : Nat) : Int) (decide (manyC c < 0))) v := by
    intro v hm h
    rw [decide_eq_false (by omega)]
    refine Ev.step (fun _ => rfl) (Ev.pos (by omega) ?_)
    rw [hb0, hn116]
    exact Ev.neg hn97 (Ev.step (fun _ => rfl) h)
   cases hk1 : kind1 c with
   | some k =>
    have hm : manyC c = 1 := by unfold manyC; rw [if_neg h97, if_neg h116, hk1]
    have hc98 : c ≠ 98 := by rintro rfl; simp [kind1] at hk1
    refine hgo _ (by omega) (size_more hb _ _ _ _ (by omega) (Or.inl hc98) ?_)
    cases hp : parse d l with
    | none => exact part_none ih (by omega) hs (by omega) _ (by rw [hd1]; exact hp)
    | some y =>
     obtain ⟨t, r⟩ := y
     refine part_some ih (by omega) hs (by omega) 0 (by omega) (by rw [hd1]; exact hp) ?_
     refine ev_cast (size_end hb _ _ _ (by omega)) ?_
     simp only [Option.map_some, enc, List.length_cons]
     omega
   | none =>
    simp only
    cases hk2 : kind2 c with
    | none =>
     have hm : manyC c = -1 := by unfold manyC; rw [if_neg h97, if_neg h116, hk1]; simp only; rw [hk2]
     rw [hm]
     exact Ev.step (fun _ => rfl) (Ev.now _)
    | some k =>
     have hm : manyC c = 2 := by unfold manyC; rw [if_neg h97, if_neg h116, hk1]; simp only; rw [hk2]
     refine hgo _ (by omega) ?_
     have hc98 : c = 98 ↔ k = .b := by
      rw [kind2_inv hk2]
      cases k <;> decide
     -- the parts, where nothing bars a box
     have hparts : (k = .b → l.head? = some 117) → Ev (fun k => letterlockref3_size.j3 k s ((d + 1 : Nat) : Int) ((1 : Nat) : Int) ((0 : Nat) : Int) false)
       (match (parse d l).bind fun x => (parse d x.2).bind fun y => if k = .b ∧ x.1.isPub = false then none else some (T.two k x.1 y.1, y.2) with | some (t, _) => ((enc t).length : Int) | none => 0) := by
      intro hpub
      cases hp : parse d l with
      | none => exact part_none ih (by omega) hs (by omega) _ (by rw [hd1]; exact hp)
      | some y =>
       obtain ⟨t, r⟩ := y
       have hi := (parse_inv _ _ _ _ hp).1
       have hl := congrArg List.length hi
       rw [List.length_append] at hl
       refine part_some ih (by omega) hs (by omega) 0 (by omega) (by rw [hd1]; exact hp) (size_more hb _ _ _ _ (by omega) (Or.inr (by omega)) ?_)
       have hd2 : (bytes s).drop (1 + (enc t).length) = r := by rw [← List.drop_drop, hd1, hi, List.drop_left]
       simp only [Option.bind_some]
       cases hq : parse d r with
       | none => exact part_none ih (by omega) hs (by omega) _ (by rw [hd2]; exact hq)
       | some y =>
        obtain ⟨u, q⟩ := y
        refine part_some ih (by omega) hs (by omega) 1 (by omega) (by rw [hd2]; exact hq) ?_
        refine ev_cast (size_end hb _ _ _ (by omega)) ?_
        simp only [Option.bind_some]
        rw [if_neg]
        ·simp only [enc, List.length_cons, List.length_append]
         omega
        ·rintro ⟨e1, e2⟩
         have h3 := hpub e1
         rw [hi] at h3
         cases t with
         | atom n => simp [enc] at h3
         | text n => simp [enc] at h3
         | one k2 a => cases k2 <;> simp [enc, K1.code, T.isPub] at h3 e2
         | two k2 a b => cases k2 <;> simp [enc, K2.code] at h3
     by_cases hkb : k = .b
     ·have hc := hc98.2 hkb
      have hbad : l.head? ≠ some 117 → (match (parse d l).bind fun x => (parse d x.2).bind fun y => if k = .b ∧ x.1.isPub = false then none else some (T.two k x.1 y.1, y.2) with | some (t, _) => ((enc t).length : Int) | none => 0) = 0 := by
       intro hh
       cases hp : parse d l with
       | none => rfl
       | some y =>
        obtain ⟨t, r⟩ := y
        have hi := (parse_inv _ _ _ _ hp).1
        have hnp : t.isPub = false := by
         cases t with
         | atom n => rfl
         | text n => rfl
         | one k2 a =>
          cases k2 with
          | h => rfl
          | u => rw [hi] at hh; exact absurd rfl hh
         | two k2 a b => rfl
        simp only [Option.bind_some]
        cases parse d r with
        | none => rfl
        | some y =>
         simp only [Option.bind_some]
         rw [if_pos ⟨hkb, hnp⟩]
      refine Ev.step (fun _ => rfl) (Ev.pos (by omega) ?_)
      rw [hb0]
      refine Ev.bind (many_ev c) (Ev.pos (by omega) (Ev.pos (by rw [hc]; rfl) (Ev.pos rfl ?_)))
      cases hl : l with
      | nil =>
       subst hl
       rw [hbad (by simp)]
       exact Ev.pos (by simp only [List.length_nil] at hsz; omega) (Ev.step (fun _ => rfl) (Ev.now _))
      | cons c1 l1 =>
       have hb1 : bt s ((1 : Nat) : Int) = (c1.toNat : Int) := by
        have := bt_bytes s 1 (by rw [hsz, hl, List.length_cons]; omega)
        simp only [hb, hl, List.getElem_cons_succ, List.getElem_cons_zero] at this
        exact this
       have hl1 : l.length = l1.length + 1 := by rw [hl, List.length_cons]
       refine Ev.neg (by omega) (Ev.pos (by omega) (Ev.pos (by omega) ?_))
       rw [hb1, ← hl]
       by_cases h117 : c1 = 117
       ·rw [show ((c1.toNat : Int) != 117) = false from by rw [h117]; rfl]
        exact hparts fun _ => by rw [hl, h117]; rfl
       ·rw [show ((c1.toNat : Int) != 117) = true from bne_iff_ne.mpr fun e => h117 (UInt8.toNat_inj.1 (by omega : c1.toNat = 117)), hbad (by rw [hl]; simpa using h117)]
        exact Ev.step (fun _ => rfl) (Ev.now _)
     ·exact size_more hb _ _ _ _ (by omega) (Or.inl (fun e => hkb (hc98.1 e))) (hparts fun e => absurd e hkb)
theorem refRight_ev (s : ByteArray) : Ev (fun k => letterlockref3_Right.f k s) (right s) := by
 unfold letterlockref3_Right.f
 by_cases h0 : s.toList = ([] : List UInt8)
 ·refine ev_cast (Ev.pos h0 (Ev.now _)) ?_
  rw [bytes_toList] at h0
  unfold right termOf
  rw [h0]; rfl
 refine Ev.neg h0 ?_
 by_cases h1 : s.size ≤ 4000
 ·refine Ev.pos (by omega) (Ev.bind (told 40 (by omega) s h1) (Ev.const (congrArg some ?_)))
  unfold right termOf sizeF
  rw [if_pos (by rw [bytes_length]; exact h1)]
  cases hp : parse 40 (bytes s) with
  | none =>
   simp only [Option.isSome_none]
   refine beq_eq_false_iff_ne.mpr fun e => h0 ?_
   rw [bytes_toList]
   refine List.length_eq_zero_iff.1 ?_
   rw [bytes_length]; omega
  | some y =>
   obtain ⟨t, r⟩ := y
   have hl := congrArg List.length (parse_inv _ _ _ _ hp).1
   rw [bytes_length, List.length_append] at hl
   cases r with
   | nil =>
    simp only [List.length_nil, Option.isSome_some] at hl ⊢
    exact beq_iff_eq.mpr (by omega)
   | cons c r =>
    simp only [List.length_cons, Option.isSome_none] at hl ⊢
    exact beq_eq_false_iff_ne.mpr (by omega)
 ·rw [right_big (by omega)]
  exact Ev.neg (by omega) (Ev.now _)
end Go.Proofs.YtlhoahbpklhpmaaGreatDoor.Ref
end
section
namespace Go.Proofs.YtlhoahbpklhpmaaGreatDoor.Ref
open Go.RowKit Go.Proofs.YtlhoahbpklhpmaaGreatDoor Go.Proofs.YtlhoahbpklhpmaaGreatDoor.PA Go.Proofs.YtlhoahbpklhpmaaGreatDoorW.PrintWords Go.Proofs.YtlhoahbpklhpmaaGreatDoorW.PrintLast
set_option linter.unusedVariables false
theorem made_ev (s : ByteArray) : Ev (fun k => letterlockref3_made.f k s) (if right s = true then (s, 0) else (⟨#[]⟩, 10)) := by
 unfold letterlockref3_made.f
 refine Ev.bind (refRight_ev s) ?_
 by_cases h : right s = true
 ·simp only [if_pos h]; exact Ev.now _
 ·simp only [if_neg h]; exact Ev.now _
theorem refText_ev (s : ByteArray) (h : s.size ≤ 100000000000000) : Ev (fun k => letterlockref3_OfText.f k s) (textF s) := by
 have hw : IntKind.u64.wrap (s.size : Int) = (s.size : Int) := by rw [IntKind.wrap_u64]; omega
 have h1 := size_numB (n := s.size) (by omega)
 have h2 : (numB s.size ++ s).size ≤ 100000000000009 := by rw [ByteArray.size_append]; omega
 have hp : Ev (fun k => letterlockref2_PutText.f k s) (numB s.size ++ s) := by
  unfold letterlockref2_PutText.f
  rw [hw]
  exact Ev.bind (refPut_ev s.size (by omega)) (Ev.pos (by omega) (Ev.now _))
 unfold letterlockref3_OfText.f
 refine Ev.bind hp (Ev.pos (by omega) (Ev.bind (made_ev (textB s)) (ev_cast (Ev.now _) ?_)))
 rw [textF_right]
theorem one_ev (c : UInt8) (s : ByteArray) : Ev (fun k => letterlockref3_one.f k ⟨#[c]⟩ s) (ofF ⟨#[c]⟩ [s]) := by
 unfold letterlockref3_one.f ofF
 refine Ev.bind (refRight_ev s) ?_
 cases h : right s with
 | false =>
  rw [if_neg (by simp [h])]
  exact Ev.neg (by simp) (Ev.now _)
 | true =>
  rw [if_pos (by simp [h])]
  have hs := right_size h
  refine Ev.pos rfl (Ev.pos (by rw [size_one]; omega) (Ev.bind (made_ev (⟨#[c]⟩ ++ s)) (ev_cast (Ev.now _) ?_)))
  rfl
theorem two_ev (c : UInt8) (s t : ByteArray) : Ev (fun k => letterlockref3_two.f k ⟨#[c]⟩ s t) (ofF ⟨#[c]⟩ [s, t]) := by
 unfold letterlockref3_two.f ofF
 refine Ev.bind (refRight_ev s) ?_
 cases h : right s with
 | false =>
  rw [if_neg (by simp [h])]
  exact Ev.neg (by simp) (Ev.now _)
 | true =>
  refine Ev.pos rfl (Ev.bind (refRight_ev t) ?_)
  cases h2 : right t with
  | false =>
   rw [if_neg (by simp [h2])]
   exact Ev.neg (by simp) (Ev.now _)
  | true =>
   rw [if_pos (by simp [h, h2])]
   have hs := right_size h
   have ht := right_size h2
   refine Ev.pos rfl (Ev.pos (by rw [size_one]; omega) (Ev.pos (by rw [ByteArray.size_append, size_one]; omega) (Ev.bind (made_ev ((⟨#[c]⟩ ++ s) ++ t)) (ev_cast (Ev.now _) ?_))))
   rfl
theorem refHash_ev (s : ByteArray) : Ev (fun k => letterlockref3_OfHash.f k s) (hashF s) := by
 unfold letterlockref3_OfHash.f
 exact Ev.bind (one_ev 104 s) (Ev.now _)
theorem refPublic_ev (s : ByteArray) : Ev (fun k => letterlockref3_OfPublic.f k s) (ofF ⟨#[117]⟩ [s]) := by
 unfold letterlockref3_OfPublic.f
 exact Ev.bind (one_ev 117 s) (Ev.now _)
theorem refPair_ev (s t : ByteArray) : Ev (fun k => letterlockref3_OfPair.f k s t) (pairF s t) := by
 unfold letterlockref3_OfPair.f
 exact Ev.bind (two_ev 112 s t) (Ev.now _)
theorem refAtom_ev (n : Nat) (h : n < 18446744073709551616) : Ev (fun k => letterlockref3_OfAtom.f k (n : Int)) (atomB n) := by
 unfold letterlockref3_OfAtom.f
 have := size_numB h
 exact Ev.bind (refPut_ev n h) (Ev.pos (by omega) (Ev.now _))
end Go.Proofs.YtlhoahbpklhpmaaGreatDoor.Ref
end
end
section

namespace Go.Proofs.YtlhoahbpklhpmaaGreatDoor.Ref
open Go.RowKit Go.Proofs.YtlhoahbpklhpmaaGreatDoor Go.Proofs.YtlhoahbpklhpmaaGreatDoor.PA Go.Proofs.YtlhoahbpklhpmaaGreatDoorW.PrintWords Go.Proofs.YtlhoahbpklhpmaaGreatDoorW.PrintLast
set_option linter.unusedVariables false
def keyB : ByteArray := ⟨#[107, 101, 121]⟩
def hashesF : Nat → ByteArray → ByteArray × Int
 | 0, s => (s, 0)
 | n + 1, s => if (hashF s).2 = 0 then hashesF n (hashF s).1 else (⟨#[]⟩, (hashF s).2)
def backF (s : ByteArray) (n : Int) : ByteArray × Int := if right s = true then (if n < 0 then (⟨#[]⟩, 1) else hashesF n.toNat s) else (⟨#[]⟩, 1)
def stateF (s : ByteArray) (e : Int) : ByteArray × Int := if right s = true then (if e < 0 then (⟨#[]⟩, 9) else if 7 < e then (⟨#[]⟩, 9) else backF s (7 - e)) else (⟨#[]⟩, 1)
def keyF (s : ByteArray) : ByteArray × Int :=
 if right s = true then (if (pairF (textB keyB) s).2 = 0 then hashF (pairF (textB keyB) s).1 else (⟨#[]⟩, (pairF (textB keyB) s).2)) else (⟨#[]⟩, 1)
theorem back_loop (m : Nat) (s : ByteArray) (n i : Int) (h : s.size ≤ 9223372036854774000) (hm : n - i = m) (hn : n ≤ 9223372036854775807) (hi : 0 ≤ i) :
  Ev (fun k => regress_Back.l0 k s n i) (hashesF m s) := by
 induction m generalizing s i with
 | zero => exact Ev.step (fun _ => rfl) (Ev.neg (by omega) (Ev.now _))
 | succ m ih =>
  refine Ev.step (fun _ => rfl) (Ev.pos (by omega) (Ev.put (hash_val s h) ?_))
  unfold hashesF
  by_cases h0 : (hashF s).2 = 0
  ·rw [if_pos h0]
   refine Ev.pos h0 ?_
   rw [w64 (by omega) (by omega)]
   exact ih _ _ (by have := hash_size s; omega) (by omega) (by omega)
  ·rw [if_neg h0]
   exact Ev.neg h0 (Ev.now _)
theorem back_ev (s : ByteArray) (n : Int) (h : s.size ≤ 9223372036854774000) (hn : n ≤ 9223372036854775807) : Ev (fun k => regress_Back.f k s n) (backF s n) := by
 unfold regress_Back.f backF
 refine Ev.put (kind_val s h) ?_
 cases hr : right s with
 | false =>
  rw [if_neg (by simp)]
  exact Ev.pos ((kindF_zero s).2 hr) (Ev.step (fun _ => rfl) (Ev.now _))
 | true =>
  rw [if_pos rfl]
  refine Ev.neg (fun e => by rw [(kindF_zero s).1 e] at hr; simp at hr) ?_
  by_cases h0 : n < 0
  ·rw [if_pos h0]
   exact Ev.step (fun _ => rfl) (Ev.pos (decide_eq_true h0) (Ev.now _))
  ·rw [if_neg h0]
   refine Ev.step (fun _ => rfl) (Ev.neg (by simpa using h0) ?_)
   exact back_loop n.toNat s n 0 h (by omega) hn (by omega)
theorem key_text : textF keyB = (textB keyB, 0) := by
 unfold textF
 rw [if_neg]
 have := size_numB (n := keyB.size) (by decide)
 unfold textB
 rw [ByteArray.size_append, ByteArray.size_append, size_one, show keyB.size = 3 from rfl]
 rw [show keyB.size = 3 from rfl] at this
 omega
theorem textB_key_size : (textB keyB).size ≤ 4000 := by
 have := textF_size keyB
 rwa [key_text] at this
theorem key_ev (s : ByteArray) (h : s.size ≤ 9223372036854774000) : Ev (fun k => regress_Key.f k s) (keyF s) := by
 unfold regress_Key.f keyF
 refine Ev.put (kind_val s h) ?_
 cases hr : right s with
 | false =>
  rw [if_neg (by simp)]
  exact Ev.pos ((kindF_zero s).2 hr) (Ev.now _)
 | true =>
  rw [if_pos rfl]
  refine Ev.neg (fun e => by rw [(kindF_zero s).1 e] at hr; simp at hr) ?_
  have ht := ofText_ev keyB (by decide)
  rw [key_text] at ht
  refine Ev.bind ht (Ev.put (pair_val (textB keyB) s (by have := textB_key_size; omega) h) ?_)
  by_cases h0 : (pairF (textB keyB) s).2 = 0
  ·simp only [if_pos h0]
   exact Ev.put (hash_val _ (by have := pair_size (textB keyB) s; omega)) (Ev.now _)
  ·simp only [if_neg h0]
   exact Ev.now _
theorem keyB_len : (bytes keyB).length = 3 := rfl
def hT : Nat → T → T
 | 0, t => t
 | n + 1, t => hT n (.one .h t)
theorem len_hT (n : Nat) (t : T) : (enc (hT n t)).length = n + (enc t).length := by
 induction n generalizing t with
 | zero => simp [hT]
 | succ n ih => simp only [hT, ih, enc, List.length_cons]; omega
theorem ok_hT (n d : Nat) (t : T) (h : ok d t) : ok (d + n) (hT n t) := by
 induction n generalizing t d with
 | zero => exact h
 | succ n ih => exact ok_mono (ih (d + 1) (.one .h t) h) (by omega)
theorem hT_hT (a b : Nat) (t : T) : hT a (hT b t) = hT (b + a) t := by
 induction b generalizing t with
 | zero => simp [hT]
 | succ b ih => rw [show b + 1 + a = (b + a) + 1 from by omega]; exact ih _
theorem hashes_tm (n d : Nat) (t : T) (h : ok d t) (hd : d + n ≤ 40) (hl : (enc t).length + n ≤ 4000) : hashesF n (tm t) = (tm (hT n t), 0) := by
 induction n generalizing t d with
 | zero => rfl
 | succ n ih =>
  have hh : hashF (tm t) = (tm (.one .h t), 0) := hash_tm ⟨ok_mono (d := d + 1) (show ok (d + 1) (.one .h t) from h) (by omega), by simp only [enc, List.length_cons]; omega⟩
  unfold hashesF
  rw [hh, if_pos rfl]
  exact ih (d + 1) (.one .h t) h (by omega) (by simp only [enc, List.length_cons]; omega)
theorem back_tm (n d : Nat) (t : T) (h : ok d t) (hd : d + n ≤ 40) (hl : (enc t).length + n ≤ 4000) : backF (tm t) (n : Int) = (tm (hT n t), 0) := by
 unfold backF
 rw [if_pos (right_tm ⟨ok_mono h (by omega), by omega⟩), if_neg (by omega), Int.toNat_natCast]
 exact hashes_tm n d t h hd hl
theorem state_tm (e d : Nat) (t : T) (he : e ≤ 7) (h : ok d t) (hd : d + 7 ≤ 40) (hl : (enc t).length + 7 ≤ 4000) : stateF (tm t) (e : Int) = (tm (hT (7 - e) t), 0) := by
 unfold stateF
 rw [if_pos (right_tm ⟨ok_mono h (by omega), by omega⟩), if_neg (by omega), if_neg (by omega), show (7 : Int) - e = ((7 - e : Nat) : Int) from by omega]
 exact back_tm (7 - e) d t h (by omega) (by omega)
def keyT (t : T) : T := .one .h (.two .p (.text (bytes keyB)) t)
theorem key_tm (d : Nat) (t : T) (h : ok d t) (hd0 : 0 < d) (hd : d + 2 ≤ 40) (hl : (enc t).length + 15 ≤ 4000) : keyF (tm t) = (tm (keyT t), 0) := by
 have h3 := len_text keyB (by decide)
 rw [show keyB.size = 3 from rfl] at h3
 have hw1 : Wf (.two .p (.text (bytes keyB)) t) := by
  refine ⟨ok_mono (d := d + 1) ?_ (by omega), by simp only [enc, List.length_cons, List.length_append] at h3 ⊢; omega⟩
  obtain ⟨d, rfl⟩ : ∃ e, d = e + 1 := ⟨d - 1, by omega⟩
  exact ⟨show (bytes keyB).length ≤ 4000 by rw [keyB_len]; omega, h, fun e => by simp at e⟩
 have hw2 : Wf (keyT t) := by
  refine ⟨ok_mono (d := d + 2) ?_ (by omega), by simp only [keyT, enc, List.length_cons, List.length_append] at h3 ⊢; omega⟩
  obtain ⟨d, rfl⟩ : ∃ e, d = e + 1 := ⟨d - 1, by omega⟩
  exact ⟨show (bytes keyB).length ≤ 4000 by rw [keyB_len]; omega, h, fun e => by simp at e⟩
 unfold keyF
 rw [if_pos (right_tm ⟨ok_mono h (by omega), by omega⟩), textB_tm, pair_tm hw1, if_pos rfl]
 exact hash_tm hw2
theorem hashes_codes (n : Nat) (s : ByteArray) (h : right s = true) : (hashesF n s).2 = 0 ∧ right (hashesF n s).1 = true ∨ hashesF n s = (⟨#[]⟩, 10) := by
 induction n generalizing s with
 | zero => exact Or.inl ⟨rfl, h⟩
 | succ n ih =>
  unfold hashesF
  by_cases h0 : (hashF s).2 = 0
  ·rw [if_pos h0]; exact ih _ (ofF_right h0)
  ·rw [if_neg h0]
   rcases ofF_codes2 (c := ⟨#[104]⟩) (l := [s]) (by simp [h]) with h1 | h1
   ·exact absurd h1 h0
   ·exact Or.inr (Prod.ext rfl h1)
end Go.Proofs.YtlhoahbpklhpmaaGreatDoor.Ref
end
section

namespace Go.Proofs.YtlhoahbpklhpmaaGreatDoor.Ref
open Go.RowKit Go.Proofs.YtlhoahbpklhpmaaGreatDoor Go.Proofs.YtlhoahbpklhpmaaGreatDoor.PA Go.Proofs.YtlhoahbpklhpmaaGreatDoorW.PrintWords Go.Proofs.YtlhoahbpklhpmaaGreatDoorW.PrintLast
set_option linter.unusedVariables false
def nameB (a b : ByteArray) : ByteArray := (a ++ ⟨#[58]⟩) ++ b
def secretF (a b : ByteArray) (n : Nat) : ByteArray × Int :=
 if (textF (nameB a b)).2 = 0 then (if (pairF (textF (nameB a b)).1 (atomB n)).2 = 0 then hashF (pairF (textF (nameB a b)).1 (atomB n)).1 else (⟨#[]⟩, (pairF (textF (nameB a b)).1 (atomB n)).2)) else (⟨#[]⟩, (textF (nameB a b)).2)
theorem ofAtom_ev (n : Nat) (h : n < 18446744073709551616) : Ev (fun k => term_OfAtom.f k (n : Int)) (atomB n) := by
 unfold term_OfAtom.f
 have := size_numB h
 exact Ev.bind (wirePut_ev n h) (Ev.pos (show 1 + (numB n).size ≤ _ by omega) (Ev.now _))
theorem nameB_size (a b : ByteArray) : (nameB a b).size = a.size + 1 + b.size := by
 unfold nameB; rw [ByteArray.size_append, ByteArray.size_append, size_one]
def rootT (a b : ByteArray) (n : Nat) : T := .one .h (.two .p (.text (bytes (nameB a b))) (.atom n))
theorem rootT_ok (a b : ByteArray) (n : Nat) (hs : (nameB a b).size ≤ 1010) (h : n < 18446744073709551616) : ok 3 (rootT a b n) :=
 ⟨show (bytes (nameB a b)).length ≤ 4000 by rw [bytes_length]; omega, h, fun e => by simp at e⟩
theorem rootT_len (a b : ByteArray) (n : Nat) (hs : (nameB a b).size ≤ 1010) (h : n < 18446744073709551616) : (enc (rootT a b n)).length ≤ 1100 := by
 have h1 := len_text (nameB a b) (by omega)
 have h2 := len_atom n h
 simp only [rootT, enc, List.length_cons, List.length_append] at h1 h2 ⊢; omega
theorem secret_tm (a b : ByteArray) (n : Nat) (hs : (nameB a b).size ≤ 1010) (h : n < 18446744073709551616) : secretF a b n = (tm (rootT a b n), 0) := by
 have h1 := len_text (nameB a b) (by omega)
 have h2 := len_atom n h
 have hw2 : Wf (rootT a b n) := ⟨ok_mono (rootT_ok a b n hs h) (by omega), by have := rootT_len a b n hs h; omega⟩
 have hw1 : Wf (.two .p (.text (bytes (nameB a b))) (.atom n)) := ⟨ok_mono (d := 2) (rootT_ok a b n hs h) (by omega), by have := hw2.2; simp only [rootT, enc, List.length_cons, List.length_append] at this ⊢; omega⟩
 have ht : textF (nameB a b) = (textB (nameB a b), 0) := by
  unfold textF
  rw [if_neg]
  rw [textB_tm, size_tm]; omega
 unfold secretF
 rw [ht, if_pos rfl, textB_tm, atomB_tm, pair_tm hw1, if_pos rfl]
 exact hash_tm hw2
end Go.Proofs.YtlhoahbpklhpmaaGreatDoor.Ref
end
section

namespace Go.Proofs.YtlhoahbpklhpmaaGreatDoor.Ref
open Go.RowKit Go.Proofs.YtlhoahbpklhpmaaGreatDoor Go.Proofs.YtlhoahbpklhpmaaGreatDoor.PA Go.Proofs.YtlhoahbpklhpmaaGreatDoorW.PrintWords Go.Proofs.YtlhoahbpklhpmaaGreatDoorW.PrintLast
set_option linter.unusedVariables false
def catT (l : List ByteArray) : ByteArray := ofBytes (l.flatMap fun s => putT (bytes s))
def allB (l : List ByteArray) : ByteArray := numB l.length ++ catT l
theorem catT_cons (s : ByteArray) (l : List ByteArray) : catT (s :: l) = (numB s.size ++ s) ++ catT l := by
 refine bs_inj ?_
 unfold catT numB putT
 rw [bytes_append, bytes_append, bytes_ofBytes, bytes_ofBytes, bytes_ofBytes, List.flatMap_cons, bytes_length]
def takeGo (most : Nat) : Nat → ByteArray → List ByteArray → List ByteArray × Int
 | 0, s, acc => if s.toList = [] then (acc, 0) else ([], 2)
 | n + 1, s, acc => if (takeTextF most s).2.2 = 0 then takeGo most n (takeTextF most s).2.1 (acc ++ [(takeTextF most s).1]) else ([], (takeTextF most s).2.2)
def takeAllF (many most : Nat) (s : ByteArray) : List ByteArray × Int :=
 if (takeF s).2.2 = 0 then (if (takeF s).1 > (many : Int) then ([], 10) else takeGo most (takeF s).1.toNat (takeF s).2.1 []) else ([], (takeF s).2.2)
theorem takeText_size (most : Nat) (s : ByteArray) : (takeTextF most s).2.1.size ≤ s.size := by
 unfold takeTextF
 cases h : takeL (bytes s) with
 | none => exact Nat.zero_le _
 | some x =>
  obtain ⟨n, r⟩ := x
  have h1 := congrArg List.length (take_inv h).1
  rw [bytes_length, List.length_append] at h1
  simp only
  split
  ·exact Nat.zero_le _
  ·split
   ·exact Nat.zero_le _
   ·rw [size_ofBytes, List.length_drop]; omega
theorem takeF_size (s : ByteArray) : (takeF s).2.1.size ≤ s.size ∧ 0 ≤ (takeF s).1 ∧ (takeF s).1 < 18446744073709551616 := by
 unfold takeF
 cases h : takeL (bytes s) with
 | none => exact ⟨Nat.zero_le _, by simp, by simp⟩
 | some x =>
  obtain ⟨n, r⟩ := x
  have h1 := congrArg List.length (take_inv h).1
  have h2 := (take_inv h).2
  rw [bytes_length, List.length_append] at h1
  simp only
  rw [size_ofBytes]
  omega
theorem limited_val (most : Nat) (s : ByteArray) (h : s.size ≤ 1000000) (hm : most ≤ 1000000) : wire_limited.f s (most : Int) = some (limitedF most s) := by
 unfold wire_limited.f
 rw [if_pos ⟨by omega, by omega, by omega⟩, Int.toNat_natCast]
theorem limited_take (most : Nat) (s : ByteArray) : limitedF most s = if (takeF s).2.2 = 0 then (if (takeF s).1 > (most : Int) then (0, ⟨#[]⟩, 10) else takeF s) else (0, ⟨#[]⟩, (takeF s).2.2) := by
 unfold limitedF takeF
 cases takeL (bytes s) with
 | none => rfl
 | some x =>
  obtain ⟨n, r⟩ := x
  simp only
  rw [if_pos trivial]
  by_cases h : most < n
  ·rw [if_pos h, if_pos (by omega)]
  ·rw [if_neg h, if_neg (by omega)]
theorem takeAll_loop (most : Nat) (hm : most ≤ 1000000) (n : Nat) (hn : n ≤ 1000) (m i : Nat) (hi : i + m = n) (s : ByteArray) (acc : List ByteArray) (hs : s.size ≤ 1000000) (ha : acc.length = i) :
  Ev (fun k => wire_TakeAll.l0 k (most : Int) s acc (n : Int) (i : Int)) (takeGo most m s acc) := by
 induction m generalizing i s acc with
 | zero =>
  refine Ev.step (fun _ => rfl) (Ev.neg (by omega) ?_)
  unfold takeGo
  by_cases h : s.toList = ([] : List UInt8)
  ·simp only [if_pos h]; exact Ev.now _
  ·simp only [if_neg h]; exact Ev.now _
 | succ m ih =>
  have hz := takeText_size most s
  refine Ev.step (fun _ => rfl) (Ev.pos (by omega) ?_)
  have hv : wire_TakeText.f s (most : Int) = some (takeTextF most s) := by
   unfold wire_TakeText.f
   rw [if_pos ⟨by omega, by omega, by omega⟩, Int.toNat_natCast]
  refine Ev.put hv ?_
  rw [takeGo]
  by_cases h : (takeTextF most s).2.2 = 0
  ·rw [if_pos h]
   refine Ev.pos h (Ev.pos (by omega) ?_)
   rw [w64 (n := (i : Int) + 1) (by omega) (by omega)]
   exact ih (i + 1) (by omega) _ _ (by omega) (by simp; omega)
  ·rw [if_neg h]
   exact Ev.neg h (Ev.now _)
theorem takeAll_ev (many most : Nat) (s : ByteArray) (hmn : many ≤ 1000) (hm : most ≤ 1000000) (hs : s.size ≤ 1000000) : Ev (fun k => wire_TakeAll.f k s (many : Int) (most : Int)) (takeAllF many most s) := by
 have hz := takeF_size s
 unfold wire_TakeAll.f takeAllF
 refine Ev.put (limited_val many s hs (by omega)) ?_
 rw [limited_take]
 by_cases h : (takeF s).2.2 = 0
 ·rw [if_pos h, if_pos h]
  by_cases h2 : (takeF s).1 > (many : Int)
  ·rw [if_pos h2, if_pos h2]
   exact Ev.neg (by simp) (Ev.now _)
  ·rw [if_neg h2, if_neg h2]
   refine Ev.pos h ?_
   have e : (takeF s).1 = (((takeF s).1.toNat : Nat) : Int) := by omega
   have := takeAll_loop most hm (takeF s).1.toNat (by omega) (takeF s).1.toNat 0 (by omega) (takeF s).2.1 [] (by omega) rfl
   rw [← e] at this
   exact this
 ·rw [if_neg h, if_neg h]
  exact Ev.neg h (Ev.now _)
theorem takeText_inv {most : Nat} {s t r : ByteArray} (h : takeTextF most s = (t, r, 0)) : s = (numB t.size ++ t) ++ r ∧ t.size ≤ most := by
 unfold takeTextF at h
 cases ht : takeL (bytes s) with
 | none => rw [ht] at h; simp at h
 | some x =>
  obtain ⟨n, q⟩ := x
  rw [ht] at h
  simp only at h
  by_cases h1 : most < n
  ·rw [if_pos h1] at h; simp at h
  rw [if_neg h1] at h
  by_cases h2 : q.length < n
  ·rw [if_pos h2] at h; simp at h
  rw [if_neg h2] at h
  simp only [Prod.mk.injEq, and_true] at h
  obtain ⟨rfl, rfl⟩ := h
  have h3 := (take_inv ht).1
  have hl : (ofBytes (q.take n)).size = n := by rw [size_ofBytes, List.length_take]; omega
  refine ⟨bs_inj ?_, by omega⟩
  rw [h3, bytes_append, bytes_append, hl]
  unfold numB
  rw [bytes_ofBytes, bytes_ofBytes, bytes_ofBytes, List.append_assoc, List.take_append_drop]
theorem takeGo_inv (most : Nat) (n : Nat) (s : ByteArray) (acc l : List ByteArray) (h : takeGo most n s acc = (l, 0)) : ∃ m, l = acc ++ m ∧ m.length = n ∧ s = catT m ∧ ∀ x ∈ m, x.size ≤ most := by
 induction n generalizing s acc with
 | zero =>
  rw [takeGo] at h
  by_cases hs : s.toList = []
  ·rw [if_pos hs] at h
   simp only [Prod.mk.injEq, and_true] at h
   refine ⟨[], by rw [List.append_nil, h], rfl, bs_inj ?_, by simp⟩
   rw [← bytes_toList, hs]; rfl
  ·rw [if_neg hs] at h; simp at h
 | succ n ih =>
  rw [takeGo] at h
  by_cases ht : (takeTextF most s).2.2 = 0
  ·rw [if_pos ht] at h
   obtain ⟨m, h1, h2, h3, h4⟩ := ih _ _ h
   have h5 := takeText_inv (most := most) (s := s) (t := (takeTextF most s).1) (r := (takeTextF most s).2.1) (by rw [← ht])
   refine ⟨(takeTextF most s).1 :: m, by rw [h1, List.append_assoc]; rfl, by rw [List.length_cons, h2], by rw [catT_cons, ← h3]; exact h5.1, fun x hx => ?_⟩
   rcases List.mem_cons.1 hx with rfl | hx
   ·exact h5.2
   ·exact h4 x hx
  ·rw [if_neg ht] at h
   simp only [Prod.mk.injEq] at h
   exact absurd h.2 ht
theorem takeAll_inv {many most : Nat} {s : ByteArray} {l : List ByteArray} (h : takeAllF many most s = (l, 0)) : s = allB l ∧ l.length ≤ many ∧ ∀ x ∈ l, x.size ≤ most := by
 unfold takeAllF at h
 by_cases h1 : (takeF s).2.2 = 0
 ·rw [if_pos h1] at h
  by_cases h2 : (takeF s).1 > (many : Int)
  ·rw [if_pos h2] at h; simp at h
  rw [if_neg h2] at h
  obtain ⟨m, e1, e2, e3, e4⟩ := takeGo_inv _ _ _ _ _ h
  rw [List.nil_append] at e1
  subst e1
  unfold takeF at h1 h2 e2 e3
  cases ht : takeL (bytes s) with
  | none => rw [ht] at h1; simp at h1
  | some x =>
   obtain ⟨n, r⟩ := x
   rw [ht] at h2 e2 e3
   simp only [Int.toNat_natCast] at h2 e2 e3
   refine ⟨bs_inj ?_, by omega, e4⟩
   unfold allB
   rw [(take_inv ht).1, bytes_append, ← e3, e2]
   unfold numB
   rw [bytes_ofBytes, bytes_ofBytes]
 ·rw [if_neg h1] at h
  simp only [Prod.mk.injEq] at h
  exact absurd h.2 h1
end Go.Proofs.YtlhoahbpklhpmaaGreatDoor.Ref
end
section

namespace Go.Proofs.YtlhoahbpklhpmaaGreatDoor.Ref
open Go.RowKit Go.Proofs.YtlhoahbpklhpmaaGreatDoor Go.Proofs.YtlhoahbpklhpmaaGreatDoorW.PrintWords Go.Proofs.YtlhoahbpklhpmaaGreatDoorW.PrintLast
set_option linter.unusedVariables false
structure Bl where
 e : Int
 s : ByteArray
 g : ByteArray
def noBl : Bl := ⟨0, ⟨#[]⟩, ⟨#[]⟩⟩
def sealF (k a : ByteArray) : ByteArray × Int := ofF (⟨#[115]⟩ : ByteArray) [k, a]
def signF (k a : ByteArray) : ByteArray × Int := ofF (⟨#[103]⟩ : ByteArray) [k, a]
def publicF (k : ByteArray) : ByteArray × Int := ofF (⟨#[117]⟩ : ByteArray) [k]
def verifyF (p a s : ByteArray) : Int :=
 if right p = true ∧ right a = true ∧ right s = true then
  (match termOf (bytes p) with
   | some (.one .u k) => if bytes s = 103 :: (enc k ++ bytes a) then 0 else 7
   | _ => 7) else 1
def unsealF (k c : ByteArray) : ByteArray × Int :=
 if right k = true then
  (match termOf (bytes c) with
   | none => (⟨#[]⟩, 1)
   | some (.two .s a b) => if tm a = k then (tm b, 0) else (⟨#[]⟩, 6)
   | some _ => (⟨#[]⟩, 2)) else (⟨#[]⟩, 1)
def wordsF (t : ByteArray) : ByteArray × Int := match termOf (bytes t) with | none => (⟨#[]⟩, 1) | some (.text s) => (ofBytes s, 0) | some _ => (⟨#[]⟩, 2)
def signedF (e : Int) (s : ByteArray) : ByteArray × Int := pairF (atomB e.toNat) s
def epochB (e : Int) : Bool := decide (0 ≤ e ∧ e ≤ 7)
def rightBl (b : Bl) : Bool := epochB b.e && (decide (kindF b.s = 115) && decide (kindF b.g = 103))
def builtF (e : Int) (k : ByteArray × Int) (p sg : ByteArray) : Bl × Int :=
 if k.2 = 0 then
  (if (sealF k.1 p).2 = 0 then
   (if (signedF e (sealF k.1 p).1).2 = 0 then
    (if (signF sg (signedF e (sealF k.1 p).1).1).2 = 0 then (⟨e, (sealF k.1 p).1, (signF sg (signedF e (sealF k.1 p).1).1).1⟩, 0)
     else (noBl, (signF sg (signedF e (sealF k.1 p).1).1).2))
    else (noBl, (signedF e (sealF k.1 p).1).2))
   else (noBl, (sealF k.1 p).2))
  else (noBl, k.2)
def bodyF (pa ct : ByteArray) : ByteArray := (pairF (textB pa) (textB ct)).1
def buildOk (st : ByteArray) (e : Int) (sg pa : ByteArray) : Bool := epochB e && (right st && (right sg && decide ((splitF pa).2.2 = 0)))
def buildF (st : ByteArray) (e : Int) (sg pa ct : ByteArray) : Bl × Int :=
 if buildOk st e sg pa = true then (if ct.size ≤ 64 then builtF e (keyF st) (bodyF pa ct) sg else (noBl, 10)) else (noBl, 1)
def takenF (n : Int × ByteArray × Int) (s g : ByteArray) : Bl × Int :=
 if n.2.2 = 0 ∧ n.2.1 = ⟨#[]⟩ ∧ rightBl ⟨n.1, s, g⟩ = true then (⟨n.1, s, g⟩, 0) else (noBl, 2)
def takeBl (s : ByteArray) : Bl × Int :=
 if (takeAllF 3 4000 s).2 = 0 ∧ (takeAllF 3 4000 s).1.length = 3 then takenF (takeF ((takeAllF 3 4000 s).1.getD 0 ⟨#[]⟩)) ((takeAllF 3 4000 s).1.getD 1 ⟨#[]⟩) ((takeAllF 3 4000 s).1.getD 2 ⟨#[]⟩) else (noBl, 2)
def insideF (k s pa : ByteArray) : Option ByteArray :=
 match termOf (bytes s) with
 | some (.two .s a (.two .p (.text x) (.text y))) => if tm a = k ∧ ofBytes x = pa ∧ y.length ≤ 64 then some (ofBytes y) else none
 | _ => none
def openedF (b : Bl) (v st : ByteArray) (n : Int) (pa : ByteArray) : Option ByteArray :=
 if (signedF b.e b.s).2 = 0 ∧ verifyF v (signedF b.e b.s).1 b.g = 0 ∧ (backF st n).2 = 0 ∧ (keyF (backF st n).1).2 = 0 then insideF (keyF (backF st n).1).1 b.s pa else none
def openOk (b : Bl) (vs : List ByteArray) (st : ByteArray) (e : Int) : Bool := rightBl b && (right st && (epochB e && decide ((vs.length : Int) = e + 1)))
def openBl (b : Bl) (vs : List ByteArray) (st : ByteArray) (e : Int) (pa : ByteArray) : ByteArray × Int :=
 if openOk b vs st e = true then
  (if e < b.e then (⟨#[]⟩, 7) else match openedF b (vs.getD b.e.toNat ⟨#[]⟩) st (e - b.e) pa with | some c => (c, 0) | none => (⟨#[]⟩, 7))
 else (⟨#[]⟩, 1)
theorem wf_left {k : K2} {a b : T} (h : Wf (.two k a b)) : Wf a :=
 ⟨ok_mono (d := 39) h.1.1 (by omega), by have := h.2; simp only [enc, List.length_cons, List.length_append] at this; omega⟩
theorem wf_right {k : K2} {a b : T} (h : Wf (.two k a b)) : Wf b :=
 ⟨ok_mono (d := 39) h.1.2.1 (by omega), by have := h.2; simp only [enc, List.length_cons, List.length_append] at this; omega⟩
theorem wf_one {k : K1} {a : T} (h : Wf (.one k a)) : Wf a :=
 ⟨ok_mono (d := 39) (show ok 39 a from h.1) (by omega), by have := h.2; simp only [enc, List.length_cons] at this; omega⟩
theorem two_tm (k : K2) {a b : T} (hw : Wf (.two k a b)) : ofF (⟨#[k.code]⟩ : ByteArray) [tm a, tm b] = (tm (.two k a b), 0) := by
 have he : catB (⟨#[k.code]⟩ : ByteArray) [tm a, tm b] = tm (.two k a b) := bs_inj (by
  show bytes (((⟨#[k.code]⟩ : ByteArray) ++ tm a) ++ tm b) = _
  rw [bytes_append, bytes_append, bytes_tm, bytes_tm, bytes_tm]
  simp only [enc]
  rfl)
 unfold ofF
 rw [he, if_pos (by simp [right_tm (wf_left hw), right_tm (wf_right hw)]), if_pos (right_tm hw)]
theorem seal_tm {a b : T} (hw : Wf (.two .s a b)) : sealF (tm a) (tm b) = (tm (.two .s a b), 0) := two_tm .s hw
theorem sign_tm {a b : T} (hw : Wf (.two .g a b)) : signF (tm a) (tm b) = (tm (.two .g a b), 0) := two_tm .g hw
theorem public_tm {a : T} (hw : Wf (.one .u a)) : publicF (tm a) = (tm (.one .u a), 0) := by
 have he : catB (⟨#[117]⟩ : ByteArray) [tm a] = tm (.one .u a) := bs_inj (by
  show bytes ((⟨#[117]⟩ : ByteArray) ++ tm a) = _
  rw [bytes_append, bytes_tm, bytes_tm]
  rfl)
 unfold publicF ofF
 rw [he, if_pos (by simp [right_tm (wf_one hw)]), if_pos (right_tm hw)]
theorem tm_inj {a b : T} (ha : Wf a) (hb : Wf b) (h : tm a = tm b) : a = b :=
 enc_inj ha.1 hb.1 (by rw [← bytes_tm, ← bytes_tm, h])
theorem kind_tm {t : T} (h : Wf t) : kindF (tm t) = (t.code.toNat : Int) := by
 unfold kindF
 rw [bytes_tm, termOf_enc h]
theorem term_tm {t : T} (h : Wf t) : termOf (bytes (tm t)) = some t := by rw [bytes_tm, termOf_enc h]
theorem kind_sealed {s : ByteArray} (h : kindF s = 115) : ∃ a b, Wf (.two .s a b) ∧ s = tm (.two .s a b) := by
 have hr : right s = true := by
  cases hr : right s with
  | true => rfl
  | false => rw [(kindF_zero s).2 hr] at h; simp at h
 obtain ⟨t, hw, rfl⟩ := right_tm_of hr
 rw [kind_tm hw] at h
 cases t with
 | atom n => simp [T.code] at h
 | text n => simp [T.code] at h
 | one k a => cases k <;> simp [T.code, K1.code] at h
 | two k a b =>
  cases k with
  | s => exact ⟨a, b, hw, rfl⟩
  | p => simp [T.code, K2.code] at h
  | b => simp [T.code, K2.code] at h
  | g => simp [T.code, K2.code] at h
theorem verify_tm {k m g : T} (hp : Wf (.one .u k)) (hm : Wf m) (hg : Wf g) : verifyF (tm (.one .u k)) (tm m) (tm g) = if g = .two .g k m then 0 else 7 := by
 unfold verifyF
 rw [if_pos ⟨right_tm hp, right_tm hm, right_tm hg⟩, term_tm hp]
 simp only
 by_cases h : g = .two .g k m
 ·subst h
  rw [if_pos rfl, if_pos (by rw [bytes_tm, bytes_tm]; rfl)]
 ·rw [if_neg h, if_neg]
  intro e
  rw [bytes_tm, bytes_tm] at e
  have h1 : ok 41 (.two .g k m) := ⟨ok_mono (d := 39) (e := 40) hp.1 (by omega), hm.1, fun e => by simp at e⟩
  exact h (enc_inj (d := 41) (ok_mono hg.1 (by omega)) h1 e)
def rootB : ByteArray := ⟨#[114, 111, 111, 116]⟩
def signB : ByteArray := ⟨#[115, 105, 103, 110]⟩
def xB : ByteArray := ⟨#[120]⟩
def rT (n : Nat) : T := rootT rootB xB n
def sT (n : Nat) : T := rootT signB xB n
theorem rT_ok {n : Nat} (h : n < 1000) : ok 3 (rT n) ∧ (enc (rT n)).length ≤ 1100 :=
 ⟨rootT_ok rootB xB n (by decide) (by omega), rootT_len rootB xB n (by decide) (by omega)⟩
theorem sT_ok {n : Nat} (h : n < 1000) : ok 3 (sT n) ∧ (enc (sT n)).length ≤ 1100 :=
 ⟨rootT_ok signB xB n (by decide) (by omega), rootT_len signB xB n (by decide) (by omega)⟩
theorem sT_inj {m n : Nat} (hm : m < 1000) (hn : n < 1000) (h : sT m = sT n) : m = n := by
 unfold sT rootT at h
 simpa using h
def kT (r j : Nat) : T := keyT (hT j (rT r))
def bodyT (pa ct : Bs) : T := .two .p (.text pa) (.text ct)
def sealT (r j : Nat) (pa ct : Bs) : T := .two .s (kT r j) (bodyT pa ct)
def msgT (e r j : Nat) (pa ct : Bs) : T := .two .p (.atom e) (sealT r j pa ct)
def sigT (i e r j : Nat) (pa ct : Bs) : T := .two .g (sT i) (msgT e r j pa ct)
theorem hT_len {a b : Nat} {t : T} (h : hT a t = hT b t) : a = b := by
 have h1 := len_hT a t
 have h2 := len_hT b t
 rw [h] at h1; omega
theorem kT_inj {r a b : Nat} (h : kT r a = kT r b) : a = b := by
 unfold kT keyT at h
 simp only [T.one.injEq, T.two.injEq, true_and] at h
 exact hT_len h
theorem putT_len {l : Bs} (h : l.length < 18446744073709551616) : (putT l).length ≤ 9 + l.length := by
 unfold putT
 rw [List.length_append]
 have := putL_len (n := l.length) h
 omega
theorem kT_ok {r j : Nat} (hr : r < 1000) (hj : j ≤ 7) : ok 12 (kT r j) ∧ (enc (kT r j)).length ≤ 1130 := by
 obtain ⟨h1, h2⟩ := rT_ok hr
 have h3 := ok_hT j 3 (rT r) h1
 have h4 := len_hT j (rT r)
 have h5 : (bytes keyB).length = 3 := keyB_len
 have h6 := putT_len (l := bytes keyB) (by omega)
 refine ⟨⟨show (bytes keyB).length ≤ 4000 by omega, ok_mono (e := 10) h3 (by omega), fun e => by simp at e⟩, ?_⟩
 simp only [kT, keyT, enc, List.length_cons, List.length_append]; omega
theorem sealT_ok {r j : Nat} (hr : r < 1000) (hj : j ≤ 7) {pa ct : Bs} (hp : pa.length ≤ 300) (hc : ct.length ≤ 64) : ok 13 (sealT r j pa ct) ∧ (enc (sealT r j pa ct)).length ≤ 1520 := by
 obtain ⟨h1, h2⟩ := kT_ok hr hj
 have h3 := putT_len (l := pa) (by omega)
 have h4 := putT_len (l := ct) (by omega)
 refine ⟨⟨h1, ⟨show pa.length ≤ 4000 by omega, show ct.length ≤ 4000 by omega, fun e => by simp at e⟩, fun e => by simp at e⟩, ?_⟩
 simp only [sealT, bodyT, enc, List.length_cons, List.length_append]; omega
theorem msgT_ok {e r j : Nat} (he : e < 1000) (hr : r < 1000) (hj : j ≤ 7) {pa ct : Bs} (hp : pa.length ≤ 300) (hc : ct.length ≤ 64) : ok 14 (msgT e r j pa ct) ∧ (enc (msgT e r j pa ct)).length ≤ 1540 := by
 obtain ⟨h1, h2⟩ := sealT_ok hr hj hp hc
 have h3 := putL_len (n := e) (by omega)
 refine ⟨⟨show e < 18446744073709551616 by omega, h1, fun e => by simp at e⟩, ?_⟩
 simp only [msgT, enc, List.length_cons, List.length_append]; omega
theorem sigT_ok {i e r j : Nat} (hi : i < 1000) (he : e < 1000) (hr : r < 1000) (hj : j ≤ 7) {pa ct : Bs} (hp : pa.length ≤ 300) (hc : ct.length ≤ 64) : ok 15 (sigT i e r j pa ct) ∧ (enc (sigT i e r j pa ct)).length ≤ 2650 := by
 obtain ⟨h1, h2⟩ := msgT_ok he hr hj hp hc
 obtain ⟨h3, h4⟩ := sT_ok hi
 refine ⟨⟨ok_mono (e := 14) h3 (by omega), h1, fun e => by simp at e⟩, ?_⟩
 simp only [sigT, enc, List.length_cons, List.length_append]; omega
theorem wf_of {d : Nat} {t : T} {n : Nat} (h : ok d t ∧ (enc t).length ≤ n) (hd : d ≤ 40) (hn : n ≤ 4000) : Wf t := ⟨ok_mono h.1 hd, by omega⟩
theorem split_size {p : ByteArray} (h : (splitF p).2.2 = 0) : p.size ≤ 257 := by
 obtain ⟨h1, h2, h3⟩ := split_ok (p := p) (a := (splitF p).1) (b := (splitF p).2.1) (Prod.ext rfl (Prod.ext rfl h))
 have h4 := right_len h2
 have h5 := right_len h3
 rw [← bytes_length, h1, bytes_path, List.length_append, List.length_cons]; omega
theorem bodyF_tm {pa ct : ByteArray} (hp : pa.size ≤ 300) (hc : ct.size ≤ 64) : bodyF pa ct = tm (bodyT (bytes pa) (bytes ct)) ∧ pairF (textB pa) (textB ct) = (bodyF pa ct, 0) := by
 have hp' : (bytes pa).length ≤ 300 := by rw [bytes_length]; exact hp
 have hc' : (bytes ct).length ≤ 64 := by rw [bytes_length]; exact hc
 have hw : Wf (bodyT (bytes pa) (bytes ct)) := wf_right (wf_of (sealT_ok (r := 0) (j := 0) (by omega) (by omega) hp' hc') (by omega) (by omega))
 have h := pair_tm hw
 unfold bodyF
 rw [textB_tm, textB_tm, h]
 exact ⟨rfl, rfl⟩
theorem signed_tm {e : Nat} {t : T} (hw : Wf (.two .p (.atom e) t)) : signedF (e : Int) (tm t) = (tm (.two .p (.atom e) t), 0) := by
 unfold signedF
 rw [Int.toNat_natCast, atomB_tm, pair_tm hw]
theorem back_state {r j n : Nat} (hr : r < 1000) (hj : j + n ≤ 20) : backF (tm (hT j (rT r))) (n : Int) = (tm (hT (j + n) (rT r)), 0) := by
 obtain ⟨h1, h2⟩ := rT_ok hr
 rw [back_tm n (3 + j) (hT j (rT r)) (ok_hT j 3 (rT r) h1) (by omega) (by rw [len_hT]; omega), hT_hT]
theorem key_state {r j : Nat} (hr : r < 1000) (hj : j ≤ 20) : keyF (tm (hT j (rT r))) = (tm (kT r j), 0) := by
 obtain ⟨h1, h2⟩ := rT_ok hr
 exact key_tm (3 + j) (hT j (rT r)) (ok_hT j 3 (rT r) h1) (by omega) (by omega) (by rw [len_hT]; omega)
theorem right_state {r j : Nat} (hr : r < 1000) (hj : j ≤ 20) : right (tm (hT j (rT r))) = true := by
 obtain ⟨h1, h2⟩ := rT_ok hr
 exact right_tm ⟨ok_mono (ok_hT j 3 (rT r) h1) (by omega), by rw [len_hT]; omega⟩
theorem right_sign {i : Nat} (hi : i < 1000) : right (tm (sT i)) = true := right_tm (wf_of (sT_ok hi) (by omega) (by omega))
def blT (i e r j : Nat) (pa ct : Bs) : Bl := ⟨(e : Int), tm (sealT r j pa ct), tm (sigT i e r j pa ct)⟩
theorem build_tm {i e r j : Nat} (hi : i < 1000) (he : e ≤ 7) (hr : r < 1000) (hj : j ≤ 7) {pa ct : ByteArray} (hp : (splitF pa).2.2 = 0) (hc : ct.size ≤ 64) :
  buildF (tm (hT j (rT r))) (e : Int) (tm (sT i)) pa ct = (blT i e r j (bytes pa) (bytes ct), 0) := by
 have hps := split_size hp
 have hp' : (bytes pa).length ≤ 300 := by rw [bytes_length]; omega
 have hc' : (bytes ct).length ≤ 64 := by rw [bytes_length]; exact hc
 have w1 := wf_of (sealT_ok hr hj hp' hc') (by omega) (by omega)
 have w2 := wf_of (msgT_ok (e := e) (by omega) hr hj hp' hc') (by omega) (by omega)
 have w3 := wf_of (sigT_ok (i := i) (e := e) hi (by omega) hr hj hp' hc') (by omega) (by omega)
 unfold buildF buildOk epochB
 rw [right_state hr (by omega), right_sign hi, hp, if_pos (by simp; omega), if_pos hc, key_state hr (by omega), (bodyF_tm (pa := pa) (ct := ct) (by omega) hc).1]
 have s1 : sealF (tm (kT r j)) (tm (bodyT (bytes pa) (bytes ct))) = (tm (sealT r j (bytes pa) (bytes ct)), 0) := seal_tm w1
 have s2 : signedF (e : Int) (tm (sealT r j (bytes pa) (bytes ct))) = (tm (msgT e r j (bytes pa) (bytes ct)), 0) := signed_tm w2
 have s3 : signF (tm (sT i)) (tm (msgT e r j (bytes pa) (bytes ct))) = (tm (sigT i e r j (bytes pa) (bytes ct)), 0) := sign_tm w3
 unfold builtF
 simp only [s1, s2, s3, if_true]
 rfl
theorem build_bad {st sg pa ct : ByteArray} {e : Int} (h : buildOk st e sg pa = false) : buildF st e sg pa ct = (noBl, 1) := by
 unfold buildF; rw [h, if_neg (by simp)]
theorem rightBl_tm {i e r j : Nat} (hi : i < 1000) (e' : Nat) (he : e' ≤ 7) (hee : e < 1000) (hr : r < 1000) (hj : j ≤ 7) {pa ct : Bs} (hp : pa.length ≤ 300) (hc : ct.length ≤ 64) :
  rightBl ⟨(e' : Int), tm (sealT r j pa ct), tm (sigT i e r j pa ct)⟩ = true := by
 have w1 := wf_of (sealT_ok hr hj hp hc) (by omega) (by omega)
 have w3 := wf_of (sigT_ok (i := i) (e := e) hi hee hr hj hp hc) (by omega) (by omega)
 unfold rightBl epochB
 rw [kind_tm w1, kind_tm w3]
 simp [sealT, sigT, T.code, K2.code]
 omega
def pubs (n : Nat) : List ByteArray := (List.range n).map fun i => tm (.one .u (sT i))
theorem pubs_len (n : Nat) : (pubs n).length = n := by simp [pubs]
theorem pubs_getD {n k : Nat} (h : k < n) : (pubs n).getD k ⟨#[]⟩ = tm (.one .u (sT k)) := by
 rw [List.getD_eq_getElem?_getD]; simp [pubs, h]
theorem pub_ok {i : Nat} (hi : i < 1000) : Wf (.one .u (sT i)) := by
 obtain ⟨h1, h2⟩ := sT_ok hi
 exact ⟨ok_mono (d := 4) h1 (by omega), by simp only [enc, List.length_cons]; omega⟩
theorem opened_tm {i e e' i' r j m n : Nat} (hi : i < 1000) (hi' : i' < 1000) (he : e ≤ 7) (he' : e' ≤ 7) (hr : r < 1000) (hj : j ≤ 7) (hmn : m + n ≤ 20) {pa ct : Bs} {pa' : ByteArray} (hp : pa.length ≤ 300) (hc : ct.length ≤ 64) :
  openedF ⟨(e' : Int), tm (sealT r j pa ct), tm (sigT i e r j pa ct)⟩ (tm (.one .u (sT i'))) (tm (hT m (rT r))) (n : Int) pa' = if e = e' ∧ i = i' ∧ m + n = j ∧ ofBytes pa = pa' then some (ofBytes ct) else none := by
 have w1 := wf_of (sealT_ok hr hj hp hc) (by omega) (by omega)
 have w2 := wf_of (msgT_ok (e := e') (by omega) hr hj hp hc) (by omega) (by omega)
 have w3 := wf_of (sigT_ok (i := i) (e := e) hi (by omega) hr hj hp hc) (by omega) (by omega)
 have s2 : signedF (e' : Int) (tm (sealT r j pa ct)) = (tm (msgT e' r j pa ct), 0) := signed_tm w2
 have hv : verifyF (tm (.one .u (sT i'))) (tm (msgT e' r j pa ct)) (tm (sigT i e r j pa ct)) = _ := verify_tm (pub_ok hi') w2 w3
 have hin : insideF (tm (kT r (m + n))) (tm (sealT r j pa ct)) pa' = if tm (kT r j) = tm (kT r (m + n)) ∧ ofBytes pa = pa' ∧ ct.length ≤ 64 then some (ofBytes ct) else none := by
  unfold insideF
  rw [term_tm w1]
  rfl
 unfold openedF
 by_cases h1 : sigT i e r j pa ct = .two .g (sT i') (msgT e' r j pa ct)
 ·have h1' := h1
  unfold sigT msgT at h1'
  simp only [T.two.injEq, T.atom.injEq, true_and, and_true] at h1'
  have hii := sT_inj hi hi' h1'.1
  rw [if_pos h1] at hv
  simp only [s2, hv, back_state hr hmn, key_state hr hmn, and_self, if_true, hin]
  by_cases h2 : m + n = j
  ·by_cases h3 : ofBytes pa = pa'
   ·rw [if_pos ⟨by rw [h2], h3, hc⟩, if_pos ⟨h1'.2, hii, h2, h3⟩]
   ·rw [if_neg (fun h => h3 h.2.1), if_neg (fun h => h3 h.2.2.2)]
  ·rw [if_neg (fun h => ?_), if_neg (fun h => h2 h.2.2.1)]
   have hk : Wf (kT r (m + n)) := by
    obtain ⟨g1, g2⟩ := rT_ok hr
    have g3 := ok_hT (m + n) 3 (rT r) g1
    have g4 := len_hT (m + n) (rT r)
    have g5 : (bytes keyB).length = 3 := keyB_len
    have g6 := putT_len (l := bytes keyB) (by omega)
    refine ⟨ok_mono (d := 3 + (m + n) + 2) ⟨by rw [show 3 + (m + n) = (2 + (m + n)) + 1 from by omega]; exact (show (bytes keyB).length ≤ 4000 by omega), g3, fun e => by simp at e⟩ (by omega), ?_⟩
    simp only [kT, keyT, enc, List.length_cons, List.length_append]; omega
   exact h2 (kT_inj (tm_inj (wf_left w1) hk h.1)).symm
 ·rw [if_neg h1] at hv
  simp only [s2, hv]
  rw [if_neg (fun h => by simp at h), if_neg]
  rintro ⟨rfl, rfl, h, h'⟩
  exact h1 rfl
theorem open_tm {i e e' i' r j m y : Nat} (hi : i < 1000) (hi' : i' < 1000) (he : e ≤ 7) (he' : e' ≤ 7) (hy : y ≤ 7) (hr : r < 1000) (hj : j ≤ 7) (hm : m ≤ 7) {pa ct : Bs} {pa' : ByteArray} (hp : pa.length ≤ 300) (hc : ct.length ≤ 64)
  {vs : List ByteArray} (hv : vs.length = y + 1) (hvi : vs.getD e' ⟨#[]⟩ = tm (.one .u (sT i'))) :
  openBl ⟨(e' : Int), tm (sealT r j pa ct), tm (sigT i e r j pa ct)⟩ vs (tm (hT m (rT r))) (y : Int) pa' = if e' ≤ y ∧ e = e' ∧ i = i' ∧ m + (y - e') = j ∧ ofBytes pa = pa' then (ofBytes ct, 0) else (⟨#[]⟩, 7) := by
 unfold openBl openOk epochB
 rw [rightBl_tm hi e' he' (by omega) hr hj hp hc, right_state hr (by omega), hv, if_pos (by simp; omega)]
 simp only [Int.toNat_natCast]
 by_cases h : e' ≤ y
 ·rw [if_neg (by omega), hvi, show ((y : Int) - (e' : Int)) = ((y - e' : Nat) : Int) from by omega, opened_tm hi hi' he he' hr hj (by omega) hp hc]
  by_cases h2 : e = e' ∧ i = i' ∧ m + (y - e') = j ∧ ofBytes pa = pa'
  ·rw [if_pos h2, if_pos ⟨h, h2⟩]
  ·rw [if_neg h2, if_neg (fun g => h2 g.2)]
 ·rw [if_pos (by omega), if_neg (fun g => h g.1)]
theorem take_num {n : Nat} (h : n < 18446744073709551616) : takeF (numB n) = ((n : Int), ⟨#[]⟩, 0) := by
 have := take_put (n := n) (r := []) h
 rw [List.append_nil] at this
 unfold takeF numB
 rw [bytes_ofBytes, this]
 rfl
theorem rightBl_inv {b : Bl} (h : rightBl b = true) : (0 ≤ b.e ∧ b.e ≤ 7) ∧ kindF b.s = 115 ∧ kindF b.g = 103 := by
 unfold rightBl epochB at h
 simpa using h
theorem three_of {l : List ByteArray} (h : l.length = 3) : ∃ x y z, l = [x, y, z] := by
 match l, h with
 | [x, y, z], _ => exact ⟨x, y, z, rfl⟩
end Go.Proofs.YtlhoahbpklhpmaaGreatDoor.Ref
end
section

namespace Go.Proofs.YtlhoahbpklhpmaaGreatDoor
open Go.RowKit Go.Proofs.YtlhoahbpklhpmaaGreatDoorW.PrintWords Go.Proofs.YtlhoahbpklhpmaaGreatDoorW.PrintLast Go.Proofs.YtlhoahbpklhpmaaGreatDoor.Ref
set_option linter.unusedVariables false
set_option linter.unusedSimpArgs false
theorem keep {B P : Nat} {w W : World} {o : Obj} (h : Moved (· = B) w W) (hP : w.heap[P]? = some o) (hn : P ≠ B) : W.heap[P]? = some o := by
 rw [h.block P (by rw [Array.getElem?_eq_some_iff] at hP; exact hP.1) hn]; exact hP
theorem blk_below {b : Nat} {w W : World} {o : Obj} (h : w.heap[b]? = some o) (hb : Below w.heap.size w W) : W.heap[b]? = some o := by
 rw [hb.block b (by rw [Array.getElem?_eq_some_iff] at h; exact h.1)]; exact h
def bd1.T0 : Bool × List (List Nat × List Nat) := (true, [([], []), ([0], [0]), ([1], [1]), ([1], [1]), ([2, 3, 1], [2, 3]), ([], []), ([5, 4], [5]), ([6], [6]), ([6], [6]), ([7, 8, 6], [7, 8]), ([4, 9, 9], [4, 9]), ([10], [10]), ([10], [10]), ([11, 12, 10], [11, 12]), ([13, 13, 0, 1, 2, 3, 4, 5, 6, 7, 8, 9, 10, 11, 12, 13], [13])])
def bd1.B0 : List Nat := [0, 1, 3, 3, 15, 0, 63, 127, 127, 511, 1023, 2047, 2047, 8191, 16383]
theorem bd1.tab0 : rtab .any (opsOf Tryz.f35 0) = bd1.T0 := by kernel_rfl
theorem bd1.bits0 : waitsOk bd1.T0.2 bd1.B0 = true := by kernel_rfl
def bd1.T2 : Bool × List (List Nat × List Nat) := (true, [([], []), ([], []), ([], []), ([2], [2]), ([1, 3], [1, 3]), ([0, 4, 4], [0, 4]), ([5], [5]), ([5], [5]), ([6, 7, 5], [6, 7]), ([0, 1, 2, 3, 4, 5, 6, 7, 8], []), ([9, 8, 8, 0, 1, 2, 3, 4, 5, 6, 7, 8], [8, 9])])
def bd1.B2 : List Nat := [0, 0, 0, 4, 14, 31, 63, 63, 255, 511, 1023]
theorem bd1.tab2 : rtab .any (opsOf Tryz.f35 2) = bd1.T2 := by kernel_rfl
theorem bd1.bits2 : waitsOk bd1.T2.2 bd1.B2 = true := by kernel_rfl
def B1Post (w : World) (B : Nat) (e0 : Int) (R : Bl × Int) (e : Ending) (w' : World) : Prop :=
 (R.2 = 0 ∧ e = .returned (.tuple #[]) ∨ R.2 ≠ 0 ∧ e = .panicked (failed R.2)) ∧ (R.2 = 0 → w'.heap[B]? = some (.cells #[.int .i64 e0, .string R.1.s, .string R.1.g] 37 (0, 0))) ∧ Moved (· = B) w w'
abbrev Tells (fn : FuncId) (args : Array Value) (r : ByteArray × Int) : Prop := ∀ W : World, Calls Tryz.prog fn args W fun e w' => e = .returned (.tuple #[.string r.1, .int .i64 r.2]) ∧ Below W.heap.size W w'
set_option maxRecDepth 100000 in
set_option maxHeartbeats 2000000 in
theorem build1_walk {P C St B G Ep : Nat} {pa ct st sg tp tc bp : ByteArray} {e0 : Int} {Ky Se M X : ByteArray × Int} {R : Bl × Int} (w : World)
  (hP : w.heap[P]? = some (.cells #[.string pa] 9 (0, 0))) (hC : w.heap[C]? = some (.cells #[.string ct] 9 (0, 0))) (hS : w.heap[St]? = some (.cells #[.string st] 9 (0, 0)))
  (hB : w.heap[B]? = some (.cells #[.int .i64 e0, .string ⟨#[]⟩, .string ⟨#[]⟩] 37 (0, 0))) (hG : w.heap[G]? = some (.cells #[.string sg] 9 (0, 0))) (hE : w.heap[Ep]? = some (.cells #[.int .i64 e0] 3 (0, 0)))
  (nP : P ≠ B) (nC : C ≠ B) (nS : St ≠ B) (nG : G ≠ B) (nE : Ep ≠ B)
  (hT1 : Tells 38 #[.string pa] (tp, 0)) (hT2 : Tells 38 #[.string ct] (tc, 0)) (hPR : Tells 37 #[.string tp, .string tc] (bp, 0))
  (hKy : Tells 39 #[.string st] Ky) (hSe : Tells 10 #[.string Ky.1, .string bp] Se)
  (hSO : ∀ W : World, M.2 = 0 → Calls Tryz.prog 40 #[.int .i64 e0, .string Se.1] W fun e w' => e = .returned (.string M.1) ∧ Below W.heap.size W w')
  (hSE : ∀ W : World, M.2 ≠ 0 → Calls Tryz.prog 40 #[.int .i64 e0, .string Se.1] W fun e w' => e = .panicked (failed M.2) ∧ Below W.heap.size W w')
  (hSG : Tells 11 #[.string sg, .string M.1] X)
  (hR : R = if Ky.2 = 0 then (if Se.2 = 0 then (if M.2 = 0 then (if X.2 = 0 then (⟨e0, Se.1, X.1⟩, 0) else (noBl, X.2)) else (noBl, M.2)) else (noBl, Se.2)) else (noBl, Ky.2)) :
  Calls Tryz.prog 35 #[.pointer (some ⟨P, 0, none⟩), .pointer (some ⟨C, 0, none⟩), .pointer (some ⟨St, 0, none⟩), .pointer (some ⟨B, 0, none⟩), .pointer (some ⟨G, 0, none⟩), .pointer (some ⟨Ep, 0, none⟩)] w (B1Post w B e0 R) := by
 have HP := Lib.hid hP
 have HC := Lib.hid hC
 have HS := Lib.hid hS
 have HB := Lib.hid hB
 have HG := Lib.hid hG
 have HE := Lib.hid hE
 have HT1 := Lib.hid hT1
 have HT2 := Lib.hid hT2
 have HPR := Lib.hid hPR
 have HKy := Lib.hid hKy
 have HSe := Lib.hid hSe
 have HSO := Lib.hid hSO
 have HSE := Lib.hid hSE
 have HSG := Lib.hid hSG
 have HR := Lib.hid hR
 have HM := Lib.hid (Moved.refl (· = B) w)
 clear hP hC hS hB hG hE hT1 hT2 hPR hKy hSe hSO hSE hSG hR
 go_enter Tryz.func35, Tryz.ntmps35
 go_wp2_with fail
 have hb : Below w.heap.size w w.drew := below_drew (Below.refl _ _)
 replace HB := Lib.hid (blk_below HB.out hb)
 replace HM := Lib.hid (HM.out.trans (Moved.of_below hb))
 clear hb
 refine start_ (n := 15) (S := fun w' => w'.cell? ⟨P, 0, none⟩ = some (.string pa) ∧ w'.cell? ⟨C, 0, none⟩ = some (.string ct)) (ds := []) #[false, false, false, false, false, false, false, false, false, false, false, false, false, false, false] (by kernel_rfl) rfl rfl ⟨(cell_of_blk (keep HM.out HP.out nP) rfl), (cell_of_blk (keep HM.out HC.out nC) rfl)⟩ (fun hHeld => ?_)
 refine with_tabW bd1.tab0 bd1.bits0 (fun HT_ HW_ => ?_)
 refine take_ (i := 0) (N := some 7) (v := ?_) (a' := ?_) #[true, false, false, false, false, false, false, false, false, false, false, false, false, false, false] rfl rfl (take_ofW HT_.out HW_.out (by kernel_rfl)) (fun _ _ _ h => h) (Or.inl ⟨by rfl, ?_⟩) hHeld ?_ ?_
 rotate_left
 ·rintro w' ⟨s0, s1⟩
  go_simp
  with_reducible rfl
 rotate_left
 ·simp only [Act.put, List.setIfInBounds_toArray, List.set_cons_zero, List.set_cons_succ, i64_w, i32_w]
  rfl
 refine take_ (i := 5) (N := some 12) (v := ?_) (a' := ?_) #[true, false, false, false, false, true, false, false, false, false, false, false, false, false, false] rfl rfl (take_ofW HT_.out HW_.out (by kernel_rfl)) (fun _ _ _ h => h) (Or.inl ⟨by rfl, ?_⟩) hHeld ?_ ?_
 rotate_left
 ·rintro w' ⟨s0, s1⟩
  go_simp
  with_reducible rfl
 rotate_left
 ·simp only [Act.put, List.setIfInBounds_toArray, List.set_cons_zero, List.set_cons_succ, i64_w, i32_w]
  rfl
 refine one_ (i := 1) (N := some 8) #[true, true, false, false, false, true, false, false, false, false, false, false, false, false, false] rfl rfl (one_of HT_.out (by kernel_rfl)) (by decide) (fun K hK => ?_)
 refine goes_ Tryz.func38 (by kernel_rfl) rfl #[.string pa] (by rfl) rfl rfl (by simp only [List.map_toArray, List.map_cons, List.map_nil]; rfl) ?_
 with_reducible refine (HT1.out _).mono ?_
 rintro e w1 ⟨rfl, hb⟩
 refine ⟨_, rfl, ?_⟩
 replace HB := Lib.hid (blk_below HB.out hb)
 replace HM := Lib.hid (HM.out.trans (Moved.of_below hb))
 clear hb
 refine hK.out _ _ ⟨(cell_of_blk (keep HM.out HP.out nP) rfl), (cell_of_blk (keep HM.out HC.out nC) rfl)⟩ (fun hHeld => ?_)
 clear hK K
 refine norm_ (a' := ?_) ?_ ?_
 rotate_left
 ·show Act.put _ (some 8) _ = _
  simp only [Act.put, List.setIfInBounds_toArray, List.set_cons_zero, List.set_cons_succ, i64_w, i32_w]
  rfl
 refine pure_ (i := 2) (N := some 9) (v := ?_) (a' := ?_) #[true, true, true, false, false, true, false, false, false, false, false, false, false, false, false] rfl rfl (any_of HT_.out (by kernel_rfl)) (fun _ _ _ h => h) (Or.inl ⟨by rfl, ?_⟩) ?_ ?_
 rotate_left
 ·intro w'
  go_simp
  with_reducible rfl
 rotate_left
 ·simp only [Act.put, List.setIfInBounds_toArray, List.set_cons_zero, List.set_cons_succ, i64_w, i32_w]
  rfl
 refine pure_ (i := 3) (N := some 10) (v := ?_) (a' := ?_) #[true, true, true, true, false, true, false, false, false, false, false, false, false, false, false] rfl rfl (any_of HT_.out (by kernel_rfl)) (fun _ _ _ h => h) (Or.inl ⟨by rfl, ?_⟩) ?_ ?_
 rotate_left
 ·intro w'
  go_simp
  with_reducible rfl
 rotate_left
 ·simp only [Act.put, List.setIfInBounds_toArray, List.set_cons_zero, List.set_cons_succ, i64_w, i32_w]
  rfl
 refine one_ (i := 4) (N := some 11) #[true, true, true, true, true, true, false, false, false, false, false, false, false, false, false] rfl rfl (one_of HT_.out (by kernel_rfl)) (by decide) (fun K hK => ?_)
 refine goes_ Tryz.func36 (by kernel_rfl) rfl #[.string tp, .int .i64 0] (by rfl) rfl rfl (by simp only [List.map_toArray, List.map_cons, List.map_nil]; rfl) ?_
 with_reducible refine (must_ok _ _).mono ?_
 rintro e w2 ⟨rfl, rfl⟩
 refine ⟨_, rfl, ?_⟩
 refine hK.out _ _ ⟨(cell_of_blk (keep HM.out HP.out nP) rfl), (cell_of_blk (keep HM.out HC.out nC) rfl)⟩ (fun hHeld => ?_)
 clear hK K
 refine norm_ (a' := ?_) ?_ ?_
 rotate_left
 ·show Act.put _ (some 11) _ = _
  simp only [Act.put, List.setIfInBounds_toArray, List.set_cons_zero, List.set_cons_succ, i64_w, i32_w]
  rfl
 refine one_ (i := 6) (N := some 13) #[true, true, true, true, true, true, true, false, false, false, false, false, false, false, false] rfl rfl (one_of HT_.out (by kernel_rfl)) (by decide) (fun K hK => ?_)
 refine goes_ Tryz.func38 (by kernel_rfl) rfl #[.string ct] (by rfl) rfl rfl (by simp only [List.map_toArray, List.map_cons, List.map_nil]; rfl) ?_
 with_reducible refine (HT2.out _).mono ?_
 rintro e w3 ⟨rfl, hb⟩
 refine ⟨_, rfl, ?_⟩
 replace HB := Lib.hid (blk_below HB.out hb)
 replace HM := Lib.hid (HM.out.trans (Moved.of_below hb))
 clear hb
 refine hK.out _ _ ⟨(cell_of_blk (keep HM.out HP.out nP) rfl), (cell_of_blk (keep HM.out HC.out nC) rfl)⟩ (fun hHeld => ?_)
 clear hK K
 refine norm_ (a' := ?_) ?_ ?_
 rotate_left
 ·show Act.put _ (some 13) _ = _
  simp only [Act.put, List.setIfInBounds_toArray, List.set_cons_zero, List.set_cons_succ, i64_w, i32_w]
  rfl
 refine pure_ (i := 7) (N := some 14) (v := ?_) (a' := ?_) #[true, true, true, true, true, true, true, true, false, false, false, false, false, false, false] rfl rfl (any_of HT_.out (by kernel_rfl)) (fun _ _ _ h => h) (Or.inl ⟨by rfl, ?_⟩) ?_ ?_
 rotate_left
 ·intro w'
  go_simp
  with_reducible rfl
 rotate_left
 ·simp only [Act.put, List.setIfInBounds_toArray, List.set_cons_zero, List.set_cons_succ, i64_w, i32_w]
  rfl
 refine pure_ (i := 8) (N := some 15) (v := ?_) (a' := ?_) #[true, true, true, true, true, true, true, true, true, false, false, false, false, false, false] rfl rfl (any_of HT_.out (by kernel_rfl)) (fun _ _ _ h => h) (Or.inl ⟨by rfl, ?_⟩) ?_ ?_
 rotate_left
 ·intro w'
  go_simp
  with_reducible rfl
 rotate_left
 ·simp only [Act.put, List.setIfInBounds_toArray, List.set_cons_zero, List.set_cons_succ, i64_w, i32_w]
  rfl
 refine one_ (i := 9) (N := some 16) #[true, true, true, true, true, true, true, true, true, true, false, false, false, false, false] rfl rfl (one_of HT_.out (by kernel_rfl)) (by decide) (fun K hK => ?_)
 refine goes_ Tryz.func36 (by kernel_rfl) rfl #[.string tc, .int .i64 0] (by rfl) rfl rfl (by simp only [List.map_toArray, List.map_cons, List.map_nil]; rfl) ?_
 with_reducible refine (must_ok _ _).mono ?_
 rintro e w4 ⟨rfl, rfl⟩
 refine ⟨_, rfl, ?_⟩
 refine hK.out _ _ ⟨(cell_of_blk (keep HM.out HP.out nP) rfl), (cell_of_blk (keep HM.out HC.out nC) rfl)⟩ (fun hHeld => ?_)
 clear hK K
 refine norm_ (a' := ?_) ?_ ?_
 rotate_left
 ·show Act.put _ (some 16) _ = _
  simp only [Act.put, List.setIfInBounds_toArray, List.set_cons_zero, List.set_cons_succ, i64_w, i32_w]
  rfl
 refine one_ (i := 10) (N := some 17) #[true, true, true, true, true, true, true, true, true, true, true, false, false, false, false] rfl rfl (one_of HT_.out (by kernel_rfl)) (by decide) (fun K hK => ?_)
 refine goes_ Tryz.func37 (by kernel_rfl) rfl #[.string tp, .string tc] (by rfl) rfl rfl (by simp only [List.map_toArray, List.map_cons, List.map_nil]; rfl) ?_
 with_reducible refine (HPR.out _).mono ?_
 rintro e w5 ⟨rfl, hb⟩
 refine ⟨_, rfl, ?_⟩
 replace HB := Lib.hid (blk_below HB.out hb)
 replace HM := Lib.hid (HM.out.trans (Moved.of_below hb))
 clear hb
 refine hK.out _ _ ⟨(cell_of_blk (keep HM.out HP.out nP) rfl), (cell_of_blk (keep HM.out HC.out nC) rfl)⟩ (fun hHeld => ?_)
 clear hK K
 refine norm_ (a' := ?_) ?_ ?_
 rotate_left
 ·show Act.put _ (some 17) _ = _
  simp only [Act.put, List.setIfInBounds_toArray, List.set_cons_zero, List.set_cons_succ, i64_w, i32_w]
  rfl
 refine pure_ (i := 11) (N := some 18) (v := ?_) (a' := ?_) #[true, true, true, true, true, true, true, true, true, true, true, true, false, false, false] rfl rfl (any_of HT_.out (by kernel_rfl)) (fun _ _ _ h => h) (Or.inl ⟨by rfl, ?_⟩) ?_ ?_
 rotate_left
 ·intro w'
  go_simp
  with_reducible rfl
 rotate_left
 ·simp only [Act.put, List.setIfInBounds_toArray, List.set_cons_zero, List.set_cons_succ, i64_w, i32_w]
  rfl
 refine pure_ (i := 12) (N := some 19) (v := ?_) (a' := ?_) #[true, true, true, true, true, true, true, true, true, true, true, true, true, false, false] rfl rfl (any_of HT_.out (by kernel_rfl)) (fun _ _ _ h => h) (Or.inl ⟨by rfl, ?_⟩) ?_ ?_
 rotate_left
 ·intro w'
  go_simp
  with_reducible rfl
 rotate_left
 ·simp only [Act.put, List.setIfInBounds_toArray, List.set_cons_zero, List.set_cons_succ, i64_w, i32_w]
  rfl
 refine one_ (i := 13) (N := some 20) #[true, true, true, true, true, true, true, true, true, true, true, true, true, true, false] rfl rfl (one_of HT_.out (by kernel_rfl)) (by decide) (fun K hK => ?_)
 refine goes_ Tryz.func36 (by kernel_rfl) rfl #[.string bp, .int .i64 0] (by rfl) rfl rfl (by simp only [List.map_toArray, List.map_cons, List.map_nil]; rfl) ?_
 with_reducible refine (must_ok _ _).mono ?_
 rintro e w6 ⟨rfl, rfl⟩
 refine ⟨_, rfl, ?_⟩
 refine hK.out _ _ ⟨(cell_of_blk (keep HM.out HP.out nP) rfl), (cell_of_blk (keep HM.out HC.out nC) rfl)⟩ (fun hHeld => ?_)
 clear hK K
 refine norm_ (a' := ?_) ?_ ?_
 rotate_left
 ·show Act.put _ (some 20) _ = _
  simp only [Act.put, List.setIfInBounds_toArray, List.set_cons_zero, List.set_cons_succ, i64_w, i32_w]
  rfl
 refine pure_ (i := 14) (N := some 6) (v := ?_) (a' := ?_) #[true, true, true, true, true, true, true, true, true, true, true, true, true, true, true] rfl rfl (any_of HT_.out (by kernel_rfl)) (fun _ _ _ h => h) (Or.inl ⟨by rfl, ?_⟩) ?_ ?_
 rotate_left
 ·intro w'
  go_simp
  with_reducible rfl
 rotate_left
 ·simp only [Act.put, List.setIfInBounds_toArray, List.set_cons_zero, List.set_cons_succ, i64_w, i32_w]
  rfl
 refine done_ (done_of HT_.out (by kernel_rfl)) ?_
 clear HT1 HT2 HPR HP HC
 have c0 : w6.cell? ⟨St, 0, none⟩ = some (.string st) := cell_of_blk (keep HM.out HS.out nS) rfl
 clear HT_
 go_wp2_with fail
 refine (HKy.out _).mono ?_
 rintro e w7 ⟨rfl, hb⟩
 replace HB := Lib.hid (blk_below HB.out hb)
 replace HM := Lib.hid (HM.out.trans (Moved.of_below hb))
 clear hb
 by_cases qK : Ky.2 = 0
 rotate_left
 ·go_wp2_with fail
  refine (must_err _ _ qK _).mono ?_
  rintro e v1 ⟨rfl, rfl⟩
  obtain rfl : R = (noBl, Ky.2) := by rw [HR.out, if_neg qK]
  go_wp2
  exact ⟨rfl, Or.inr ⟨qK, rfl⟩, fun h => absurd h qK, HM.out⟩
 go_wp2_with fail
 try rw [qK]
 refine (must_ok _ _).mono ?_
 rintro e v1 ⟨rfl, rfl⟩
 clear c0 HKy
 go_wp2_with fail
 refine (HSe.out _).mono ?_
 rintro e w8 ⟨rfl, hb⟩
 replace HB := Lib.hid (blk_below HB.out hb)
 replace HM := Lib.hid (HM.out.trans (Moved.of_below hb))
 clear hb
 by_cases qL : Se.2 = 0
 rotate_left
 ·go_wp2_with fail
  refine (must_err _ _ qL _).mono ?_
  rintro e v2 ⟨rfl, rfl⟩
  obtain rfl : R = (noBl, Se.2) := by rw [HR.out, if_pos qK, if_neg qL]
  go_wp2
  exact ⟨rfl, Or.inr ⟨qL, rfl⟩, fun h => absurd h qL, HM.out⟩
 go_wp2_with fail
 try rw [qL]
 refine (must_ok _ _).mono ?_
 rintro e v2 ⟨rfl, rfl⟩
 have c1 := cell_of_blk (j := 1) (v := .string ⟨#[]⟩) HB.out rfl
 have z1 := free_of_blk (j := 1) HB.out
 obtain ⟨L1, hL1⟩ : ∃ L1, Se.1 = L1 := ⟨_, rfl⟩
 rw [hL1] at HSO HSE ⊢
 have HL1 := Lib.hid hL1
 clear hL1 HSe
 go_wp2_with fail
 clear c1 z1
 replace HM := Lib.hid (HM.out.trans (Moved.setCell (S := (· = B)) v2 (a := ⟨B, 1, none⟩) rfl (.string L1)))
 replace HB := Lib.hid (blk_setCell (j := 1) (u := .string L1) HB.out)
 generalize v2.setCell ⟨B, 1, none⟩ (.string L1) = V at HM HB ⊢
 have hb : Below V.heap.size V V.drew := below_drew (Below.refl _ _)
 replace HB := Lib.hid (blk_below HB.out hb)
 replace HM := Lib.hid (HM.out.trans (Moved.of_below hb))
 clear hb
 refine start_ (n := 11) (S := fun w' => w'.cell? ⟨G, 0, none⟩ = some (.string sg) ∧ w'.cell? ⟨Ep, 0, none⟩ = some (.int .i64 e0) ∧ w'.cell? ⟨B, 1, none⟩ = some (.string L1)) (ds := [10]) #[false, false, false, false, false, false, false, false, false, false, false] (by kernel_rfl) rfl rfl ⟨(cell_of_blk (keep HM.out HG.out nG) rfl), (cell_of_blk (keep HM.out HE.out nE) rfl), (cell_of_blk HB.out rfl)⟩ (fun hHeld => ?_)
 refine with_tabW bd1.tab2 bd1.bits2 (fun HT_ HW_ => ?_)
 refine pure_ (i := 2) (N := some 34) (v := ?_) (a' := ?_) #[false, false, true, false, false, false, false, false, false, false, false] rfl rfl (any_of HT_.out (by kernel_rfl)) (fun _ _ _ h => h) (Or.inl ⟨by rfl, ?_⟩) ?_ ?_
 rotate_left
 ·intro w'
  go_simp
  with_reducible rfl
 rotate_left
 ·simp only [Act.put, List.setIfInBounds_toArray, List.set_cons_zero, List.set_cons_succ, i64_w, i32_w]
  rfl
 refine take_ (i := 0) (N := some 32) (v := ?_) (a' := ?_) #[true, false, true, false, false, false, false, false, false, false, false] rfl rfl (take_ofW HT_.out HW_.out (by kernel_rfl)) (fun _ _ _ h => h) (Or.inl ⟨by rfl, ?_⟩) hHeld ?_ ?_
 rotate_left
 ·rintro w' ⟨s0, s1, s2⟩
  go_simp
  with_reducible rfl
 rotate_left
 ·simp only [Act.put, List.setIfInBounds_toArray, List.set_cons_zero, List.set_cons_succ, i64_w, i32_w]
  rfl
 refine take_ (i := 1) (N := some 33) (v := ?_) (a' := ?_) #[true, true, true, false, false, false, false, false, false, false, false] rfl rfl (take_ofW HT_.out HW_.out (by kernel_rfl)) (fun _ _ _ h => h) (Or.inl ⟨by rfl, ?_⟩) hHeld ?_ ?_
 rotate_left
 ·rintro w' ⟨s0, s1, s2⟩
  go_simp
  with_reducible rfl
 rotate_left
 ·simp only [Act.put, List.setIfInBounds_toArray, List.set_cons_zero, List.set_cons_succ, i64_w, i32_w]
  rfl
 refine take_ (i := 3) (N := some 35) (v := ?_) (a' := ?_) #[true, true, true, true, false, false, false, false, false, false, false] rfl rfl (take_ofW HT_.out HW_.out (by kernel_rfl)) (fun _ _ _ h => h) (Or.inl ⟨by rfl, ?_⟩) hHeld ?_ ?_
 rotate_left
 ·rintro w' ⟨s0, s1, s2⟩
  go_simp
  with_reducible rfl
 rotate_left
 ·simp only [Act.put, List.setIfInBounds_toArray, List.set_cons_zero, List.set_cons_succ, i64_w, i32_w]
  rfl
 refine one_ (i := 4) (N := some 36) #[true, true, true, true, true, false, false, false, false, false, false] rfl rfl (one_of HT_.out (by kernel_rfl)) (by decide) (fun K hK => ?_)
 by_cases qM : M.2 = 0
 rotate_left
 ·refine dies_ Tryz.func40 (by kernel_rfl) rfl #[.int .i64 e0, .string L1] (by rfl) rfl rfl (by simp only [List.map_toArray, List.map_cons, List.map_nil]; rfl) ?_
  with_reducible refine (HSE.out _ qM).mono ?_
  rintro e w9 ⟨rfl, hb⟩
  refine ⟨_, rfl, ?_⟩
  replace HM := Lib.hid (HM.out.trans (Moved.of_below hb))
  obtain rfl : R = (noBl, M.2) := by rw [HR.out, if_pos qK, if_pos qL, if_neg qM]
  refine ⟨rfl, Or.inr ⟨qM, rfl⟩, fun h => absurd h qM, HM.out⟩
 refine goes_ Tryz.func40 (by kernel_rfl) rfl #[.int .i64 e0, .string L1] (by rfl) rfl rfl (by simp only [List.map_toArray, List.map_cons, List.map_nil]; rfl) ?_
 with_reducible refine (HSO.out _ qM).mono ?_
 rintro e w10 ⟨rfl, hb⟩
 refine ⟨_, rfl, ?_⟩
 replace HB := Lib.hid (blk_below HB.out hb)
 replace HM := Lib.hid (HM.out.trans (Moved.of_below hb))
 clear hb
 refine hK.out _ _ ⟨(cell_of_blk (keep HM.out HG.out nG) rfl), (cell_of_blk (keep HM.out HE.out nE) rfl), (cell_of_blk HB.out rfl)⟩ (fun hHeld => ?_)
 clear hK K
 refine norm_ (a' := ?_) ?_ ?_
 rotate_left
 ·show Act.put _ (some 36) _ = _
  simp only [Act.put, List.setIfInBounds_toArray, List.set_cons_zero, List.set_cons_succ, i64_w, i32_w]
  rfl
 refine one_ (i := 5) (N := some 37) #[true, true, true, true, true, true, false, false, false, false, false] rfl rfl (one_of HT_.out (by kernel_rfl)) (by decide) (fun K hK => ?_)
 refine goes_ Tryz.func11 (by kernel_rfl) rfl #[.string sg, .string M.1] (by rfl) rfl rfl (by simp only [List.map_toArray, List.map_cons, List.map_nil]; rfl) ?_
 with_reducible refine (HSG.out _).mono ?_
 rintro e w11 ⟨rfl, hb⟩
 refine ⟨_, rfl, ?_⟩
 replace HB := Lib.hid (blk_below HB.out hb)
 replace HM := Lib.hid (HM.out.trans (Moved.of_below hb))
 clear hb
 refine hK.out _ _ ⟨(cell_of_blk (keep HM.out HG.out nG) rfl), (cell_of_blk (keep HM.out HE.out nE) rfl), (cell_of_blk HB.out rfl)⟩ (fun hHeld => ?_)
 clear hK K
 refine norm_ (a' := ?_) ?_ ?_
 rotate_left
 ·show Act.put _ (some 37) _ = _
  simp only [Act.put, List.setIfInBounds_toArray, List.set_cons_zero, List.set_cons_succ, i64_w, i32_w]
  rfl
 refine pure_ (i := 6) (N := some 38) (v := ?_) (a' := ?_) #[true, true, true, true, true, true, true, false, false, false, false] rfl rfl (any_of HT_.out (by kernel_rfl)) (fun _ _ _ h => h) (Or.inl ⟨by rfl, ?_⟩) ?_ ?_
 rotate_left
 ·intro w'
  go_simp
  with_reducible rfl
 rotate_left
 ·simp only [Act.put, List.setIfInBounds_toArray, List.set_cons_zero, List.set_cons_succ, i64_w, i32_w]
  rfl
 refine pure_ (i := 7) (N := some 39) (v := ?_) (a' := ?_) #[true, true, true, true, true, true, true, true, false, false, false] rfl rfl (any_of HT_.out (by kernel_rfl)) (fun _ _ _ h => h) (Or.inl ⟨by rfl, ?_⟩) ?_ ?_
 rotate_left
 ·intro w'
  go_simp
  with_reducible rfl
 rotate_left
 ·simp only [Act.put, List.setIfInBounds_toArray, List.set_cons_zero, List.set_cons_succ, i64_w, i32_w]
  rfl
 refine one_ (i := 8) (N := some 40) #[true, true, true, true, true, true, true, true, true, false, false] rfl rfl (one_of HT_.out (by kernel_rfl)) (by decide) (fun K hK => ?_)
 by_cases qN : X.2 = 0
 rotate_left
 ·refine dies_ Tryz.func36 (by kernel_rfl) rfl #[.string X.1, .int .i64 X.2] (by rfl) rfl rfl (by simp only [List.map_toArray, List.map_cons, List.map_nil]; rfl) ?_
  with_reducible refine (must_err _ _ qN _).mono ?_
  rintro e w9 ⟨rfl, rfl⟩
  refine ⟨_, rfl, ?_⟩
  obtain rfl : R = (noBl, X.2) := by rw [HR.out, if_pos qK, if_pos qL, if_pos qM, if_neg qN]
  refine ⟨rfl, Or.inr ⟨qN, rfl⟩, fun h => absurd h qN, HM.out⟩
 try rw [qN]
 refine goes_ Tryz.func36 (by kernel_rfl) rfl #[.string X.1, .int .i64 0] (by rfl) rfl rfl (by simp only [List.map_toArray, List.map_cons, List.map_nil]; rfl) ?_
 with_reducible refine (must_ok _ _).mono ?_
 rintro e w12 ⟨rfl, rfl⟩
 refine ⟨_, rfl, ?_⟩
 refine hK.out _ _ ⟨(cell_of_blk (keep HM.out HG.out nG) rfl), (cell_of_blk (keep HM.out HE.out nE) rfl), (cell_of_blk HB.out rfl)⟩ (fun hHeld => ?_)
 clear hK K
 refine norm_ (a' := ?_) ?_ ?_
 rotate_left
 ·show Act.put _ (some 40) _ = _
  simp only [Act.put, List.setIfInBounds_toArray, List.set_cons_zero, List.set_cons_succ, i64_w, i32_w]
  rfl
 refine pure_ (i := 9) (N := some 41) (v := ?_) (a' := ?_) #[true, true, true, true, true, true, true, true, true, true, false] rfl rfl (any_of HT_.out (by kernel_rfl)) (fun _ _ _ h => h) (Or.inl ⟨by rfl, ?_⟩) ?_ ?_
 rotate_left
 ·intro w'
  go_simp
  with_reducible rfl
 rotate_left
 ·simp only [Act.put, List.setIfInBounds_toArray, List.set_cons_zero, List.set_cons_succ, i64_w, i32_w]
  rfl
 refine last_ (i := 10) (N := none) #[true, true, true, true, true, true, true, true, true, true, true] rfl rfl (one_of HT_.out (by kernel_rfl)) (by decide) (fun K hK => ?_)
 have c2 := cell_of_blk (j := 2) (v := .string ⟨#[]⟩) HB.out rfl
 have z2 := free_of_blk (j := 2) HB.out
 refine skip_ (w1 := ?_) (by rfl) rfl ?_ ?_
 rotate_left
 ·go_simp
  rfl
 refine hK.out _ _ ?_
 clear hK K
 refine done_ (done_of HT_.out (by kernel_rfl)) ?_
 clear c2 z2
 replace HM := Lib.hid (HM.out.trans (Moved.setCell (S := (· = B)) w12 (a := ⟨B, 2, none⟩) rfl (.string X.1)))
 replace HB := Lib.hid (blk_setCell (j := 2) (u := .string X.1) HB.out)
 generalize w12.setCell ⟨B, 2, none⟩ (.string X.1) = V2 at HM HB ⊢
 obtain rfl : R = (⟨e0, L1, X.1⟩, 0) := by rw [HR.out, if_pos qK, if_pos qL, if_pos qM, if_pos qN, HL1.out]
 go_end0
 exact ⟨Or.inl ⟨rfl, rfl⟩, fun _ => HB.out, HM.out⟩
end Go.Proofs.YtlhoahbpklhpmaaGreatDoor
end
section

namespace Go.Proofs.YtlhoahbpklhpmaaGreatDoor.Der
open Go.RowKit Go.Proofs.YtlhoahbpklhpmaaGreatDoor Go.Proofs.YtlhoahbpklhpmaaGreatDoor.Ref Go.Proofs.YtlhoahbpklhpmaaGreatDoorW.PrintWords
set_option linter.unusedVariables false
theorem nc {S : List T} {t : T} (h : t ∉ S) : S.contains t = false := by
 cases hc : S.contains t with
 | false => rfl
 | true => exact absurd (List.contains_iff_mem.1 hc) h
theorem tog_in {S : List T} {t : T} (h : t ∈ S) : tog S t = true := by
 have h := List.contains_iff_mem.2 h
 cases t with
 | atom n => exact h
 | text n => rfl
 | one k a => simp only [tog]; rw [h, Bool.true_or]
 | two k a b => simp only [tog]; rw [h, Bool.true_or]
theorem tog_least {h C : List T} (hs : ∀ x ∈ h, x ∈ C) (hc : ClosedT C) {t : T} (ht : tog C t = false) : tog (hadL h) t = false := by
 cases e : tog (hadL h) t with
 | false => rfl
 | true => rw [tog_mono (hadL_least h C hs hc) t e] at ht; exact absurd ht (by simp)
theorem hT_s (i : Nat) (a : T) : hT (i + 1) a = .one .h (hT i a) := by
 induction i generalizing a with
 | zero => rfl
 | succ i ih => exact ih (.one .h a)
theorem tog_hT_false {S : List T} {r : T} (hr : tog S r = false) (j : Nat) (h : ∀ i, i ≤ j → hT i r ∉ S) : tog S (hT j r) = false := by
 induction j with
 | zero => exact hr
 | succ j ih =>
  have h1 := h (j + 1) (Nat.le_refl _)
  rw [hT_s] at h1 ⊢
  simp only [tog]
  rw [nc h1, ih (fun i hi => h i (by omega))]
  rfl
theorem tog_hT_true {S : List T} {r : T} (hr : tog S r = true) (j : Nat) : tog S (hT j r) = true := by
 induction j with
 | zero => exact hr
 | succ j ih =>
  rw [hT_s]
  simp only [tog]
  rw [ih, Bool.or_true]
theorem hT_add (a b : Nat) (t : T) : hT a (hT b t) = hT (b + a) t := by
 induction b generalizing t with
 | zero => rw [Nat.zero_add]; rfl
 | succ b ih => rw [show b + 1 + a = (b + a) + 1 from by omega]; exact ih _
def sealA (r j n : Nat) : T := .two .s (kT r j) (.atom n)
def sigA (i r j n : Nat) : T := .two .g (sT i) (sealA r j n)
section
variable {r x y n : Nat}
theorem hT_is (i r : Nat) : ∃ b, hT i (rT r) = .one .h b := by
 cases i with
 | zero => exact ⟨_, rfl⟩
 | succ i => exact ⟨_, hT_s i _⟩
theorem state_not {C : List T} {j : Nat} (h1 : ∀ u ∈ C, (∃ i, j < i ∧ u = hT i (rT r)) ∨ (∃ a b, u = .two .s a b) ∨ (∃ a b, u = .two .g a b)) : tog C (hT j (rT r)) = false := by
 have hn : ∀ i, i ≤ j → hT i (rT r) ∉ C := by
  intro i hi hm
  rcases h1 _ hm with ⟨k, hk, e⟩ | ⟨a, b, e⟩ | ⟨a, b, e⟩
  ·have := hT_len e; omega
  ·obtain ⟨c, hc⟩ := hT_is i r; rw [hc] at e; simp at e
  ·obtain ⟨c, hc⟩ := hT_is i r; rw [hc] at e; simp at e
 refine tog_hT_false ?_ j hn
 have h0 := hn 0 (Nat.zero_le _)
 have hp : ∀ s m, T.two .p (.text s) (.atom m) ∉ C := fun s m hm => by
  rcases h1 _ hm with ⟨k, hk, e⟩ | ⟨a, b, e⟩ | ⟨a, b, e⟩
  ·obtain ⟨c, hc⟩ := hT_is k r; rw [hc] at e; simp at e
  ·simp at e
  ·simp at e
 have ha : ∀ m, T.atom m ∉ C := fun m hm => by
  rcases h1 _ hm with ⟨k, hk, e⟩ | ⟨a, b, e⟩ | ⟨a, b, e⟩
  ·obtain ⟨c, hc⟩ := hT_is k r; rw [hc] at e; simp at e
  ·simp at e
  ·simp at e
 unfold hT rT rootT at h0
 unfold rT rootT
 simp only [tog]
 rw [nc h0, nc (hp _ _), nc (ha _)]
 rfl
theorem key_not {C : List T} {j : Nat} (hC : ∀ u ∈ C, (∃ i, j < i ∧ u = hT i (rT r)) ∨ (∃ a b, u = .two .s a b) ∨ (∃ a b, u = .two .g a b)) : tog C (kT r j) = false := by
 have h1 := state_not hC
 have hk : kT r j ∉ C := fun hm => by
  rcases hC _ hm with ⟨k, hk, e⟩ | ⟨a, b, e⟩ | ⟨a, b, e⟩
  ·cases k with
   | zero => omega
   | succ k =>
    rw [hT_s] at e
    obtain ⟨c, hc⟩ := hT_is k r
    rw [hc] at e
    simp [kT, keyT] at e
  ·simp [kT, keyT] at e
  ·simp [kT, keyT] at e
 have hp : T.two .p (.text (bytes keyB)) (hT j (rT r)) ∉ C := fun hm => by
  rcases hC _ hm with ⟨k, hk, e⟩ | ⟨a, b, e⟩ | ⟨a, b, e⟩
  ·obtain ⟨c, hc⟩ := hT_is k r; rw [hc] at e; simp at e
  ·simp at e
  ·simp at e
 unfold kT keyT at hk ⊢
 simp only [tog]
 rw [nc hk, nc hp, h1]
 rfl
theorem hides_no (hr : r < 1000) : tog (hadL [sealA r (7 - x) n, sigA x r (7 - x) n]) (.atom n) = false := by
 have hC : ∀ u ∈ [sealA r (7 - x) n, sigA x r (7 - x) n], (∃ i, 7 - x < i ∧ u = hT i (rT r)) ∨ (∃ a b, u = .two .s a b) ∨ (∃ a b, u = .two .g a b) := by
  intro u hu
  simp only [List.mem_cons, List.not_mem_nil, or_false] at hu
  rcases hu with rfl | rfl
  ·exact Or.inr (Or.inl ⟨_, _, rfl⟩)
  ·exact Or.inr (Or.inr ⟨_, _, rfl⟩)
 have hk := key_not hC
 refine tog_least (C := [sealA r (7 - x) n, sigA x r (7 - x) n]) (fun x hx => hx) ?_ ?_
 ·intro u hu z hz
  simp only [List.mem_cons, List.not_mem_nil, or_false] at hu
  rcases hu with rfl | rfl
  ·unfold sealA at hz
   simp only [gives] at hz
   unfold sealA at hk
   rw [hk] at hz
   simp at hz
  ·unfold sigA at hz
   simp only [gives, List.mem_singleton] at hz
   rw [hz]; simp
 ·refine nc (fun h => ?_)
  simp [sealA, sigA] at h
theorem hides_can (hx : x ≤ 7) (hy : y ≤ 7) : tog (hadL [sealA r (7 - x) n, sigA x r (7 - x) n, hT (7 - y) (rT r)]) (.atom n) = decide (x ≤ y) := by
 by_cases h : x ≤ y
 ·rw [decide_eq_true h]
  have hm : ∀ u ∈ [sealA r (7 - x) n, sigA x r (7 - x) n, hT (7 - y) (rT r)], u ∈ hadL [sealA r (7 - x) n, sigA x r (7 - x) n, hT (7 - y) (rT r)] := fun u hu => hadL_sup _ u hu
  have hcl := hadL_closed [sealA r (7 - x) n, sigA x r (7 - x) n, hT (7 - y) (rT r)]
  generalize hadL [sealA r (7 - x) n, sigA x r (7 - x) n, hT (7 - y) (rT r)] = D at *
  have hs : tog D (hT (7 - x) (rT r)) = true := by
   rw [show 7 - x = (7 - y) + (y - x) from by omega, ← hT_add]
   exact tog_hT_true (tog_in (hm _ (by simp))) _
  have hk : tog D (kT r (7 - x)) = true := by
   unfold kT keyT
   simp only [tog]
   rw [hs]
   simp
  refine tog_in (hcl _ (hm (sealA r (7 - x) n) (by simp)) _ ?_)
  unfold sealA
  simp only [gives]
  rw [if_pos hk]
  simp
 ·rw [decide_eq_false h]
  have hC : ∀ u ∈ [sealA r (7 - x) n, sigA x r (7 - x) n, hT (7 - y) (rT r)], (∃ i, 7 - x < i ∧ u = hT i (rT r)) ∨ (∃ a b, u = .two .s a b) ∨ (∃ a b, u = .two .g a b) := by
   intro u hu
   simp only [List.mem_cons, List.not_mem_nil, or_false] at hu
   rcases hu with rfl | rfl | rfl
   ·exact Or.inr (Or.inl ⟨_, _, rfl⟩)
   ·exact Or.inr (Or.inr ⟨_, _, rfl⟩)
   ·exact Or.inl ⟨7 - y, by omega, rfl⟩
  have hk := key_not hC
  refine tog_least (C := [sealA r (7 - x) n, sigA x r (7 - x) n, hT (7 - y) (rT r)]) (fun x hx => hx) ?_ ?_
  ·intro u hu z hz
   simp only [List.mem_cons, List.not_mem_nil, or_false] at hu
   rcases hu with rfl | rfl | rfl
   ·unfold sealA at hz
    simp only [gives] at hz
    unfold sealA at hk
    rw [hk] at hz
    simp at hz
   ·unfold sigA at hz
    simp only [gives, List.mem_singleton] at hz
    rw [hz]; simp
   ·obtain ⟨b, hb⟩ := hT_is (7 - y) r
    rw [hb] at hz
    simp [gives] at hz
  ·refine nc (fun hh => ?_)
   obtain ⟨b, hb⟩ := hT_is (7 - y) r
   rw [hb] at hh
   simp [sealA, sigA] at hh
theorem hides_made (hx : x ≤ 7) (hn : 1000 ≤ n) : tog (hadL [sealA r (7 - x) n, sigA x r (7 - x) n, hT (7 - y) (rT r), .atom 99]) (.two .g (sT x) (.atom 99)) = false := by
 have hst : ∃ b, hT (7 - y) (rT r) = .one .h b ∧ (T.one .h b) ≠ sT x := by
  cases h : 7 - y with
  | zero =>
   refine ⟨_, rfl, fun e => ?_⟩
   have e2 : rT r = sT x := e
   unfold rT sT rootT at e2
   simp only [T.one.injEq, T.two.injEq, T.text.injEq, true_and] at e2
   exact absurd e2.1 (by decide)
  | succ k =>
   obtain ⟨c, hc⟩ := hT_is k r
   refine ⟨hT k (rT r), hT_s k _, fun e => ?_⟩
   rw [hc] at e
   unfold sT rootT at e
   simp at e
 obtain ⟨b, hb, hne⟩ := hst
 rw [hb]
 refine tog_least (C := [sealA r (7 - x) n, sigA x r (7 - x) n, .one .h b, .atom 99, .atom n]) (fun u hu => ?_) ?_ ?_
 ·simp only [List.mem_cons, List.not_mem_nil, or_false] at hu ⊢
  rcases hu with h | h | h | h
  ·exact Or.inl h
  ·exact Or.inr (Or.inl h)
  ·exact Or.inr (Or.inr (Or.inl h))
  ·exact Or.inr (Or.inr (Or.inr (Or.inl h)))
 ·intro u hu z hz
  simp only [List.mem_cons, List.not_mem_nil, or_false] at hu
  rcases hu with rfl | rfl | rfl | rfl | rfl
  ·unfold sealA at hz
   simp only [gives] at hz
   split at hz
   ·rw [List.mem_singleton.1 hz]; simp
   ·simp at hz
  ·unfold sigA at hz
   simp only [gives, List.mem_singleton] at hz
   rw [hz]; simp
  ·simp [gives] at hz
  ·simp [gives] at hz
  ·simp [gives] at hz
 ·have h1 : T.two .g (sT x) (.atom 99) ∉ [sealA r (7 - x) n, sigA x r (7 - x) n, .one .h b, .atom 99, .atom n] := fun h => by simp [sealA, sigA] at h
  have h2 : sT x ∉ [sealA r (7 - x) n, sigA x r (7 - x) n, .one .h b, .atom 99, .atom n] := fun h => by
   simp only [List.mem_cons, List.not_mem_nil, or_false] at h
   rcases h with h | h | h | h | h
   ·simp [sealA, sT, rootT] at h
   ·simp [sigA, sT, rootT] at h
   ·exact hne h.symm
   ·simp [sT, rootT] at h
   ·simp [sT, rootT] at h
  have h3 : ∀ s, T.two .p (.text s) (.atom x) ∉ [sealA r (7 - x) n, sigA x r (7 - x) n, .one .h b, .atom 99, .atom n] := fun s h => by simp [sealA, sigA] at h
  have h4 : T.atom x ∉ [sealA r (7 - x) n, sigA x r (7 - x) n, .one .h b, .atom 99, .atom n] := fun h => by
   simp only [List.mem_cons, List.not_mem_nil, or_false] at h
   rcases h with h | h | h | h | h
   ·simp [sealA] at h
   ·simp [sigA] at h
   ·simp at h
   ·simp only [T.atom.injEq] at h; omega
   ·simp only [T.atom.injEq] at h; omega
  have h5 : tog [sealA r (7 - x) n, sigA x r (7 - x) n, .one .h b, .atom 99, .atom n] (sT x) = false := by
   unfold sT rootT at h2 ⊢
   simp only [tog]
   rw [nc h2, nc (h3 _), nc h4]
   rfl
  simp only [tog]
  rw [nc h1, h5]
  rfl
end
end Go.Proofs.YtlhoahbpklhpmaaGreatDoor.Der
end
