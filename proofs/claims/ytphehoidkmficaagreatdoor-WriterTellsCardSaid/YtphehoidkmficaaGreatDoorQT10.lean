/- Contracts and laws that the statement of LawDataTells,LawWriterTells leans on (packed from this claim's own texts): part 10. -/
import Derived.Test.YtphehoidkmficaaGreatDoorQT7
import Derived.Test.YtphehoidkmficaaGreatDoorQT9
section

namespace Go.Proofs.YtphehoidkmficaaGreatDoor.PA
open Go.RowKit Go.Proofs.YtphehoidkmficaaGreatDoorW.PrintWords Go.Proofs.YtphehoidkmficaaGreatDoorW.PrintLast Go.Proofs.YtphehoidkmficaaGreatDoorW.PrintMore
attribute [local go_sem] max2_int min2_int max_two min_two max_three min_three max_four min_four   -- for this text's walks alone
set_option linter.unusedVariables false
set_option linter.unusedSimpArgs false
def regress_Key.f (k : Nat) (a0 : ByteArray) : Option (ByteArray × Int) := (term_Kind.f a0).bind fun t178 => (if t178 = 0 then (some ((⟨#[]⟩ : ByteArray), 1)) else ((term_OfText.f k (⟨#[107, 101, 121]⟩ : ByteArray)).bind fun bt179 => ((term_OfPair.f bt179.1 a0).bind fun bt181 => (if bt181.2 = 0 then ((term_OfHash.f bt181.1).bind fun bt183 => (some (bt183.1, bt183.2))) else (some ((⟨#[]⟩ : ByteArray), bt181.2))))))
set_option maxHeartbeats 8000000 in
set_option maxRecDepth 100000 in
theorem regress_Key.calls (k : Nat) (a0 : ByteArray) (r1 : ByteArray) (r2 : Int) (w : World) (h : regress_Key.f k a0 = some (r1, r2)) :
  Calls Tryz.prog 53 #[.string a0] w fun e w' => e = .returned (.tuple #[.string r1, .int .i64 r2]) ∧ Below w.heap.size w w' := by
 have HB := Aside0.mk (Below.refl w.heap.size w)
 have H : ((term_Kind.f a0).bind fun t178 => (if t178 = 0 then (some ((⟨#[]⟩ : ByteArray), 1)) else ((term_OfText.f k (⟨#[107, 101, 121]⟩ : ByteArray)).bind fun bt179 => ((term_OfPair.f bt179.1 a0).bind fun bt181 => (if bt181.2 = 0 then ((term_OfHash.f bt181.1).bind fun bt183 => (some (bt183.1, bt183.2))) else (some ((⟨#[]⟩ : ByteArray), bt181.2))))))) = some (r1, r2) := h
 clear h
 replace H := Option.bind_eq_some_iff.mp H
 obtain ⟨t178, A20, H⟩ := H
 replace H : (if t178 = 0 then (some ((⟨#[]⟩ : ByteArray), 1)) else ((term_OfText.f k (⟨#[107, 101, 121]⟩ : ByteArray)).bind fun bt179 => ((term_OfPair.f bt179.1 a0).bind fun bt181 => (if bt181.2 = 0 then ((term_OfHash.f bt181.1).bind fun bt183 => (some (bt183.1, bt183.2))) else (some ((⟨#[]⟩ : ByteArray), bt181.2)))))) = some (r1, r2) := H
 have A2 := Aside0.mk A20
 clear A20
 by_cases c3 : t178 = 0
 ·rw [if_pos c3] at H
  have c3b0 : (t178 == 0) = true := beq_iff_eq.mpr c3
  have c3b1 : (t178 != 0) = false := bne_eq_false_iff_eq.mpr c3
  clear c3
  simp only [Option.some.injEq, Prod.mk.injEq] at H
  obtain ⟨rfl, rfl⟩ := H
  go_enter Tryz.func53, Tryz.ntmps53
  go_wp2_with (first | ((with_reducible refine gate_callee (f := 46) rfl ?_); refine goesL_ (some 9) rfl rfl Tryz.func46 (by kernel_rfl) rfl #[.string a0] rfl (by (try simp only [List.map_toArray, List.map_cons, List.map_nil]); first | done | rfl | (simp only [List.length_drop, List.length_take]; rfl)) ?_; (with_reducible refine (term_Kind.calls a0 t178 _ A2.out).mono ?_); rintro e w4 ⟨rfl, hb⟩; refine ⟨_, rfl, ?_⟩; have n0_ := Aside0.mk (below_step (by repeat (first | (with_reducible first | exact HB.out | apply below_alloc | apply pw_below_drewN | apply below_drew1) | exact HB.out)) hb); clear HB; have HB := n0_; clear n0_; (try clear hb); (try clear hb2); (try clear hk); (try clear hi)))
  go_ret2
  exact ⟨by first | rfl | (simp [errW_none, errW_some] <;> rfl) | (simp [*, errW_none, errW_some] <;> rfl), by repeat (first | (with_reducible first | exact HB.out | apply below_alloc | apply pw_below_drewN | apply below_drew1) | exact HB.out)⟩
 ·rw [if_neg c3] at H
  have c3b0 : (t178 == 0) = false := beq_eq_false_iff_ne.mpr c3
  have c3b1 : (t178 != 0) = true := bne_iff_ne.mpr c3
  replace H := Option.bind_eq_some_iff.mp H
  obtain ⟨⟨t179, t180⟩, A50, H⟩ := H
  replace H : ((term_OfPair.f t179 a0).bind fun bt181 => (if bt181.2 = 0 then ((term_OfHash.f bt181.1).bind fun bt183 => (some (bt183.1, bt183.2))) else (some ((⟨#[]⟩ : ByteArray), bt181.2)))) = some (r1, r2) := H
  have A5 := Aside0.mk A50
  clear A50
  replace H := Option.bind_eq_some_iff.mp H
  obtain ⟨⟨t181, t182⟩, A60, H⟩ := H
  replace H : (if t182 = 0 then ((term_OfHash.f t181).bind fun bt183 => (some (bt183.1, bt183.2))) else (some ((⟨#[]⟩ : ByteArray), t182))) = some (r1, r2) := H
  have A6 := Aside0.mk A60
  clear A60
  by_cases c7 : t182 = 0
  ·rw [if_pos c7] at H
   have c7b0 : (t182 == 0) = true := beq_iff_eq.mpr c7
   have c7b1 : (t182 != 0) = false := bne_eq_false_iff_eq.mpr c7
   clear c7
   replace H := Option.bind_eq_some_iff.mp H
   obtain ⟨⟨t183, t184⟩, A80, H⟩ := H
   replace H : (some (t183, t184)) = some (r1, r2) := H
   have A8 := Aside0.mk A80
   clear A80
   simp only [Option.some.injEq, Prod.mk.injEq] at H
   obtain ⟨rfl, rfl⟩ := H
   go_enter Tryz.func53, Tryz.ntmps53
   go_wp2_with (first | ((with_reducible refine gate_callee (f := 46) rfl ?_); refine goesL_ (some 9) rfl rfl Tryz.func46 (by kernel_rfl) rfl #[.string a0] rfl (by (try simp only [List.map_toArray, List.map_cons, List.map_nil]); first | done | rfl | (simp only [List.length_drop, List.length_take]; rfl)) ?_; (with_reducible refine (term_Kind.calls a0 t178 _ A2.out).mono ?_); rintro e w9 ⟨rfl, hb⟩; refine ⟨_, rfl, ?_⟩; have n0_ := Aside0.mk (below_step (by repeat (first | (with_reducible first | exact HB.out | apply below_alloc | apply pw_below_drewN | apply below_drew1) | exact HB.out)) hb); clear HB; have HB := n0_; clear n0_; (try clear hb); (try clear hb2); (try clear hk); (try clear hi)) | ((with_reducible refine gate_callee (f := 51) rfl ?_); refine goesL_ (some 12) rfl rfl Tryz.func51 (by kernel_rfl) rfl #[.string (⟨#[107, 101, 121]⟩ : ByteArray)] rfl (by (try simp only [List.map_toArray, List.map_cons, List.map_nil]); first | done | rfl | (simp only [List.length_drop, List.length_take]; rfl)) ?_; (with_reducible refine (term_OfText.calls k (⟨#[107, 101, 121]⟩ : ByteArray) t179 t180 _ A5.out).mono ?_); rintro e w10 ⟨rfl, hb⟩; refine ⟨_, rfl, ?_⟩; have n0_ := Aside0.mk (below_step (by repeat (first | (with_reducible first | exact HB.out | apply below_alloc | apply pw_below_drewN | apply below_drew1) | exact HB.out)) hb); clear HB; have HB := n0_; clear n0_; (try clear hb); (try clear hb2); (try clear hk); (try clear hi)) | ((with_reducible refine gate_callee (f := 50) rfl ?_); refine goesL_ (some 18) rfl rfl Tryz.func50 (by kernel_rfl) rfl #[.string t179, .string a0] rfl (by (try simp only [List.map_toArray, List.map_cons, List.map_nil]); first | done | rfl | (simp only [List.length_drop, List.length_take]; rfl)) ?_; (with_reducible refine (term_OfPair.calls t179 a0 t181 t182 _ A6.out).mono ?_); rintro e w11 ⟨rfl, hb⟩; refine ⟨_, rfl, ?_⟩; have n0_ := Aside0.mk (below_step (by repeat (first | (with_reducible first | exact HB.out | apply below_alloc | apply pw_below_drewN | apply below_drew1) | exact HB.out)) hb); clear HB; have HB := n0_; clear n0_; (try clear hb); (try clear hb2); (try clear hk); (try clear hi)) | ((with_reducible refine gate_callee (f := 100) rfl ?_); refine goesL_ (some 25) rfl rfl Tryz.func100 (by kernel_rfl) rfl #[.string t181] rfl (by (try simp only [List.map_toArray, List.map_cons, List.map_nil]); first | done | rfl | (simp only [List.length_drop, List.length_take]; rfl)) ?_; (with_reducible refine (term_OfHash.calls t181 t183 t184 _ A8.out).mono ?_); rintro e w12 ⟨rfl, hb⟩; refine ⟨_, rfl, ?_⟩; have n0_ := Aside0.mk (below_step (by repeat (first | (with_reducible first | exact HB.out | apply below_alloc | apply pw_below_drewN | apply below_drew1) | exact HB.out)) hb); clear HB; have HB := n0_; clear n0_; (try clear hb); (try clear hb2); (try clear hk); (try clear hi)))
   go_ret2
   exact ⟨by first | rfl | (simp [errW_none, errW_some] <;> rfl) | (simp [*, errW_none, errW_some] <;> rfl), by repeat (first | (with_reducible first | exact HB.out | apply below_alloc | apply pw_below_drewN | apply below_drew1) | exact HB.out)⟩
  ·rw [if_neg c7] at H
   have c7b0 : (t182 == 0) = false := beq_eq_false_iff_ne.mpr c7
   have c7b1 : (t182 != 0) = true := bne_iff_ne.mpr c7
   simp only [Option.some.injEq, Prod.mk.injEq] at H
   obtain ⟨rfl, rfl⟩ := H
   go_enter Tryz.func53, Tryz.ntmps53
   go_wp2_with (first | ((with_reducible refine gate_callee (f := 46) rfl ?_); refine goesL_ (some 9) rfl rfl Tryz.func46 (by kernel_rfl) rfl #[.string a0] rfl (by (try simp only [List.map_toArray, List.map_cons, List.map_nil]); first | done | rfl | (simp only [List.length_drop, List.length_take]; rfl)) ?_; (with_reducible refine (term_Kind.calls a0 t178 _ A2.out).mono ?_); rintro e w13 ⟨rfl, hb⟩; refine ⟨_, rfl, ?_⟩; have n0_ := Aside0.mk (below_step (by repeat (first | (with_reducible first | exact HB.out | apply below_alloc | apply pw_below_drewN | apply below_drew1) | exact HB.out)) hb); clear HB; have HB := n0_; clear n0_; (try clear hb); (try clear hb2); (try clear hk); (try clear hi)) | ((with_reducible refine gate_callee (f := 51) rfl ?_); refine goesL_ (some 12) rfl rfl Tryz.func51 (by kernel_rfl) rfl #[.string (⟨#[107, 101, 121]⟩ : ByteArray)] rfl (by (try simp only [List.map_toArray, List.map_cons, List.map_nil]); first | done | rfl | (simp only [List.length_drop, List.length_take]; rfl)) ?_; (with_reducible refine (term_OfText.calls k (⟨#[107, 101, 121]⟩ : ByteArray) t179 t180 _ A5.out).mono ?_); rintro e w14 ⟨rfl, hb⟩; refine ⟨_, rfl, ?_⟩; have n0_ := Aside0.mk (below_step (by repeat (first | (with_reducible first | exact HB.out | apply below_alloc | apply pw_below_drewN | apply below_drew1) | exact HB.out)) hb); clear HB; have HB := n0_; clear n0_; (try clear hb); (try clear hb2); (try clear hk); (try clear hi)) | ((with_reducible refine gate_callee (f := 50) rfl ?_); refine goesL_ (some 18) rfl rfl Tryz.func50 (by kernel_rfl) rfl #[.string t179, .string a0] rfl (by (try simp only [List.map_toArray, List.map_cons, List.map_nil]); first | done | rfl | (simp only [List.length_drop, List.length_take]; rfl)) ?_; (with_reducible refine (term_OfPair.calls t179 a0 t181 t182 _ A6.out).mono ?_); rintro e w15 ⟨rfl, hb⟩; refine ⟨_, rfl, ?_⟩; have n0_ := Aside0.mk (below_step (by repeat (first | (with_reducible first | exact HB.out | apply below_alloc | apply pw_below_drewN | apply below_drew1) | exact HB.out)) hb); clear HB; have HB := n0_; clear n0_; (try clear hb); (try clear hb2); (try clear hk); (try clear hi)))
   go_ret2
   exact ⟨by first | rfl | (simp [errW_none, errW_some] <;> rfl) | (simp [*, errW_none, errW_some] <;> rfl), by repeat (first | (with_reducible first | exact HB.out | apply below_alloc | apply pw_below_drewN | apply below_drew1) | exact HB.out)⟩
mutual
def regress_Back.j0 : Nat → ByteArray → Int → Bool → Option (ByteArray × Int)
 | 0, _, _, _ => none
 | k + 1, x0, x1, x14 => if x14 = true then (some ((⟨#[]⟩ : ByteArray), 1)) else (regress_Back.l0 k x0 x1 0)
def regress_Back.l0 : Nat → ByteArray → Int → Int → Option (ByteArray × Int)
 | 0, _, _, _ => none
 | k + 1, x0, x15, x16 => if x16 < x15 then ((term_OfHash.f x0).bind fun bt186 => (if bt186.2 = 0 then (regress_Back.l0 k bt186.1 x15 (wrap64 (x16 + 1))) else (some ((⟨#[]⟩ : ByteArray), bt186.2)))) else (some (x0, 0))
end
def regress_Back.f (k : Nat) (a0 : ByteArray) (a1 : Int) : Option (ByteArray × Int) := (term_Kind.f a0).bind fun t185 => (if t185 = 0 then (regress_Back.j0 k a0 a1 true) else (regress_Back.j0 k a0 a1 (decide (a1 < 0))))
set_option maxHeartbeats 8000000 in
set_option maxRecDepth 100000 in
theorem regress_Back.calls (k : Nat) (a0 : ByteArray) (a1 : Int) (r1 : ByteArray) (r2 : Int) (w : World) (h : regress_Back.f k a0 a1 = some (r1, r2)) :
  Calls Tryz.prog 67 #[.string a0, .int .i64 a1] w fun e w' => e = .returned (.tuple #[.string r1, .int .i64 r2]) ∧ Below w.heap.size w w' := by
 have HB := Aside0.mk (Below.refl w.heap.size w)
 have H : ((term_Kind.f a0).bind fun t185 => (if t185 = 0 then (regress_Back.j0 k a0 a1 true) else (regress_Back.j0 k a0 a1 (decide (a1 < 0))))) = some (r1, r2) := h
 clear h
 have HC3 := Aside0.mk H
 clear H
 go_enter Tryz.func67, Tryz.ntmps67
 go_upto_region 1 with (fail)
 go_cut [14] (fun v14 wc => ∃ (kq : Nat) (x14_2 : Bool), v14 = .bool x14_2 ∧ Aside0 (regress_Back.j0 kq a0 a1 x14_2 = some (r1, r2)) ∧ Aside0 (kq ≤ k) ∧ Aside0 (Below w.heap.size w wc))
 case first =>
  have H := HC3.out
  clear HC3
  replace H := Option.bind_eq_some_iff.mp H
  obtain ⟨t185, A40, H⟩ := H
  replace H : (if t185 = 0 then (regress_Back.j0 k a0 a1 true) else (regress_Back.j0 k a0 a1 (decide (a1 < 0)))) = some (r1, r2) := H
  have A4 := Aside0.mk A40
  clear A40
  by_cases c5 : t185 = 0
  ·rw [if_pos c5] at H
   have c5b0 : (t185 == 0) = true := beq_iff_eq.mpr c5
   have c5b1 : (t185 != 0) = false := bne_eq_false_iff_eq.mpr c5
   clear c5
   (first | rw [c5b0] | (simp only [i64_w, i32_w]; rw [c5b0]) | skip)
   have H' := Aside0.mk H
   clear H
   go_wp2_with (first | ((with_reducible refine gate_callee (f := 46) rfl ?_); refine goesL_ (some 9) rfl rfl Tryz.func46 (by kernel_rfl) rfl #[.string a0] rfl (by (try simp only [List.map_toArray, List.map_cons, List.map_nil]); first | done | rfl | (simp only [List.length_drop, List.length_take]; rfl)) ?_; (with_reducible refine (term_Kind.calls a0 t185 _ A4.out).mono ?_); rintro e w6 ⟨rfl, hb⟩; refine ⟨_, rfl, ?_⟩; have n0_ := Aside0.mk (below_step (by repeat (first | (with_reducible first | exact HB.out | apply below_alloc | apply pw_below_drewN | apply below_drew1) | exact HB.out)) hb); clear HB; have HB := n0_; clear n0_; (try clear hb); (try clear hb2); (try clear hk); (try clear hi)))
   go_meet
   case rel => exact ⟨_, (true), (by first | rfl | (simp; done) | (simp [*]; done)), H', ⟨by first | omega | exact Nat.le_refl _⟩, ⟨by repeat (first | (with_reducible first | exact HB.out | apply below_alloc | apply pw_below_drewN | apply below_drew1) | exact HB.out)⟩⟩
  ·rw [if_neg c5] at H
   have c5b0 : (t185 == 0) = false := beq_eq_false_iff_ne.mpr c5
   have c5b1 : (t185 != 0) = true := bne_iff_ne.mpr c5
   (first | rw [c5b0] | (simp only [i64_w, i32_w]; rw [c5b0]) | skip)
   have H' := Aside0.mk H
   clear H
   go_wp2_with (first | ((with_reducible refine gate_callee (f := 46) rfl ?_); refine goesL_ (some 9) rfl rfl Tryz.func46 (by kernel_rfl) rfl #[.string a0] rfl (by (try simp only [List.map_toArray, List.map_cons, List.map_nil]); first | done | rfl | (simp only [List.length_drop, List.length_take]; rfl)) ?_; (with_reducible refine (term_Kind.calls a0 t185 _ A4.out).mono ?_); rintro e w7 ⟨rfl, hb⟩; refine ⟨_, rfl, ?_⟩; have n0_ := Aside0.mk (below_step (by repeat (first | (with_reducible first | exact HB.out | apply below_alloc | apply pw_below_drewN | apply below_drew1) | exact HB.out)) hb); clear HB; have HB := n0_; clear n0_; (try clear hb); (try clear hb2); (try clear hk); (try clear hi)))
   go_meet
   case rel => exact ⟨_, (decide (a1 < 0)), (by first | rfl | (simp; done) | (simp [*]; done)), H', ⟨by first | omega | exact Nat.le_refl _⟩, ⟨by repeat (first | (with_reducible first | exact HB.out | apply below_alloc | apply pw_below_drewN | apply below_drew1) | exact HB.out)⟩⟩
 case rest =>
  clear HC3
  try clear p2
  try clear c4
  try clear c5
  try clear c5b0
  try clear c5b1
  try clear c6
  obtain ⟨kq, x14_2, rfl, HA, HJ2, HB⟩ := hcut
  cases kq with
  | zero => exact absurd HA.out (by simp [regress_Back.j0])
  | succ kj2 =>
   have H := HA.out
   clear HA
   simp only [regress_Back.j0] at H
   by_cases c8 : x14_2 = true
   ·subst c8
    have H1 : (some ((⟨#[]⟩ : ByteArray), 1)) = some (r1, r2) := by rw [if_pos rfl] at H; exact H
    clear H
    have H := H1
    clear H1
    simp only [Option.some.injEq, Prod.mk.injEq] at H
    obtain ⟨rfl, rfl⟩ := H
    go_wp2
    go_ret2
    exact ⟨by first | rfl | (simp [errW_none, errW_some] <;> rfl) | (simp [*, errW_none, errW_some] <;> rfl), by repeat (first | (with_reducible first | exact HB.out | apply below_alloc | apply pw_below_drewN | apply below_drew1) | exact HB.out)⟩
   ·replace c8 := Bool.eq_false_iff.mpr c8
    subst c8
    have H1 : (regress_Back.l0 kj2 a0 a1 0) = some (r1, r2) := by rw [if_neg (show ¬ (false = true) by decide)] at H; exact H
    clear H
    have H := H1
    clear H1
    have H' := Aside0.mk H
    clear H
    go_wp2
    go_loopg [0, 16] kj2 (fun kq v0 v16 w' => ∃ (x0_2 : ByteArray) (x16_2 : Int), v0 = .string x0_2 ∧ v16 = .int .i64 x16_2 ∧ Aside0 (regress_Back.l0 kq x0_2 a1 x16_2 = some (r1, r2)) ∧ Aside0 (kq ≤ kj2) ∧ Aside0 (Below w.heap.size w w'))
    case atStart => exact ⟨(a0), (0), (by first | rfl | (simp; done) | (simp [*]; done)), (by first | rfl | (simp; done) | (simp [*]; done)), H', ⟨Nat.le_refl _⟩, ⟨by repeat (first | (with_reducible first | exact HB.out | apply below_alloc | apply pw_below_drewN | apply below_drew1) | exact HB.out)⟩⟩
    case round =>
     clear H'
     try clear p2
     try clear c4
     try clear c5
     try clear c5b0
     try clear c5b1
     try clear c6
     try clear c8
     try clear p2
     obtain ⟨x0_2, x16_2, rfl, rfl, HA, HK2, HB⟩ := hrel
     cases gk with
     | zero => exact absurd HA.out (by simp [regress_Back.l0])
     | succ k2 =>
      have H := HA.out
      clear HA
      simp only [regress_Back.l0] at H
      by_cases c9 : x16_2 < a1
      ·rw [if_pos c9] at H
       have c9b0 : decide (x16_2 < a1) = true := decide_eq_true c9
       clear c9
       replace H := Option.bind_eq_some_iff.mp H
       obtain ⟨⟨t186, t187⟩, A100, H⟩ := H
       replace H : (if t187 = 0 then (regress_Back.l0 k2 t186 a1 (wrap64 (x16_2 + 1))) else (some ((⟨#[]⟩ : ByteArray), t187))) = some (r1, r2) := H
       have A10 := Aside0.mk A100
       clear A100
       by_cases c11 : t187 = 0
       ·rw [if_pos c11] at H
        have c11b0 : (t187 == 0) = true := beq_iff_eq.mpr c11
        have c11b1 : (t187 != 0) = false := bne_eq_false_iff_eq.mpr c11
        clear c11
        have H' := Aside0.mk H
        clear H
        go_wp2_with (first | ((with_reducible refine gate_callee (f := 100) rfl ?_); refine goesL_ (some 20) rfl rfl Tryz.func100 (by kernel_rfl) rfl #[.string x0_2] rfl (by (try simp only [List.map_toArray, List.map_cons, List.map_nil]); first | done | rfl | (simp only [List.length_drop, List.length_take]; rfl)) ?_; (with_reducible refine (term_OfHash.calls x0_2 t186 t187 _ A10.out).mono ?_); rintro e w12 ⟨rfl, hb⟩; refine ⟨_, rfl, ?_⟩; have n0_ := Aside0.mk (below_step (by repeat (first | (with_reducible first | exact HB.out | apply below_alloc | apply pw_below_drewN | apply below_drew1) | exact HB.out)) hb); clear HB; have HB := n0_; clear n0_; (try clear hb); (try clear hb2); (try clear hk); (try clear hi)))
        go_roundg k2
        case measure => have := HJ2.out; have := HK2.out; omega
        case rel => exact ⟨(t186), (wrap64 (x16_2 + 1)), (by first | rfl | (simp; done) | (simp [*]; done)), (by first | rfl | (simp; done) | (simp [*]; done)), H', ⟨by have := HJ2.out; have := HK2.out; omega⟩, ⟨by repeat (first | (with_reducible first | exact HB.out | apply below_alloc | apply pw_below_drewN | apply below_drew1) | exact HB.out)⟩⟩
       ·rw [if_neg c11] at H
        have c11b0 : (t187 == 0) = false := beq_eq_false_iff_ne.mpr c11
        have c11b1 : (t187 != 0) = true := bne_iff_ne.mpr c11
        simp only [Option.some.injEq, Prod.mk.injEq] at H
        obtain ⟨rfl, rfl⟩ := H
        go_wp2_with (first | ((with_reducible refine gate_callee (f := 100) rfl ?_); refine goesL_ (some 20) rfl rfl Tryz.func100 (by kernel_rfl) rfl #[.string x0_2] rfl (by (try simp only [List.map_toArray, List.map_cons, List.map_nil]); first | done | rfl | (simp only [List.length_drop, List.length_take]; rfl)) ?_; (with_reducible refine (term_OfHash.calls x0_2 t186 t187 _ A10.out).mono ?_); rintro e w13 ⟨rfl, hb⟩; refine ⟨_, rfl, ?_⟩; have n0_ := Aside0.mk (below_step (by repeat (first | (with_reducible first | exact HB.out | apply below_alloc | apply pw_below_drewN | apply below_drew1) | exact HB.out)) hb); clear HB; have HB := n0_; clear n0_; (try clear hb); (try clear hb2); (try clear hk); (try clear hi)))
        go_ret2
        exact ⟨by first | rfl | (simp [errW_none, errW_some] <;> rfl) | (simp [*, errW_none, errW_some] <;> rfl), by repeat (first | (with_reducible first | exact HB.out | apply below_alloc | apply pw_below_drewN | apply below_drew1) | exact HB.out)⟩
      ·rw [if_neg c9] at H
       have c9b0 : decide (x16_2 < a1) = false := decide_eq_false c9
       clear c9
       simp only [Option.some.injEq, Prod.mk.injEq] at H
       obtain ⟨rfl, rfl⟩ := H
       go_wp2
       go_ret2
       exact ⟨by first | rfl | (simp [errW_none, errW_some] <;> rfl) | (simp [*, errW_none, errW_some] <;> rfl), by repeat (first | (with_reducible first | exact HB.out | apply below_alloc | apply pw_below_drewN | apply below_drew1) | exact HB.out)⟩
def letterlockref1_valid.f (a0 : Int) : Option (Bool) := if a0 ≥ 0 then (if a0 ≤ 1114111 then (if a0 < 55296 then (some true) else (some (decide (a0 > 57343)))) else (some false)) else (some false)
set_option maxHeartbeats 8000000 in
set_option maxRecDepth 100000 in
theorem letterlockref1_valid.calls (a0 : Int) (r : Bool) (w : World) (h : letterlockref1_valid.f a0 = some r) :
  Calls Tryz.prog 139 #[.int .i32 a0] w fun e w' => e = .returned (.bool r) ∧ Drawn0 w w' := by
 have H : (if a0 ≥ 0 then (if a0 ≤ 1114111 then (if a0 < 55296 then (some true) else (some (decide (a0 > 57343)))) else (some false)) else (some false)) = some r := h
 clear h
 by_cases c2 : a0 ≥ 0
 ·rw [if_pos c2] at H
  have c2b0 : decide (0 ≤ a0) = true := decide_eq_true c2
  clear c2
  by_cases c3 : a0 ≤ 1114111
  ·rw [if_pos c3] at H
   have c3b0 : decide (a0 ≤ 1114111) = true := decide_eq_true c3
   clear c3
   by_cases c4 : a0 < 55296
   ·rw [if_pos c4] at H
    have c4b0 : decide (a0 < 55296) = true := decide_eq_true c4
    clear c4
    obtain rfl := Option.some.inj H
    go_enter Tryz.func139, Tryz.ntmps139
    go_wp2
    go_ret
    exact ⟨by first | rfl | (simp; done) | (simp [*]; done), by repeat (first | exact Drawn0.refl _ | apply Drawn0.step)⟩
   ·rw [if_neg c4] at H
    have c4b0 : decide (a0 < 55296) = false := decide_eq_false c4
    clear c4
    obtain rfl := Option.some.inj H
    go_enter Tryz.func139, Tryz.ntmps139
    go_wp2
    go_ret
    exact ⟨by first | rfl | (simp; done) | (simp [*]; done), by repeat (first | exact Drawn0.refl _ | apply Drawn0.step)⟩
  ·rw [if_neg c3] at H
   have c3b0 : decide (a0 ≤ 1114111) = false := decide_eq_false c3
   clear c3
   obtain rfl := Option.some.inj H
   go_enter Tryz.func139, Tryz.ntmps139
   go_wp2
   go_ret
   exact ⟨by first | rfl | (simp; done) | (simp [*]; done), by repeat (first | exact Drawn0.refl _ | apply Drawn0.step)⟩
 ·rw [if_neg c2] at H
  have c2b0 : decide (0 ≤ a0) = false := decide_eq_false c2
  clear c2
  obtain rfl := Option.some.inj H
  go_enter Tryz.func139, Tryz.ntmps139
  go_wp2
  go_ret
  exact ⟨by first | rfl | (simp; done) | (simp [*]; done), by repeat (first | exact Drawn0.refl _ | apply Drawn0.step)⟩
end Go.Proofs.YtphehoidkmficaaGreatDoor.PA
end
section

namespace Go.Proofs.YtphehoidkmficaaGreatDoor.PA
open Go.RowKit Go.Proofs.YtphehoidkmficaaGreatDoorW.PrintWords Go.Proofs.YtphehoidkmficaaGreatDoorW.PrintLast Go.Proofs.YtphehoidkmficaaGreatDoorW.PrintMore
attribute [local go_sem] max2_int min2_int max_two min_two max_three min_three max_four min_four   -- for this text's walks alone
set_option linter.unusedVariables false
set_option linter.unusedSimpArgs false
mutual
def letterlockref1_first.j2 : Nat → ByteArray → Int → Int → Int → Option (Int × Int)
 | 0, _, _, _, _ => none
 | k + 1, x0, x4, x5, x6 => if x4 = 0 then (letterlockref1_first.j3 k x0 x4 x5 x6 true) else (letterlockref1_first.j3 k x0 x4 x5 x6 (decide ((x0.size : Int) < x4)))
def letterlockref1_first.j3 : Nat → ByteArray → Int → Int → Int → Bool → Option (Int × Int)
 | 0, _, _, _, _, _ => none
 | k + 1, x0, x4, x5, x6, x62 => if x62 = true then (some (0, 0)) else (letterlockref1_first.l0 k x0 x4 x5 x6 1)
def letterlockref1_first.l0 : Nat → ByteArray → Int → Int → Int → Int → Option (Int × Int)
 | 0, _, _, _, _, _ => none
 | k + 1, x0, x4, x5, x6, x7 => if x7 < x4 then (if 0 ≤ x7 then (if x7 < (x0.size : Int) then (if (bt x0 x7) < 128 then (some (0, 0)) else (if (bt x0 x7) > 191 then (some (0, 0)) else (letterlockref1_first.l0 k x0 x4 (wrap32 ((wrap32 (64 * x5)) + (((bt x0 x7) - 128) % 256))) x6 (wrap64 (x7 + 1))))) else (none)) else (none)) else (if x5 < x6 then (some (0, 0)) else ((letterlockref1_valid.f x5).bind fun t188 => (if t188 = true then (some (x5, x4)) else (some (0, 0)))))
def letterlockref1_first.j0 : Nat → ByteArray → Int → Int → Int → Bool → Option (Int × Int)
 | 0, _, _, _, _, _ => none
 | k + 1, x0, x4, x5, x6, x16 => if x16 = true then (if 0 < (x0.size : Int) then (letterlockref1_first.j2 k x0 2 (((bt x0 0) - 192) % 256) 128) else (none)) else (if 0 < (x0.size : Int) then (if (bt x0 0) ≥ 224 then (letterlockref1_first.j1 k x0 x4 x5 x6 (decide ((bt x0 0) < 240))) else (letterlockref1_first.j1 k x0 x4 x5 x6 false)) else (none))
def letterlockref1_first.j1 : Nat → ByteArray → Int → Int → Int → Bool → Option (Int × Int)
 | 0, _, _, _, _, _ => none
 | k + 1, x0, x4, x5, x6, x29 => if x29 = true then (if 0 < (x0.size : Int) then (letterlockref1_first.j2 k x0 3 (((bt x0 0) - 224) % 256) 2048) else (none)) else (if 0 < (x0.size : Int) then (if (bt x0 0) ≥ 240 then (if (bt x0 0) < 248 then (letterlockref1_first.j2 k x0 4 (((bt x0 0) - 240) % 256) 65536) else (letterlockref1_first.j2 k x0 x4 x5 x6)) else (letterlockref1_first.j2 k x0 x4 x5 x6)) else (none))
end
def letterlockref1_first.f (k : Nat) (a0 : ByteArray) : Option (Int × Int) := if a0.toList = ([] : List UInt8) then (some (0, 0)) else (if 0 < (a0.size : Int) then (if (bt a0 0) < 128 then (some (wrap32 (bt a0 0), 1)) else (if (bt a0 0) ≥ 192 then (letterlockref1_first.j0 k a0 0 0 0 (decide ((bt a0 0) < 224))) else (letterlockref1_first.j0 k a0 0 0 0 false))) else (none))
set_option maxHeartbeats 8000000 in
set_option maxRecDepth 100000 in
theorem letterlockref1_first.calls (k : Nat) (a0 : ByteArray) (r1 : Int) (r2 : Int) (w : World) (h : letterlockref1_first.f k a0 = some (r1, r2)) :
  Calls Tryz.prog 131 #[.string a0] w fun e w' => e = .returned (.tuple #[.int .i32 r1, .int .i64 r2]) ∧ Drawn0 w w' := by
 have H : (if a0.toList = ([] : List UInt8) then (some (0, 0)) else (if 0 < (a0.size : Int) then (if (bt a0 0) < 128 then (some (wrap32 (bt a0 0), 1)) else (if (bt a0 0) ≥ 192 then (letterlockref1_first.j0 k a0 0 0 0 (decide ((bt a0 0) < 224))) else (letterlockref1_first.j0 k a0 0 0 0 false))) else (none))) = some (r1, r2) := h
 clear h
 by_cases c2 : a0.toList = ([] : List UInt8)
 ·rw [if_pos c2] at H
  have c2b0 : (a0.toList == ([] : List UInt8)) = true := beq_iff_eq.mpr c2
  have c2b1 : (a0.toList != ([] : List UInt8)) = false := bne_eq_false_iff_eq.mpr c2
  clear c2
  simp only [Option.some.injEq, Prod.mk.injEq] at H
  obtain ⟨rfl, rfl⟩ := H
  go_enter Tryz.func131, Tryz.ntmps131
  go_wp2
  go_ret2
  exact ⟨by first | rfl | (simp; done) | (simp [*]; done), by repeat (first | exact Drawn0.refl _ | apply Drawn0.step)⟩
 ·rw [if_neg c2] at H
  have c2b0 : (a0.toList == ([] : List UInt8)) = false := beq_eq_false_iff_ne.mpr c2
  have c2b1 : (a0.toList != ([] : List UInt8)) = true := bne_iff_ne.mpr c2
  by_cases c3 : 0 < (a0.size : Int)
  ·rw [if_pos c3] at H
   have c3b0 : decide (0 < (a0.size : Int)) = true := decide_eq_true c3
   have c3b1 : decide (0 < a0.size) = true := decide_eq_true (by omega)
   clear c3
   by_cases c5 : (bt a0 0) < 128
   ·rw [if_pos c5] at H
    have c5b0 : decide ((bt a0 0) < 128) = true := decide_eq_true c5
    clear c5
    simp only [Option.some.injEq, Prod.mk.injEq] at H
    obtain ⟨rfl, rfl⟩ := H
    have p4 : 0 ≤ (0 : Int) := (by omega)
    have q4 : 0 < a0.size := (by have : (0 : Int) < (a0.size : Int) := of_decide_eq_true (by first | (with_reducible assumption) | assumption); omega)
    have hx4 : ∀ h : 0 < a0.size, ((a0[0]'h).toNat : Int) = bt a0 0 := bt_at a0 0
    clear p4
    have qi4 : (0 < (a0.size : Int)) = True := eq_true (of_decide_eq_true (by first | (with_reducible assumption) | assumption))
    replace q4 := eq_true q4
    have p6 : 0 ≤ (0 : Int) := (by omega)
    have q6 : 0 < a0.size := (by have : (0 : Int) < (a0.size : Int) := of_decide_eq_true (by first | (with_reducible assumption) | assumption); omega)
    have hx6 : ∀ h : 0 < a0.size, ((a0[0]'h).toNat : Int) = bt a0 0 := bt_at a0 0
    clear p6
    have qi6 : (0 < (a0.size : Int)) = True := eq_true (of_decide_eq_true (by first | (with_reducible assumption) | assumption))
    replace q6 := eq_true q6
    go_enter Tryz.func131, Tryz.ntmps131
    go_wp2
    go_ret2
    exact ⟨by first | rfl | (simp; done) | (simp [*]; done), by repeat (first | exact Drawn0.refl _ | apply Drawn0.step)⟩
   ·rw [if_neg c5] at H
    have c5b0 : decide ((bt a0 0) < 128) = false := decide_eq_false c5
    clear c5
    have HC7 := Aside0.mk H
    clear H
    have p4 : 0 ≤ (0 : Int) := (by omega)
    have q4 : 0 < a0.size := (by have : (0 : Int) < (a0.size : Int) := of_decide_eq_true (by first | (with_reducible assumption) | assumption); omega)
    have hx4 : ∀ h : 0 < a0.size, ((a0[0]'h).toNat : Int) = bt a0 0 := bt_at a0 0
    clear p4
    have qi4 : (0 < (a0.size : Int)) = True := eq_true (of_decide_eq_true (by first | (with_reducible assumption) | assumption))
    replace q4 := eq_true q4
    go_enter Tryz.func131, Tryz.ntmps131
    go_upto_block 0 with (fail)
    go_cut [4, 5, 6] (fun v4 v5 v6 wc => ∃ (kq : Nat) (x4_6 : Int) (x5_6 : Int) (x6_6 : Int), v4 = .int .i64 x4_6 ∧ v5 = .int .i32 x5_6 ∧ v6 = .int .i32 x6_6 ∧ Aside0 (letterlockref1_first.j2 kq a0 x4_6 x5_6 x6_6 = some (r1, r2)) ∧ Aside0 (kq ≤ k) ∧ Drawn0 w wc)
    case first =>
     have H := HC7.out
     clear HC7
     have HC8 := Aside0.mk H
     clear H
     go_upto_region 8 with (fail)
     go_cut [16] (fun v16 wc => ∃ (kq : Nat) (x16_7 : Bool), v16 = .bool x16_7 ∧ Aside0 (letterlockref1_first.j0 kq a0 0 0 0 x16_7 = some (r1, r2)) ∧ Aside0 (kq ≤ k) ∧ Drawn0 w wc)
     case first =>
      have H := HC8.out
      clear HC8
      by_cases c10 : (bt a0 0) ≥ 192
      ·rw [if_pos c10] at H
       have c10b0 : decide (192 ≤ (bt a0 0)) = true := decide_eq_true c10
       clear c10
       (first | rw [c10b0] | (simp only [i64_w, i32_w]; rw [c10b0]) | skip)
       have H' := Aside0.mk H
       clear H
       have p9 : 0 ≤ (0 : Int) := (by omega)
       have q9 : 0 < a0.size := (by have : (0 : Int) < (a0.size : Int) := of_decide_eq_true (by first | (with_reducible assumption) | assumption); omega)
       have hx9 : ∀ h : 0 < a0.size, ((a0[0]'h).toNat : Int) = bt a0 0 := bt_at a0 0
       clear p9
       have qi9 : (0 < (a0.size : Int)) = True := eq_true (of_decide_eq_true (by first | (with_reducible assumption) | assumption))
       replace q9 := eq_true q9
       have p11 : 0 ≤ (0 : Int) := (by omega)
       have q11 : 0 < a0.size := (by have : (0 : Int) < (a0.size : Int) := of_decide_eq_true (by first | (with_reducible assumption) | assumption); omega)
       have hx11 : ∀ h : 0 < a0.size, ((a0[0]'h).toNat : Int) = bt a0 0 := bt_at a0 0
       clear p11
       have qi11 : (0 < (a0.size : Int)) = True := eq_true (of_decide_eq_true (by first | (with_reducible assumption) | assumption))
       replace q11 := eq_true q11
       go_wp2
       go_meet
       case rel => exact ⟨_, (decide ((bt a0 0) < 224)), (by first | rfl | (simp; done) | (simp [*]; done)), H', ⟨by first | omega | exact Nat.le_refl _⟩, by repeat (first | exact Drawn0.refl _ | apply Drawn0.step)⟩
      ·rw [if_neg c10] at H
       have c10b0 : decide (192 ≤ (bt a0 0)) = false := decide_eq_false c10
       clear c10
       (first | rw [c10b0] | (simp only [i64_w, i32_w]; rw [c10b0]) | skip)
       have H' := Aside0.mk H
       clear H
       have p9 : 0 ≤ (0 : Int) := (by omega)
       have q9 : 0 < a0.size := (by have : (0 : Int) < (a0.size : Int) := of_decide_eq_true (by first | (with_reducible assumption) | assumption); omega)
       have hx9 : ∀ h : 0 < a0.size, ((a0[0]'h).toNat : Int) = bt a0 0 := bt_at a0 0
       clear p9
       have qi9 : (0 < (a0.size : Int)) = True := eq_true (of_decide_eq_true (by first | (with_reducible assumption) | assumption))
       replace q9 := eq_true q9
       go_wp2
       go_meet
       case rel => exact ⟨_, (false), (by first | rfl | (simp; done) | (simp [*]; done)), H', ⟨by first | omega | exact Nat.le_refl _⟩, by repeat (first | exact Drawn0.refl _ | apply Drawn0.step)⟩
     case rest =>
      clear HC8
      try clear c1
      try clear p1
      try clear q1
      try clear hx1
      try clear qi1
      try clear c2
      try clear c2b0
      try clear c2b1
      try clear p2
      try clear c3
      try clear c3b0
      try clear c3b1
      try clear p3
      try clear p4
      try clear q4
      try clear hx4
      try clear qi4
      try clear c5
      try clear c5b0
      try clear p6
      try clear q6
      try clear hx6
      try clear qi6
      try clear p9
      try clear q9
      try clear hx9
      try clear qi9
      try clear c10
      try clear c10b0
      try clear p11
      try clear q11
      try clear hx11
      try clear qi11
      try clear p11
      try clear p4
      try clear p6
      try clear p9
      try clear q11
      try clear q4
      try clear q6
      try clear q9
      obtain ⟨kq, x16_7, rfl, HA, HJ7, ⟨mc7, rfl⟩⟩ := hcut
      cases kq with
      | zero => exact absurd HA.out (by simp [letterlockref1_first.j0])
      | succ kj7 =>
       have H := HA.out
       clear HA
       simp only [letterlockref1_first.j0] at H
       by_cases c12 : x16_7 = true
       ·subst c12
        have H1 : (if 0 < (a0.size : Int) then (letterlockref1_first.j2 kj7 a0 2 (((bt a0 0) - 192) % 256) 128) else (none)) = some (r1, r2) := by rw [if_pos rfl] at H; exact H
        clear H
        have H := H1
        clear H1
        by_cases c13 : 0 < (a0.size : Int)
        ·rw [if_pos c13] at H
         have c13b0 : decide (0 < (a0.size : Int)) = true := decide_eq_true c13
         have c13b1 : decide (0 < a0.size) = true := decide_eq_true (by omega)
         clear c13
         have H' := Aside0.mk H
         clear H
         have p14 : 0 ≤ (0 : Int) := (by omega)
         have q14 : 0 < a0.size := (by have : (0 : Int) < (a0.size : Int) := of_decide_eq_true (by first | (with_reducible assumption) | assumption); omega)
         have hx14 : ∀ h : 0 < a0.size, ((a0[0]'h).toNat : Int) = bt a0 0 := bt_at a0 0
         clear p14
         have qi14 : (0 < (a0.size : Int)) = True := eq_true (of_decide_eq_true (by first | (with_reducible assumption) | assumption))
         replace q14 := eq_true q14
         go_wp2
         go_meet
         case rel => exact ⟨_, (2), (((bt a0 0) - 192) % 256), (128), (by first | rfl | (simp; done) | (simp [*]; done)), (by first | rfl | (simp; done) | (simp [*]; done)), (by first | rfl | (simp; done) | (simp [*]; done)), H', ⟨by have := HJ7.out; first | omega | exact Nat.le_refl _⟩, by repeat (first | exact Drawn0.refl _ | apply Drawn0.step)⟩
        ·rw [if_neg c13] at H
         exact absurd H (by simp)
       ·replace c12 := Bool.eq_false_iff.mpr c12
        subst c12
        have H1 : (if 0 < (a0.size : Int) then (if (bt a0 0) ≥ 224 then (letterlockref1_first.j1 kj7 a0 0 0 0 (decide ((bt a0 0) < 240))) else (letterlockref1_first.j1 kj7 a0 0 0 0 false)) else (none)) = some (r1, r2) := by rw [if_neg (show ¬ (false = true) by decide)] at H; exact H
        clear H
        have H := H1
        clear H1
        have HC15 := Aside0.mk H
        clear H
        go_upto_region 12 with (fail)
        go_cut [29] (fun v29 wc => ∃ (kq : Nat) (x29_14 : Bool), v29 = .bool x29_14 ∧ Aside0 (letterlockref1_first.j1 kq a0 0 0 0 x29_14 = some (r1, r2)) ∧ Aside0 (kq ≤ kj7) ∧ Drawn0 w wc)
        case first =>
         have H := HC15.out
         clear HC15
         by_cases c16 : 0 < (a0.size : Int)
         ·rw [if_pos c16] at H
          have c16b0 : decide (0 < (a0.size : Int)) = true := decide_eq_true c16
          have c16b1 : decide (0 < a0.size) = true := decide_eq_true (by omega)
          clear c16
          (first | rw [c16b0] | (simp only [i64_w, i32_w]; rw [c16b0]) | skip)
          by_cases c18 : (bt a0 0) ≥ 224
          ·rw [if_pos c18] at H
           have c18b0 : decide (224 ≤ (bt a0 0)) = true := decide_eq_true c18
           clear c18
           have H' := Aside0.mk H
           clear H
           have p17 : 0 ≤ (0 : Int) := (by omega)
           have q17 : 0 < a0.size := (by have : (0 : Int) < (a0.size : Int) := of_decide_eq_true (by first | (with_reducible assumption) | assumption); omega)
           have hx17 : ∀ h : 0 < a0.size, ((a0[0]'h).toNat : Int) = bt a0 0 := bt_at a0 0
           clear p17
           have qi17 : (0 < (a0.size : Int)) = True := eq_true (of_decide_eq_true (by first | (with_reducible assumption) | assumption))
           replace q17 := eq_true q17
           have p19 : 0 ≤ (0 : Int) := (by omega)
           have q19 : 0 < a0.size := (by have : (0 : Int) < (a0.size : Int) := of_decide_eq_true (by first | (with_reducible assumption) | assumption); omega)
           have hx19 : ∀ h : 0 < a0.size, ((a0[0]'h).toNat : Int) = bt a0 0 := bt_at a0 0
           clear p19
           have qi19 : (0 < (a0.size : Int)) = True := eq_true (of_decide_eq_true (by first | (with_reducible assumption) | assumption))
           replace q19 := eq_true q19
           go_wp2
           go_meet
           case rel => exact ⟨_, (decide ((bt a0 0) < 240)), (by first | rfl | (simp; done) | (simp [*]; done)), H', ⟨by have := HJ7.out; first | omega | exact Nat.le_refl _⟩, by repeat (first | exact Drawn0.refl _ | apply Drawn0.step)⟩
          ·rw [if_neg c18] at H
           have c18b0 : decide (224 ≤ (bt a0 0)) = false := decide_eq_false c18
           clear c18
           have H' := Aside0.mk H
           clear H
           have p17 : 0 ≤ (0 : Int) := (by omega)
           have q17 : 0 < a0.size := (by have : (0 : Int) < (a0.size : Int) := of_decide_eq_true (by first | (with_reducible assumption) | assumption); omega)
           have hx17 : ∀ h : 0 < a0.size, ((a0[0]'h).toNat : Int) = bt a0 0 := bt_at a0 0
           clear p17
           have qi17 : (0 < (a0.size : Int)) = True := eq_true (of_decide_eq_true (by first | (with_reducible assumption) | assumption))
           replace q17 := eq_true q17
           go_wp2
           go_meet
           case rel => exact ⟨_, (false), (by first | rfl | (simp; done) | (simp [*]; done)), H', ⟨by have := HJ7.out; first | omega | exact Nat.le_refl _⟩, by repeat (first | exact Drawn0.refl _ | apply Drawn0.step)⟩
         ·rw [if_neg c16] at H
          exact absurd H (by simp)
        case rest =>
         clear HC15
         try clear c1
         try clear p1
         try clear q1
         try clear hx1
         try clear qi1
         try clear c2
         try clear c2b0
         try clear c2b1
         try clear p2
         try clear c3
         try clear c3b0
         try clear c3b1
         try clear p3
         try clear p4
         try clear q4
         try clear hx4
         try clear qi4
         try clear c5
         try clear c5b0
         try clear p6
         try clear q6
         try clear hx6
         try clear qi6
         try clear c7
         try clear p9
         try clear q9
         try clear hx9
         try clear qi9
         try clear c10
         try clear c10b0
         try clear p11
         try clear q11
         try clear hx11
         try clear qi11
         try clear c12
         try clear c13
         try clear c13b0
         try clear c13b1
         try clear p14
         try clear q14
         try clear hx14
         try clear qi14
         try clear c16
         try clear c16b0
         try clear c16b1
         try clear p17
         try clear q17
         try clear hx17
         try clear qi17
         try clear c18
         try clear c18b0
         try clear p19
         try clear q19
         try clear hx19
         try clear qi19
         try clear p1
         try clear p11
         try clear p14
         try clear p17
         try clear p19
         try clear p2
         try clear p3
         try clear p4
         try clear p6
         try clear p9
         try clear q1
         try clear q11
         try clear q14
         try clear q17
         try clear q19
         try clear q4
         try clear q6
         try clear q9
         obtain ⟨kq, x29_14, rfl, HA, HJ14, ⟨mc14, rfl⟩⟩ := hcut
         cases kq with
         | zero => exact absurd HA.out (by simp [letterlockref1_first.j1])
         | succ kj14 =>
          have H := HA.out
          clear HA
          simp only [letterlockref1_first.j1] at H
          by_cases c20 : x29_14 = true
          ·subst c20
           have H1 : (if 0 < (a0.size : Int) then (letterlockref1_first.j2 kj14 a0 3 (((bt a0 0) - 224) % 256) 2048) else (none)) = some (r1, r2) := by rw [if_pos rfl] at H; exact H
           clear H
           have H := H1
           clear H1
           by_cases c21 : 0 < (a0.size : Int)
           ·rw [if_pos c21] at H
            have c21b0 : decide (0 < (a0.size : Int)) = true := decide_eq_true c21
            have c21b1 : decide (0 < a0.size) = true := decide_eq_true (by omega)
            clear c21
            have H' := Aside0.mk H
            clear H
            have p22 : 0 ≤ (0 : Int) := (by omega)
            have q22 : 0 < a0.size := (by have : (0 : Int) < (a0.size : Int) := of_decide_eq_true (by first | (with_reducible assumption) | assumption); omega)
            have hx22 : ∀ h : 0 < a0.size, ((a0[0]'h).toNat : Int) = bt a0 0 := bt_at a0 0
            clear p22
            have qi22 : (0 < (a0.size : Int)) = True := eq_true (of_decide_eq_true (by first | (with_reducible assumption) | assumption))
            replace q22 := eq_true q22
            go_wp2
            go_meet
            case rel => exact ⟨_, (3), (((bt a0 0) - 224) % 256), (2048), (by first | rfl | (simp; done) | (simp [*]; done)), (by first | rfl | (simp; done) | (simp [*]; done)), (by first | rfl | (simp; done) | (simp [*]; done)), H', ⟨by have := HJ7.out; have := HJ14.out; first | omega | exact Nat.le_refl _⟩, by repeat (first | exact Drawn0.refl _ | apply Drawn0.step)⟩
           ·rw [if_neg c21] at H
            exact absurd H (by simp)
          ·replace c20 := Bool.eq_false_iff.mpr c20
           subst c20
           have H1 : (if 0 < (a0.size : Int) then (if (bt a0 0) ≥ 240 then (if (bt a0 0) < 248 then (letterlockref1_first.j2 kj14 a0 4 (((bt a0 0) - 240) % 256) 65536) else (letterlockref1_first.j2 kj14 a0 0 0 0)) else (letterlockref1_first.j2 kj14 a0 0 0 0)) else (none)) = some (r1, r2) := by rw [if_neg (show ¬ (false = true) by decide)] at H; exact H
           clear H
           have H := H1
           clear H1
           by_cases c23 : 0 < (a0.size : Int)
           ·rw [if_pos c23] at H
            have c23b0 : decide (0 < (a0.size : Int)) = true := decide_eq_true c23
            have c23b1 : decide (0 < a0.size) = true := decide_eq_true (by omega)
            clear c23
            by_cases c25 : (bt a0 0) ≥ 240
            ·rw [if_pos c25] at H
             have c25b0 : decide (240 ≤ (bt a0 0)) = true := decide_eq_true c25
             clear c25
             by_cases c27 : (bt a0 0) < 248
             ·rw [if_pos c27] at H
              have c27b0 : decide ((bt a0 0) < 248) = true := decide_eq_true c27
              clear c27
              have H' := Aside0.mk H
              clear H
              have p24 : 0 ≤ (0 : Int) := (by omega)
              have q24 : 0 < a0.size := (by have : (0 : Int) < (a0.size : Int) := of_decide_eq_true (by first | (with_reducible assumption) | assumption); omega)
              have hx24 : ∀ h : 0 < a0.size, ((a0[0]'h).toNat : Int) = bt a0 0 := bt_at a0 0
              clear p24
              have qi24 : (0 < (a0.size : Int)) = True := eq_true (of_decide_eq_true (by first | (with_reducible assumption) | assumption))
              replace q24 := eq_true q24
              have p26 : 0 ≤ (0 : Int) := (by omega)
              have q26 : 0 < a0.size := (by have : (0 : Int) < (a0.size : Int) := of_decide_eq_true (by first | (with_reducible assumption) | assumption); omega)
              have hx26 : ∀ h : 0 < a0.size, ((a0[0]'h).toNat : Int) = bt a0 0 := bt_at a0 0
              clear p26
              have qi26 : (0 < (a0.size : Int)) = True := eq_true (of_decide_eq_true (by first | (with_reducible assumption) | assumption))
              replace q26 := eq_true q26
              have p28 : 0 ≤ (0 : Int) := (by omega)
              have q28 : 0 < a0.size := (by have : (0 : Int) < (a0.size : Int) := of_decide_eq_true (by first | (with_reducible assumption) | assumption); omega)
              have hx28 : ∀ h : 0 < a0.size, ((a0[0]'h).toNat : Int) = bt a0 0 := bt_at a0 0
              clear p28
              have qi28 : (0 < (a0.size : Int)) = True := eq_true (of_decide_eq_true (by first | (with_reducible assumption) | assumption))
              replace q28 := eq_true q28
              go_wp2
              go_meet
              case rel => exact ⟨_, (4), (((bt a0 0) - 240) % 256), (65536), (by first | rfl | (simp; done) | (simp [*]; done)), (by first | rfl | (simp; done) | (simp [*]; done)), (by first | rfl | (simp; done) | (simp [*]; done)), H', ⟨by have := HJ7.out; have := HJ14.out; first | omega | exact Nat.le_refl _⟩, by repeat (first | exact Drawn0.refl _ | apply Drawn0.step)⟩
             ·rw [if_neg c27] at H
              have c27b0 : decide ((bt a0 0) < 248) = false := decide_eq_false c27
              clear c27
              have H' := Aside0.mk H
              clear H
              have p24 : 0 ≤ (0 : Int) := (by omega)
              have q24 : 0 < a0.size := (by have : (0 : Int) < (a0.size : Int) := of_decide_eq_true (by first | (with_reducible assumption) | assumption); omega)
              have hx24 : ∀ h : 0 < a0.size, ((a0[0]'h).toNat : Int) = bt a0 0 := bt_at a0 0
              clear p24
              have qi24 : (0 < (a0.size : Int)) = True := eq_true (of_decide_eq_true (by first | (with_reducible assumption) | assumption))
              replace q24 := eq_true q24
              have p26 : 0 ≤ (0 : Int) := (by omega)
              have q26 : 0 < a0.size := (by have : (0 : Int) < (a0.size : Int) := of_decide_eq_true (by first | (with_reducible assumption) | assumption); omega)
              have hx26 : ∀ h : 0 < a0.size, ((a0[0]'h).toNat : Int) = bt a0 0 := bt_at a0 0
              clear p26
              have qi26 : (0 < (a0.size : Int)) = True := eq_true (of_decide_eq_true (by first | (with_reducible assumption) | assumption))
              replace q26 := eq_true q26
              go_wp2
              go_meet
              case rel => exact ⟨_, (0), (0), (0), (by first | rfl | (simp; done) | (simp [*]; done)), (by first | rfl | (simp; done) | (simp [*]; done)), (by first | rfl | (simp; done) | (simp [*]; done)), H', ⟨by have := HJ7.out; have := HJ14.out; first | omega | exact Nat.le_refl _⟩, by repeat (first | exact Drawn0.refl _ | apply Drawn0.step)⟩
            ·rw [if_neg c25] at H
             have c25b0 : decide (240 ≤ (bt a0 0)) = false := decide_eq_false c25
             clear c25
             have H' := Aside0.mk H
             clear H
             have p24 : 0 ≤ (0 : Int) := (by omega)
             have q24 : 0 < a0.size := (by have : (0 : Int) < (a0.size : Int) := of_decide_eq_true (by first | (with_reducible assumption) | assumption); omega)
             have hx24 : ∀ h : 0 < a0.size, ((a0[0]'h).toNat : Int) = bt a0 0 := bt_at a0 0
             clear p24
             have qi24 : (0 < (a0.size : Int)) = True := eq_true (of_decide_eq_true (by first | (with_reducible assumption) | assumption))
             replace q24 := eq_true q24
             go_wp2
             go_meet
             case rel => exact ⟨_, (0), (0), (0), (by first | rfl | (simp; done) | (simp [*]; done)), (by first | rfl | (simp; done) | (simp [*]; done)), (by first | rfl | (simp; done) | (simp [*]; done)), H', ⟨by have := HJ7.out; have := HJ14.out; first | omega | exact Nat.le_refl _⟩, by repeat (first | exact Drawn0.refl _ | apply Drawn0.step)⟩
           ·rw [if_neg c23] at H
            exact absurd H (by simp)
    case rest =>
     clear HC7
     try clear c1
     try clear p1
     try clear q1
     try clear hx1
     try clear qi1
     try clear c2
     try clear c2b0
     try clear c2b1
     try clear p2
     try clear q2
     try clear hx2
     try clear qi2
     try clear c3
     try clear c3b0
     try clear c3b1
     try clear p3
     try clear p4
     try clear q4
     try clear hx4
     try clear qi4
     try clear c5
     try clear c5b0
     try clear p6
     try clear q6
     try clear hx6
     try clear qi6
     try clear c7
     try clear p9
     try clear q9
     try clear hx9
     try clear qi9
     try clear c10
     try clear c10b0
     try clear p11
     try clear q11
     try clear hx11
     try clear qi11
     try clear c12
     try clear c13
     try clear c13b0
     try clear c13b1
     try clear c14
     try clear p14
     try clear q14
     try clear hx14
     try clear qi14
     try clear c16
     try clear c16b0
     try clear c16b1
     try clear p17
     try clear q17
     try clear hx17
     try clear qi17
     try clear c18
     try clear c18b0
     try clear p19
     try clear q19
     try clear hx19
     try clear qi19
     try clear c20
     try clear c21
     try clear c21b0
     try clear c21b1
     try clear p22
     try clear q22
     try clear hx22
     try clear qi22
     try clear c23
     try clear c23b0
     try clear c23b1
     try clear p24
     try clear q24
     try clear hx24
     try clear qi24
     try clear c25
     try clear c25b0
     try clear p26
     try clear q26
     try clear hx26
     try clear qi26
     try clear c27
     try clear c27b0
     try clear p28
     try clear q28
     try clear hx28
     try clear qi28
     try clear p1
     try clear p11
     try clear p14
     try clear p17
     try clear p19
     try clear p2
     try clear p22
     try clear p24
     try clear p26
     try clear p28
     try clear p3
     try clear p4
     try clear p6
     try clear p9
     try clear q1
     try clear q11
     try clear q14
     try clear q17
     try clear q19
     try clear q22
     try clear q24
     try clear q26
     try clear q28
     try clear q4
     try clear q6
     try clear q9
     obtain ⟨kq, x4_6, x5_6, x6_6, rfl, rfl, rfl, HA, HJ6, ⟨mc6, rfl⟩⟩ := hcut
     cases kq with
     | zero => exact absurd HA.out (by simp [letterlockref1_first.j2])
     | succ kj6 =>
      have H := HA.out
      clear HA
      simp only [letterlockref1_first.j2] at H
      have HC29 := Aside0.mk H
      clear H
      go_upto_region 20 with (fail)
      go_cut [62] (fun v62 wc => ∃ (kq : Nat) (x62_28 : Bool), v62 = .bool x62_28 ∧ Aside0 (letterlockref1_first.j3 kq a0 x4_6 x5_6 x6_6 x62_28 = some (r1, r2)) ∧ Aside0 (kq ≤ kj6) ∧ Drawn0 w wc)
      case first =>
       have H := HC29.out
       clear HC29
       by_cases c30 : x4_6 = 0
       ·rw [if_pos c30] at H
        have c30b0 : (x4_6 == 0) = true := beq_iff_eq.mpr c30
        have c30b1 : (x4_6 != 0) = false := bne_eq_false_iff_eq.mpr c30
        clear c30
        (first | rw [c30b0] | (simp only [i64_w, i32_w]; rw [c30b0]) | skip)
        have H' := Aside0.mk H
        clear H
        go_wp2
        go_meet
        case rel => exact ⟨_, (true), (by first | rfl | (simp; done) | (simp [*]; done)), H', ⟨by have := HJ6.out; first | omega | exact Nat.le_refl _⟩, by repeat (first | exact Drawn0.refl _ | apply Drawn0.step)⟩
       ·rw [if_neg c30] at H
        have c30b0 : (x4_6 == 0) = false := beq_eq_false_iff_ne.mpr c30
        have c30b1 : (x4_6 != 0) = true := bne_iff_ne.mpr c30
        (first | rw [c30b0] | (simp only [i64_w, i32_w]; rw [c30b0]) | skip)
        have H' := Aside0.mk H
        clear H
        go_wp2
        go_meet
        case rel => exact ⟨_, (decide ((a0.size : Int) < x4_6)), (by first | rfl | (simp; done) | (simp [*]; done)), H', ⟨by have := HJ6.out; first | omega | exact Nat.le_refl _⟩, by repeat (first | exact Drawn0.refl _ | apply Drawn0.step)⟩
      case rest =>
       clear HC29
       try clear c1
       try clear p1
       try clear q1
       try clear hx1
       try clear qi1
       try clear c2
       try clear c2b0
       try clear c2b1
       try clear p2
       try clear q2
       try clear hx2
       try clear qi2
       try clear c3
       try clear c3b0
       try clear c3b1
       try clear p3
       try clear p4
       try clear q4
       try clear hx4
       try clear qi4
       try clear c5
       try clear c5b0
       try clear c6
       try clear p6
       try clear q6
       try clear hx6
       try clear qi6
       try clear c7
       try clear p9
       try clear q9
       try clear hx9
       try clear qi9
       try clear c10
       try clear c10b0
       try clear p11
       try clear q11
       try clear hx11
       try clear qi11
       try clear c12
       try clear c13
       try clear c13b0
       try clear c13b1
       try clear c14
       try clear p14
       try clear q14
       try clear hx14
       try clear qi14
       try clear c16
       try clear c16b0
       try clear c16b1
       try clear p17
       try clear q17
       try clear hx17
       try clear qi17
       try clear c18
       try clear c18b0
       try clear p19
       try clear q19
       try clear hx19
       try clear qi19
       try clear c20
       try clear c21
       try clear c21b0
       try clear c21b1
       try clear p22
       try clear q22
       try clear hx22
       try clear qi22
       try clear c23
       try clear c23b0
       try clear c23b1
       try clear p24
       try clear q24
       try clear hx24
       try clear qi24
       try clear c25
       try clear c25b0
       try clear p26
       try clear q26
       try clear hx26
       try clear qi26
       try clear c27
       try clear c27b0
       try clear p28
       try clear q28
       try clear hx28
       try clear qi28
       try clear c30
       try clear c30b0
       try clear c30b1
       try clear p1
       try clear p11
       try clear p14
       try clear p17
       try clear p19
       try clear p2
       try clear p22
       try clear p24
       try clear p26
       try clear p28
       try clear p3
       try clear p4
       try clear p6
       try clear p9
       try clear q1
       try clear q11
       try clear q14
       try clear q17
       try clear q19
       try clear q2
       try clear q22
       try clear q24
       try clear q26
       try clear q28
       try clear q4
       try clear q6
       try clear q9
       obtain ⟨kq, x62_28, rfl, HA, HJ28, ⟨mc28, rfl⟩⟩ := hcut
       cases kq with
       | zero => exact absurd HA.out (by simp [letterlockref1_first.j3])
       | succ kj28 =>
        have H := HA.out
        clear HA
        simp only [letterlockref1_first.j3] at H
        by_cases c31 : x62_28 = true
        ·subst c31
         have H1 : (some (0, 0)) = some (r1, r2) := by rw [if_pos rfl] at H; exact H
         clear H
         have H := H1
         clear H1
         simp only [Option.some.injEq, Prod.mk.injEq] at H
         obtain ⟨rfl, rfl⟩ := H
         go_wp2
         go_ret2
         exact ⟨by first | rfl | (simp; done) | (simp [*]; done), by repeat (first | exact Drawn0.refl _ | apply Drawn0.step)⟩
        ·replace c31 := Bool.eq_false_iff.mpr c31
         subst c31
         have H1 : (letterlockref1_first.l0 kj28 a0 x4_6 x5_6 x6_6 1) = some (r1, r2) := by rw [if_neg (show ¬ (false = true) by decide)] at H; exact H
         clear H
         have H := H1
         clear H1
         have H' := Aside0.mk H
         clear H
         go_wp2
         go_loopg [5, 7] kj28 (fun kq v5 v7 w' => ∃ (x5_3 : Int) (x7_3 : Int), v5 = .int .i32 x5_3 ∧ v7 = .int .i64 x7_3 ∧ Aside0 (letterlockref1_first.l0 kq a0 x4_6 x5_3 x6_6 x7_3 = some (r1, r2)) ∧ Aside0 (kq ≤ kj28) ∧ Drawn0 w w')
         case atStart => exact ⟨(x5_6), (1), (by first | rfl | (simp; done) | (simp [*]; done)), (by first | rfl | (simp; done) | (simp [*]; done)), H', ⟨Nat.le_refl _⟩, by repeat (first | exact Drawn0.refl _ | apply Drawn0.step)⟩
         case round =>
          clear H'
          try clear c1
          try clear p1
          try clear q1
          try clear hx1
          try clear qi1
          try clear c2
          try clear c2b0
          try clear c2b1
          try clear p2
          try clear q2
          try clear hx2
          try clear qi2
          try clear c3
          try clear c3b0
          try clear c3b1
          try clear p3
          try clear p4
          try clear q4
          try clear hx4
          try clear qi4
          try clear c5
          try clear c5b0
          try clear c6
          try clear p6
          try clear q6
          try clear hx6
          try clear qi6
          try clear c7
          try clear p9
          try clear q9
          try clear hx9
          try clear qi9
          try clear c10
          try clear c10b0
          try clear p11
          try clear q11
          try clear hx11
          try clear qi11
          try clear c12
          try clear c13
          try clear c13b0
          try clear c13b1
          try clear c14
          try clear p14
          try clear q14
          try clear hx14
          try clear qi14
          try clear c16
          try clear c16b0
          try clear c16b1
          try clear p17
          try clear q17
          try clear hx17
          try clear qi17
          try clear c18
          try clear c18b0
          try clear p19
          try clear q19
          try clear hx19
          try clear qi19
          try clear c20
          try clear c21
          try clear c21b0
          try clear c21b1
          try clear p22
          try clear q22
          try clear hx22
          try clear qi22
          try clear c23
          try clear c23b0
          try clear c23b1
          try clear p24
          try clear q24
          try clear hx24
          try clear qi24
          try clear c25
          try clear c25b0
          try clear p26
          try clear q26
          try clear hx26
          try clear qi26
          try clear c27
          try clear c27b0
          try clear c28
          try clear p28
          try clear q28
          try clear hx28
          try clear qi28
          try clear c30
          try clear c30b0
          try clear c30b1
          try clear c31
          try clear p1
          try clear p11
          try clear p14
          try clear p17
          try clear p19
          try clear p2
          try clear p22
          try clear p24
          try clear p26
          try clear p28
          try clear p3
          try clear p4
          try clear p6
          try clear p9
          try clear q1
          try clear q11
          try clear q14
          try clear q17
          try clear q19
          try clear q2
          try clear q22
          try clear q24
          try clear q26
          try clear q28
          try clear q4
          try clear q6
          try clear q9
          obtain ⟨x5_3, x7_3, rfl, rfl, HA, HK3, ⟨m3, rfl⟩⟩ := hrel
          cases gk with
          | zero => exact absurd HA.out (by simp [letterlockref1_first.l0])
          | succ k3 =>
           have H := HA.out
           clear HA
           simp only [letterlockref1_first.l0] at H
           by_cases c32 : x7_3 < x4_6
           ·rw [if_pos c32] at H
            have c32b0 : decide (x7_3 < x4_6) = true := decide_eq_true c32
            clear c32
            by_cases c33 : 0 ≤ x7_3
            ·rw [if_pos c33] at H
             have c33b0 : decide (0 ≤ x7_3) = true := decide_eq_true c33
             clear c33
             by_cases c34 : x7_3 < (a0.size : Int)
             ·rw [if_pos c34] at H
              have c34b0 : decide (x7_3 < (a0.size : Int)) = true := decide_eq_true c34
              clear c34
              by_cases c36 : (bt a0 x7_3) < 128
              ·rw [if_pos c36] at H
               have c36b0 : decide ((bt a0 x7_3) < 128) = true := decide_eq_true c36
               clear c36
               simp only [Option.some.injEq, Prod.mk.injEq] at H
               obtain ⟨rfl, rfl⟩ := H
               have p35 : 0 ≤ (x7_3 : Int) := of_decide_eq_true (by first | (with_reducible assumption) | assumption)
               have q35 : x7_3 < (a0.size : Int) := of_decide_eq_true (by first | (with_reducible assumption) | assumption)
               have hx35 := bt_at a0 x7_3
               replace p35 := eq_true p35
               replace q35 := eq_true q35
               go_wp2
               go_ret2
               exact ⟨by first | rfl | (simp; done) | (simp [*]; done), by repeat (first | exact Drawn0.refl _ | apply Drawn0.step)⟩
              ·rw [if_neg c36] at H
               have c36b0 : decide ((bt a0 x7_3) < 128) = false := decide_eq_false c36
               clear c36
               by_cases c38 : (bt a0 x7_3) > 191
               ·rw [if_pos c38] at H
                have c38b0 : decide (191 < (bt a0 x7_3)) = true := decide_eq_true c38
                clear c38
                simp only [Option.some.injEq, Prod.mk.injEq] at H
                obtain ⟨rfl, rfl⟩ := H
                have p35 : 0 ≤ (x7_3 : Int) := of_decide_eq_true (by first | (with_reducible assumption) | assumption)
                have q35 : x7_3 < (a0.size : Int) := of_decide_eq_true (by first | (with_reducible assumption) | assumption)
                have hx35 := bt_at a0 x7_3
                replace p35 := eq_true p35
                replace q35 := eq_true q35
                have p37 : 0 ≤ (x7_3 : Int) := of_decide_eq_true (by first | (with_reducible assumption) | assumption)
                have q37 : x7_3 < (a0.size : Int) := of_decide_eq_true (by first | (with_reducible assumption) | assumption)
                have hx37 := bt_at a0 x7_3
                replace p37 := eq_true p37
                replace q37 := eq_true q37
                go_wp2
                go_ret2
                exact ⟨by first | rfl | (simp; done) | (simp [*]; done), by repeat (first | exact Drawn0.refl _ | apply Drawn0.step)⟩
               ·rw [if_neg c38] at H
                have c38b0 : decide (191 < (bt a0 x7_3)) = false := decide_eq_false c38
                clear c38
                have H' := Aside0.mk H
                clear H
                have p35 : 0 ≤ (x7_3 : Int) := of_decide_eq_true (by first | (with_reducible assumption) | assumption)
                have q35 : x7_3 < (a0.size : Int) := of_decide_eq_true (by first | (with_reducible assumption) | assumption)
                have hx35 := bt_at a0 x7_3
                replace p35 := eq_true p35
                replace q35 := eq_true q35
                have p37 : 0 ≤ (x7_3 : Int) := of_decide_eq_true (by first | (with_reducible assumption) | assumption)
                have q37 : x7_3 < (a0.size : Int) := of_decide_eq_true (by first | (with_reducible assumption) | assumption)
                have hx37 := bt_at a0 x7_3
                replace p37 := eq_true p37
                replace q37 := eq_true q37
                have p39 : 0 ≤ (x7_3 : Int) := of_decide_eq_true (by first | (with_reducible assumption) | assumption)
                have q39 : x7_3 < (a0.size : Int) := of_decide_eq_true (by first | (with_reducible assumption) | assumption)
                have hx39 := bt_at a0 x7_3
                replace p39 := eq_true p39
                replace q39 := eq_true q39
                go_wp2
                go_roundg k3
                case measure => have := HJ6.out; have := HJ28.out; have := HK3.out; omega
                case rel => exact ⟨(wrap32 ((wrap32 (64 * x5_3)) + (((bt a0 x7_3) - 128) % 256))), (wrap64 (x7_3 + 1)), (by first | rfl | (simp; done) | (simp [*]; done)), (by first | rfl | (simp; done) | (simp [*]; done)), H', ⟨by have := HJ6.out; have := HJ28.out; have := HK3.out; omega⟩, by repeat (first | exact Drawn0.refl _ | apply Drawn0.step)⟩
             ·rw [if_neg c34] at H
              exact absurd H (by simp)
            ·rw [if_neg c33] at H
             exact absurd H (by simp)
           ·rw [if_neg c32] at H
            have c32b0 : decide (x7_3 < x4_6) = false := decide_eq_false c32
            clear c32
            by_cases c40 : x5_3 < x6_6
            ·rw [if_pos c40] at H
             have c40b0 : decide (x5_3 < x6_6) = true := decide_eq_true c40
             clear c40
             simp only [Option.some.injEq, Prod.mk.injEq] at H
             obtain ⟨rfl, rfl⟩ := H
             go_wp2
             go_ret2
             exact ⟨by first | rfl | (simp; done) | (simp [*]; done), by repeat (first | exact Drawn0.refl _ | apply Drawn0.step)⟩
            ·rw [if_neg c40] at H
             have c40b0 : decide (x5_3 < x6_6) = false := decide_eq_false c40
             clear c40
             replace H := Option.bind_eq_some_iff.mp H
             obtain ⟨t188, A410, H⟩ := H
             replace H : (if t188 = true then (some (x5_3, x4_6)) else (some (0, 0))) = some (r1, r2) := H
             have A41 := Aside0.mk A410
             clear A410
             by_cases c42 : t188 = true
             ·subst c42
              have H1 : (some (x5_3, x4_6)) = some (r1, r2) := by rw [if_pos rfl] at H; exact H
              clear H
              have H := H1
              clear H1
              simp only [Option.some.injEq, Prod.mk.injEq] at H
              obtain ⟨rfl, rfl⟩ := H
              go_wp2_with (first | (go_at_call 139; (with_reducible refine (letterlockref1_valid.calls x5_3 true _ A41.out).mono ?_); rintro e w' ⟨rfl, ⟨nd, rfl⟩⟩))
              go_ret2
              exact ⟨by first | rfl | (simp; done) | (simp [*]; done), by repeat (first | exact Drawn0.refl _ | apply Drawn0.step)⟩
             ·replace c42 := Bool.eq_false_iff.mpr c42
              subst c42
              have H1 : (some (0, 0)) = some (r1, r2) := by rw [if_neg (show ¬ (false = true) by decide)] at H; exact H
              clear H
              have H := H1
              clear H1
              simp only [Option.some.injEq, Prod.mk.injEq] at H
              obtain ⟨rfl, rfl⟩ := H
              go_wp2_with (first | (go_at_call 139; (with_reducible refine (letterlockref1_valid.calls x5_3 false _ A41.out).mono ?_); rintro e w' ⟨rfl, ⟨nd, rfl⟩⟩))
              go_ret2
              exact ⟨by first | rfl | (simp; done) | (simp [*]; done), by repeat (first | exact Drawn0.refl _ | apply Drawn0.step)⟩
  ·rw [if_neg c3] at H
   exact absurd H (by simp)
end Go.Proofs.YtphehoidkmficaaGreatDoor.PA
end
section

namespace Go.Proofs.YtphehoidkmficaaGreatDoor.PA
open Go.RowKit Go.Proofs.YtphehoidkmficaaGreatDoorW.PrintWords Go.Proofs.YtphehoidkmficaaGreatDoorW.PrintLast Go.Proofs.YtphehoidkmficaaGreatDoorW.PrintMore
attribute [local go_sem] max2_int min2_int max_two min_two max_three min_three max_four min_four   -- for this text's walks alone
set_option linter.unusedVariables false
set_option linter.unusedSimpArgs false
def letterlockref1_Runes.l0 : Nat → ByteArray → List Int → Option (List Int × Int)
 | 0, _, _ => none
 | k + 1, x0, x4 => if x0.toList = ([] : List UInt8) then (some (x4, 0)) else ((letterlockref1_first.f k x0).bind fun bt189 => (if bt189.2 = 0 then (some (([] : List Int), 2)) else (if x4.length < 35184372088832 then (if 0 ≤ bt189.2 then (if bt189.2 ≤ (x0.size : Int) then (letterlockref1_Runes.l0 k (x0.extract (bt189.2 : Int).toNat x0.size) (x4 ++ [bt189.1])) else (none)) else (none)) else (none))))
def letterlockref1_Runes.f (k : Nat) (a0 : ByteArray) : Option (List Int × Int) := letterlockref1_Runes.l0 k a0 ([] : List Int)
set_option maxHeartbeats 8000000 in
set_option maxRecDepth 100000 in
theorem letterlockref1_Runes.calls (k : Nat) (a0 : ByteArray) (r1 : List Int) (r2 : Int) (w : World) (h : letterlockref1_Runes.f k a0 = some (r1, r2)) :
  Calls Tryz.prog 121 #[.string a0] w fun e w' => ∃ v0_ : Value, e = .returned (.tuple #[v0_, .int .i64 r2]) ∧ Kd.R (Kd.int .i32) 21 w' w.heap.size (fun _ => True) v0_ r1 ∧ Below w.heap.size w w' := by
 have HB := Aside0.mk (Below.refl w.heap.size w)
 have H : (letterlockref1_Runes.l0 k a0 ([] : List Int)) = some (r1, r2) := h
 clear h
 have H' := Aside0.mk H
 clear H
 go_enter Tryz.func121, Tryz.ntmps121
 go_wp2
 go_loopg [0, 4] k (fun kq v0 v4 w' => ∃ (x0_1 : ByteArray) (x4_1 : List Int), v0 = .string x0_1 ∧ Aside0 (letterlockref1_Runes.l0 kq x0_1 x4_1 = some (r1, r2)) ∧ Aside0 (kq ≤ k) ∧ Aside0 (Kd.R (Kd.int .i32) 21 w' w.heap.size (fun _ => True) v4 x4_1) ∧ Aside0 (Below w.heap.size w w'))
 case atStart => exact ⟨(a0), (([] : List Int)), (by first | rfl | (simp; done) | (simp [*]; done)), H', ⟨Nat.le_refl _⟩, ⟨by first | exact Kd.R_nil _ _ _ _ _ | exact Kd.N_nil _ _ _ _ _ | exact Kd.V_nil _ _ _ _ _ | exact Kd.Q_nil _ _ _ _ _ | exact Kd.S_nil _ _ _ _ _⟩, ⟨by repeat (first | (with_reducible first | exact HB.out | apply below_alloc | apply pw_below_drewN | apply below_drew1) | exact HB.out)⟩⟩
 case round =>
  clear H'
  try clear c1
  obtain ⟨x0_1, x4_1, rfl, HA, HK1, HO_4, HB⟩ := hrel
  cases gk with
  | zero => exact absurd HA.out (by simp [letterlockref1_Runes.l0])
  | succ k1 =>
   have H := HA.out
   clear HA
   simp only [letterlockref1_Runes.l0] at H
   by_cases c2 : x0_1.toList = ([] : List UInt8)
   ·rw [if_pos c2] at H
    have c2b0 : (x0_1.toList == ([] : List UInt8)) = true := beq_iff_eq.mpr c2
    have c2b1 : (x0_1.toList != ([] : List UInt8)) = false := bne_eq_false_iff_eq.mpr c2
    clear c2
    simp only [Option.some.injEq, Prod.mk.injEq] at H
    obtain ⟨rfl, rfl⟩ := H
    go_wp2
    go_ret2
    exact ⟨_, by first | rfl | (simp [errW_none, errW_some] <;> rfl) | (simp [*, errW_none, errW_some] <;> rfl), by (with_reducible repeat (first | apply Kd.R_alloc | apply Kd.R_drewN | apply Kd.R_drew)); exact HO_4.out, by repeat (first | (with_reducible first | exact HB.out | apply below_alloc | apply pw_below_drewN | apply below_drew1) | exact HB.out)⟩
   ·rw [if_neg c2] at H
    have c2b0 : (x0_1.toList == ([] : List UInt8)) = false := beq_eq_false_iff_ne.mpr c2
    have c2b1 : (x0_1.toList != ([] : List UInt8)) = true := bne_iff_ne.mpr c2
    replace H := Option.bind_eq_some_iff.mp H
    obtain ⟨⟨t189, t190⟩, A30, H⟩ := H
    replace H : (if t190 = 0 then (some (([] : List Int), 2)) else (if x4_1.length < 35184372088832 then (if 0 ≤ t190 then (if t190 ≤ (x0_1.size : Int) then (letterlockref1_Runes.l0 k1 (x0_1.extract (t190 : Int).toNat x0_1.size) (x4_1 ++ [t189])) else (none)) else (none)) else (none))) = some (r1, r2) := H
    have A3 := Aside0.mk A30
    clear A30
    by_cases c4 : t190 = 0
    ·rw [if_pos c4] at H
     have c4b0 : (t190 == 0) = true := beq_iff_eq.mpr c4
     have c4b1 : (t190 != 0) = false := bne_eq_false_iff_eq.mpr c4
     clear c4
     simp only [Option.some.injEq, Prod.mk.injEq] at H
     obtain ⟨rfl, rfl⟩ := H
     go_wp2_with (first | ((with_reducible refine gate_callee (f := 131) rfl ?_); refine goesL_ (some 11) rfl rfl Tryz.func131 (by kernel_rfl) rfl #[.string x0_1] rfl (by (try simp only [List.map_toArray, List.map_cons, List.map_nil]); first | done | rfl | (simp only [List.length_drop, List.length_take]; rfl)) ?_; (with_reducible refine (letterlockref1_first.calls k1 x0_1 t189 t190 _ A3.out).mono ?_); rintro e w' ⟨rfl, ⟨nd, rfl⟩⟩; refine ⟨_, rfl, ?_⟩))
     go_ret2
     exact ⟨_, by first | rfl | (simp [errW_none, errW_some] <;> rfl) | (simp [*, errW_none, errW_some] <;> rfl), by first | exact Kd.R_nil _ _ _ _ _ | exact Kd.N_nil _ _ _ _ _ | exact Kd.V_nil _ _ _ _ _ | exact Kd.Q_nil _ _ _ _ _ | exact Kd.S_nil _ _ _ _ _, by repeat (first | (with_reducible first | exact HB.out | apply below_alloc | apply pw_below_drewN | apply below_drew1) | exact HB.out)⟩
    ·rw [if_neg c4] at H
     have c4b0 : (t190 == 0) = false := beq_eq_false_iff_ne.mpr c4
     have c4b1 : (t190 != 0) = true := bne_iff_ne.mpr c4
     by_cases c5 : x4_1.length < 35184372088832
     ·rw [if_pos c5] at H
      have LMc5 := Aside0.mk c5
      clear c5
      obtain ⟨y191, hy191⟩ : ∃ y_ : List Int, y_ = (x4_1 ++ [t189]) := ⟨_, rfl⟩
      replace H : (if 0 ≤ t190 then (if t190 ≤ (x0_1.size : Int) then (letterlockref1_Runes.l0 k1 (x0_1.extract (t190 : Int).toNat x0_1.size) y191) else (none)) else (none)) = some (r1, r2) := by first | (rw [hy191]; with_reducible exact H) | (have H2_ := (Option.bind_some _ _).symm.trans H; rw [hy191]; with_reducible exact H2_) | (have H2_ := (Option.bind_some _ _).symm.trans H; with_reducible exact H2_) | with_reducible exact H | (rw [hy191]; exact H) | exact H
      have Ny191 := Aside0.mk hy191
      clear hy191
      by_cases c6 : 0 ≤ t190
      ·rw [if_pos c6] at H
       have c6b0 := eq_true c6
       have c6b1 : decide (0 ≤ t190) = true := decide_eq_true c6
       clear c6
       by_cases c7 : t190 ≤ (x0_1.size : Int)
       ·rw [if_pos c7] at H
        have c7b0 := eq_true c7
        have c7b1 : decide (t190 ≤ (x0_1.size : Int)) = true := decide_eq_true c7
        clear c7
        have H' := Aside0.mk H
        clear H
        go_wp2_with (first | ((with_reducible refine gate_callee (f := 131) rfl ?_); refine goesL_ (some 11) rfl rfl Tryz.func131 (by kernel_rfl) rfl #[.string x0_1] rfl (by (try simp only [List.map_toArray, List.map_cons, List.map_nil]); first | done | rfl | (simp only [List.length_drop, List.length_take]; rfl)) ?_; (with_reducible refine (letterlockref1_first.calls k1 x0_1 t189 t190 _ A3.out).mono ?_); rintro e w' ⟨rfl, ⟨nd, rfl⟩⟩; refine ⟨_, rfl, ?_⟩) | ((with_reducible refine gate_builtin (b := .append) (xs := #[.tmp 16, .tmp 18]) rfl ?_); at_builtin; refine Kd.R_append (Kd.int .i32) (w0 := w) w.heap.size rfl (.tmp 16) (.tmp 18) 130 21 (.int .i32 0) 4 rfl Tryz.underlying130 info21 rfl (by decide) (by omega) u4 x4_1 t189 [.int .i32 t189] (fun _ => True) (fun _ => False) rfl rfl ?aP (fun _ hk => hk.elim) ?aF ?aO ?aB ?aS ?aL ?_; (case aP => exact rfl); (case aB => exact (by repeat (first | (with_reducible first | exact HB.out | apply below_alloc | apply pw_below_drewN | apply below_drew1) | exact HB.out))); (case aF => exact (fun _ _ => trivial)); (case aO => exact (by (with_reducible repeat (first | apply Kd.R_alloc | apply Kd.R_drewN | apply Kd.R_drew)); exact HO_4.out)); (case aS => exact (below_size (by repeat (first | (with_reducible first | exact HB.out | apply below_alloc | apply pw_below_drewN | apply below_drew1) | exact HB.out)))); (case aL => have := LMc5.out; omega); intro v192 w8 ho hb hg hat; rw [← Ny191.out] at ho; have n0_ := Aside0.mk (hb); have n1_ := Aside0.mk (ho); clear HB; clear HO_4; have HB := n0_; have HO193 := n1_; clear n0_ n1_; clear ho hb hg hat))
        go_roundg k1
        case measure => have := HK1.out; omega
        case rel => exact ⟨(x0_1.extract (t190 : Int).toNat x0_1.size), (y191), (by first | rfl | (simp; done) | (simp [*]; done)), H', ⟨by have := HK1.out; omega⟩, ⟨by (with_reducible repeat (first | apply Kd.R_alloc | apply Kd.R_drewN | apply Kd.R_drew)); exact HO193.out⟩, ⟨by repeat (first | (with_reducible first | exact HB.out | apply below_alloc | apply pw_below_drewN | apply below_drew1) | exact HB.out)⟩⟩
       ·rw [if_neg c7] at H
        exact absurd H (by simp)
      ·rw [if_neg c6] at H
       exact absurd H (by simp)
     ·rw [if_neg c5] at H
      exact absurd H (by simp)
def letterlockref1_in.f (a0 : Int) (a1 : Int) (a2 : Int) : Option (Bool) := if a0 ≥ a1 then (some (decide (a0 ≤ a2))) else (some false)
set_option maxHeartbeats 8000000 in
set_option maxRecDepth 100000 in
theorem letterlockref1_in.calls (a0 : Int) (a1 : Int) (a2 : Int) (r : Bool) (w : World) (h : letterlockref1_in.f a0 a1 a2 = some r) :
  Calls Tryz.prog 132 #[.int .i32 a0, .int .i32 a1, .int .i32 a2] w fun e w' => e = .returned (.bool r) ∧ Drawn0 w w' := by
 have H : (if a0 ≥ a1 then (some (decide (a0 ≤ a2))) else (some false)) = some r := h
 clear h
 by_cases c4 : a0 ≥ a1
 ·rw [if_pos c4] at H
  have c4b0 : decide (a1 ≤ a0) = true := decide_eq_true c4
  clear c4
  obtain rfl := Option.some.inj H
  go_enter Tryz.func132, Tryz.ntmps132
  go_wp2
  go_ret
  exact ⟨by first | rfl | (simp; done) | (simp [*]; done), by repeat (first | exact Drawn0.refl _ | apply Drawn0.step)⟩
 ·rw [if_neg c4] at H
  have c4b0 : decide (a1 ≤ a0) = false := decide_eq_false c4
  clear c4
  obtain rfl := Option.some.inj H
  go_enter Tryz.func132, Tryz.ntmps132
  go_wp2
  go_ret
  exact ⟨by first | rfl | (simp; done) | (simp [*]; done), by repeat (first | exact Drawn0.refl _ | apply Drawn0.step)⟩
def letterlockref1_letter.f (a0 : Int) : Option (Bool) := (letterlockref1_in.f a0 97 122).bind fun t194 => (if t194 = true then (some true) else ((letterlockref1_in.f a0 48 57).bind fun t195 => (if t195 = true then (some true) else (if a0 = 45 then (some true) else ((letterlockref1_in.f a0 223 246).bind fun t196 => (if t196 = true then (some true) else ((letterlockref1_in.f a0 248 255).bind fun t197 => (if t197 = true then (some true) else ((letterlockref1_in.f a0 945 969).bind fun t198 => (if t198 = true then (some true) else ((letterlockref1_in.f a0 1072 1103).bind fun t199 => (some t199))))))))))))
set_option maxHeartbeats 8000000 in
set_option maxRecDepth 100000 in
theorem letterlockref1_letter.calls (a0 : Int) (r : Bool) (w : World) (h : letterlockref1_letter.f a0 = some r) :
  Calls Tryz.prog 122 #[.int .i32 a0] w fun e w' => e = .returned (.bool r) ∧ Drawn0 w w' := by
 have H : ((letterlockref1_in.f a0 97 122).bind fun t194 => (if t194 = true then (some true) else ((letterlockref1_in.f a0 48 57).bind fun t195 => (if t195 = true then (some true) else (if a0 = 45 then (some true) else ((letterlockref1_in.f a0 223 246).bind fun t196 => (if t196 = true then (some true) else ((letterlockref1_in.f a0 248 255).bind fun t197 => (if t197 = true then (some true) else ((letterlockref1_in.f a0 945 969).bind fun t198 => (if t198 = true then (some true) else ((letterlockref1_in.f a0 1072 1103).bind fun t199 => (some t199))))))))))))) = some r := h
 clear h
 replace H := Option.bind_eq_some_iff.mp H
 obtain ⟨t194, A20, H⟩ := H
 replace H : (if t194 = true then (some true) else ((letterlockref1_in.f a0 48 57).bind fun t195 => (if t195 = true then (some true) else (if a0 = 45 then (some true) else ((letterlockref1_in.f a0 223 246).bind fun t196 => (if t196 = true then (some true) else ((letterlockref1_in.f a0 248 255).bind fun t197 => (if t197 = true then (some true) else ((letterlockref1_in.f a0 945 969).bind fun t198 => (if t198 = true then (some true) else ((letterlockref1_in.f a0 1072 1103).bind fun t199 => (some t199)))))))))))) = some r := H
 have A2 := Aside0.mk A20
 clear A20
 by_cases c3 : t194 = true
 ·subst c3
  have H1 : (some true) = some r := by rw [if_pos rfl] at H; exact H
  clear H
  have H := H1
  clear H1
  obtain rfl := Option.some.inj H
  go_enter Tryz.func122, Tryz.ntmps122
  go_wp2_with (first | ((with_reducible refine gate_callee (f := 132) rfl ?_); refine goesL_ (some 4) rfl rfl Tryz.func132 (by kernel_rfl) rfl #[.int .i32 a0, .int .i32 97, .int .i32 122] rfl (by (try simp only [List.map_toArray, List.map_cons, List.map_nil]); first | done | rfl | (simp only [List.length_drop, List.length_take]; rfl)) ?_; (with_reducible refine (letterlockref1_in.calls a0 97 122 true _ A2.out).mono ?_); rintro e w' ⟨rfl, ⟨nd, rfl⟩⟩; refine ⟨_, rfl, ?_⟩))
  go_ret
  exact ⟨by first | rfl | (simp; done) | (simp [*]; done), by repeat (first | exact Drawn0.refl _ | apply Drawn0.step)⟩
 ·replace c3 := Bool.eq_false_iff.mpr c3
  subst c3
  have H1 : ((letterlockref1_in.f a0 48 57).bind fun t195 => (if t195 = true then (some true) else (if a0 = 45 then (some true) else ((letterlockref1_in.f a0 223 246).bind fun t196 => (if t196 = true then (some true) else ((letterlockref1_in.f a0 248 255).bind fun t197 => (if t197 = true then (some true) else ((letterlockref1_in.f a0 945 969).bind fun t198 => (if t198 = true then (some true) else ((letterlockref1_in.f a0 1072 1103).bind fun t199 => (some t199))))))))))) = some r := by rw [if_neg (show ¬ (false = true) by decide)] at H; exact H
  clear H
  have H := H1
  clear H1
  replace H := Option.bind_eq_some_iff.mp H
  obtain ⟨t195, A40, H⟩ := H
  replace H : (if t195 = true then (some true) else (if a0 = 45 then (some true) else ((letterlockref1_in.f a0 223 246).bind fun t196 => (if t196 = true then (some true) else ((letterlockref1_in.f a0 248 255).bind fun t197 => (if t197 = true then (some true) else ((letterlockref1_in.f a0 945 969).bind fun t198 => (if t198 = true then (some true) else ((letterlockref1_in.f a0 1072 1103).bind fun t199 => (some t199)))))))))) = some r := H
  have A4 := Aside0.mk A40
  clear A40
  by_cases c5 : t195 = true
  ·subst c5
   have H1 : (some true) = some r := by rw [if_pos rfl] at H; exact H
   clear H
   have H := H1
   clear H1
   obtain rfl := Option.some.inj H
   go_enter Tryz.func122, Tryz.ntmps122
   go_wp2_with (first | ((with_reducible refine gate_callee (f := 132) rfl ?_); refine goesL_ (some 4) rfl rfl Tryz.func132 (by kernel_rfl) rfl #[.int .i32 a0, .int .i32 97, .int .i32 122] rfl (by (try simp only [List.map_toArray, List.map_cons, List.map_nil]); first | done | rfl | (simp only [List.length_drop, List.length_take]; rfl)) ?_; (with_reducible refine (letterlockref1_in.calls a0 97 122 false _ A2.out).mono ?_); rintro e w' ⟨rfl, ⟨nd, rfl⟩⟩; refine ⟨_, rfl, ?_⟩) | (go_at_call 132; (with_reducible refine (letterlockref1_in.calls a0 48 57 true _ A4.out).mono ?_); rintro e w' ⟨rfl, ⟨nd, rfl⟩⟩))
   go_ret
   exact ⟨by first | rfl | (simp; done) | (simp [*]; done), by repeat (first | exact Drawn0.refl _ | apply Drawn0.step)⟩
  ·replace c5 := Bool.eq_false_iff.mpr c5
   subst c5
   have H1 : (if a0 = 45 then (some true) else ((letterlockref1_in.f a0 223 246).bind fun t196 => (if t196 = true then (some true) else ((letterlockref1_in.f a0 248 255).bind fun t197 => (if t197 = true then (some true) else ((letterlockref1_in.f a0 945 969).bind fun t198 => (if t198 = true then (some true) else ((letterlockref1_in.f a0 1072 1103).bind fun t199 => (some t199))))))))) = some r := by rw [if_neg (show ¬ (false = true) by decide)] at H; exact H
   clear H
   have H := H1
   clear H1
   by_cases c6 : a0 = 45
   ·rw [if_pos c6] at H
    have c6b0 : (a0 == 45) = true := beq_iff_eq.mpr c6
    have c6b1 : (a0 != 45) = false := bne_eq_false_iff_eq.mpr c6
    clear c6
    obtain rfl := Option.some.inj H
    go_enter Tryz.func122, Tryz.ntmps122
    go_wp2_with (first | ((with_reducible refine gate_callee (f := 132) rfl ?_); refine goesL_ (some 4) rfl rfl Tryz.func132 (by kernel_rfl) rfl #[.int .i32 a0, .int .i32 97, .int .i32 122] rfl (by (try simp only [List.map_toArray, List.map_cons, List.map_nil]); first | done | rfl | (simp only [List.length_drop, List.length_take]; rfl)) ?_; (with_reducible refine (letterlockref1_in.calls a0 97 122 false _ A2.out).mono ?_); rintro e w' ⟨rfl, ⟨nd, rfl⟩⟩; refine ⟨_, rfl, ?_⟩) | (go_at_call 132; (with_reducible refine (letterlockref1_in.calls a0 48 57 false _ A4.out).mono ?_); rintro e w' ⟨rfl, ⟨nd, rfl⟩⟩))
    go_ret
    exact ⟨by first | rfl | (simp; done) | (simp [*]; done), by repeat (first | exact Drawn0.refl _ | apply Drawn0.step)⟩
   ·rw [if_neg c6] at H
    have c6b0 : (a0 == 45) = false := beq_eq_false_iff_ne.mpr c6
    have c6b1 : (a0 != 45) = true := bne_iff_ne.mpr c6
    replace H := Option.bind_eq_some_iff.mp H
    obtain ⟨t196, A70, H⟩ := H
    replace H : (if t196 = true then (some true) else ((letterlockref1_in.f a0 248 255).bind fun t197 => (if t197 = true then (some true) else ((letterlockref1_in.f a0 945 969).bind fun t198 => (if t198 = true then (some true) else ((letterlockref1_in.f a0 1072 1103).bind fun t199 => (some t199))))))) = some r := H
    have A7 := Aside0.mk A70
    clear A70
    by_cases c8 : t196 = true
    ·subst c8
     have H1 : (some true) = some r := by rw [if_pos rfl] at H; exact H
     clear H
     have H := H1
     clear H1
     obtain rfl := Option.some.inj H
     go_enter Tryz.func122, Tryz.ntmps122
     go_wp2_with (first | ((with_reducible refine gate_callee (f := 132) rfl ?_); refine goesL_ (some 4) rfl rfl Tryz.func132 (by kernel_rfl) rfl #[.int .i32 a0, .int .i32 97, .int .i32 122] rfl (by (try simp only [List.map_toArray, List.map_cons, List.map_nil]); first | done | rfl | (simp only [List.length_drop, List.length_take]; rfl)) ?_; (with_reducible refine (letterlockref1_in.calls a0 97 122 false _ A2.out).mono ?_); rintro e w' ⟨rfl, ⟨nd, rfl⟩⟩; refine ⟨_, rfl, ?_⟩) | (go_at_call 132; (with_reducible refine (letterlockref1_in.calls a0 48 57 false _ A4.out).mono ?_); rintro e w' ⟨rfl, ⟨nd, rfl⟩⟩) | (go_at_call 132; (with_reducible refine (letterlockref1_in.calls a0 223 246 true _ A7.out).mono ?_); rintro e w' ⟨rfl, ⟨nd, rfl⟩⟩))
     go_ret
     exact ⟨by first | rfl | (simp; done) | (simp [*]; done), by repeat (first | exact Drawn0.refl _ | apply Drawn0.step)⟩
    ·replace c8 := Bool.eq_false_iff.mpr c8
     subst c8
     have H1 : ((letterlockref1_in.f a0 248 255).bind fun t197 => (if t197 = true then (some true) else ((letterlockref1_in.f a0 945 969).bind fun t198 => (if t198 = true then (some true) else ((letterlockref1_in.f a0 1072 1103).bind fun t199 => (some t199)))))) = some r := by rw [if_neg (show ¬ (false = true) by decide)] at H; exact H
     clear H
     have H := H1
     clear H1
     replace H := Option.bind_eq_some_iff.mp H
     obtain ⟨t197, A90, H⟩ := H
     replace H : (if t197 = true then (some true) else ((letterlockref1_in.f a0 945 969).bind fun t198 => (if t198 = true then (some true) else ((letterlockref1_in.f a0 1072 1103).bind fun t199 => (some t199))))) = some r := H
     have A9 := Aside0.mk A90
     clear A90
     by_cases c10 : t197 = true
     ·subst c10
      have H1 : (some true) = some r := by rw [if_pos rfl] at H; exact H
      clear H
      have H := H1
      clear H1
      obtain rfl := Option.some.inj H
      go_enter Tryz.func122, Tryz.ntmps122
      go_wp2_with (first | ((with_reducible refine gate_callee (f := 132) rfl ?_); refine goesL_ (some 4) rfl rfl Tryz.func132 (by kernel_rfl) rfl #[.int .i32 a0, .int .i32 97, .int .i32 122] rfl (by (try simp only [List.map_toArray, List.map_cons, List.map_nil]); first | done | rfl | (simp only [List.length_drop, List.length_take]; rfl)) ?_; (with_reducible refine (letterlockref1_in.calls a0 97 122 false _ A2.out).mono ?_); rintro e w' ⟨rfl, ⟨nd, rfl⟩⟩; refine ⟨_, rfl, ?_⟩) | (go_at_call 132; (with_reducible refine (letterlockref1_in.calls a0 48 57 false _ A4.out).mono ?_); rintro e w' ⟨rfl, ⟨nd, rfl⟩⟩) | (go_at_call 132; (with_reducible refine (letterlockref1_in.calls a0 223 246 false _ A7.out).mono ?_); rintro e w' ⟨rfl, ⟨nd, rfl⟩⟩) | (go_at_call 132; (with_reducible refine (letterlockref1_in.calls a0 248 255 true _ A9.out).mono ?_); rintro e w' ⟨rfl, ⟨nd, rfl⟩⟩))
      go_ret
      exact ⟨by first | rfl | (simp; done) | (simp [*]; done), by repeat (first | exact Drawn0.refl _ | apply Drawn0.step)⟩
     ·replace c10 := Bool.eq_false_iff.mpr c10
      subst c10
      have H1 : ((letterlockref1_in.f a0 945 969).bind fun t198 => (if t198 = true then (some true) else ((letterlockref1_in.f a0 1072 1103).bind fun t199 => (some t199)))) = some r := by rw [if_neg (show ¬ (false = true) by decide)] at H; exact H
      clear H
      have H := H1
      clear H1
      replace H := Option.bind_eq_some_iff.mp H
      obtain ⟨t198, A110, H⟩ := H
      replace H : (if t198 = true then (some true) else ((letterlockref1_in.f a0 1072 1103).bind fun t199 => (some t199))) = some r := H
      have A11 := Aside0.mk A110
      clear A110
      by_cases c12 : t198 = true
      ·subst c12
       have H1 : (some true) = some r := by rw [if_pos rfl] at H; exact H
       clear H
       have H := H1
       clear H1
       obtain rfl := Option.some.inj H
       go_enter Tryz.func122, Tryz.ntmps122
       go_wp2_with (first | ((with_reducible refine gate_callee (f := 132) rfl ?_); refine goesL_ (some 4) rfl rfl Tryz.func132 (by kernel_rfl) rfl #[.int .i32 a0, .int .i32 97, .int .i32 122] rfl (by (try simp only [List.map_toArray, List.map_cons, List.map_nil]); first | done | rfl | (simp only [List.length_drop, List.length_take]; rfl)) ?_; (with_reducible refine (letterlockref1_in.calls a0 97 122 false _ A2.out).mono ?_); rintro e w' ⟨rfl, ⟨nd, rfl⟩⟩; refine ⟨_, rfl, ?_⟩) | (go_at_call 132; (with_reducible refine (letterlockref1_in.calls a0 48 57 false _ A4.out).mono ?_); rintro e w' ⟨rfl, ⟨nd, rfl⟩⟩) | (go_at_call 132; (with_reducible refine (letterlockref1_in.calls a0 223 246 false _ A7.out).mono ?_); rintro e w' ⟨rfl, ⟨nd, rfl⟩⟩) | (go_at_call 132; (with_reducible refine (letterlockref1_in.calls a0 248 255 false _ A9.out).mono ?_); rintro e w' ⟨rfl, ⟨nd, rfl⟩⟩) | (go_at_call 132; (with_reducible refine (letterlockref1_in.calls a0 945 969 true _ A11.out).mono ?_); rintro e w' ⟨rfl, ⟨nd, rfl⟩⟩))
       go_ret
       exact ⟨by first | rfl | (simp; done) | (simp [*]; done), by repeat (first | exact Drawn0.refl _ | apply Drawn0.step)⟩
      ·replace c12 := Bool.eq_false_iff.mpr c12
       subst c12
       have H1 : ((letterlockref1_in.f a0 1072 1103).bind fun t199 => (some t199)) = some r := by rw [if_neg (show ¬ (false = true) by decide)] at H; exact H
       clear H
       have H := H1
       clear H1
       replace H := Option.bind_eq_some_iff.mp H
       obtain ⟨t199, A130, H⟩ := H
       replace H : (some t199) = some r := H
       have A13 := Aside0.mk A130
       clear A130
       obtain rfl := Option.some.inj H
       go_enter Tryz.func122, Tryz.ntmps122
       go_wp2_with (first | ((with_reducible refine gate_callee (f := 132) rfl ?_); refine goesL_ (some 4) rfl rfl Tryz.func132 (by kernel_rfl) rfl #[.int .i32 a0, .int .i32 97, .int .i32 122] rfl (by (try simp only [List.map_toArray, List.map_cons, List.map_nil]); first | done | rfl | (simp only [List.length_drop, List.length_take]; rfl)) ?_; (with_reducible refine (letterlockref1_in.calls a0 97 122 false _ A2.out).mono ?_); rintro e w' ⟨rfl, ⟨nd, rfl⟩⟩; refine ⟨_, rfl, ?_⟩) | (go_at_call 132; (with_reducible refine (letterlockref1_in.calls a0 48 57 false _ A4.out).mono ?_); rintro e w' ⟨rfl, ⟨nd, rfl⟩⟩) | (go_at_call 132; (with_reducible refine (letterlockref1_in.calls a0 223 246 false _ A7.out).mono ?_); rintro e w' ⟨rfl, ⟨nd, rfl⟩⟩) | (go_at_call 132; (with_reducible refine (letterlockref1_in.calls a0 248 255 false _ A9.out).mono ?_); rintro e w' ⟨rfl, ⟨nd, rfl⟩⟩) | (go_at_call 132; (with_reducible refine (letterlockref1_in.calls a0 945 969 false _ A11.out).mono ?_); rintro e w' ⟨rfl, ⟨nd, rfl⟩⟩) | (go_at_call 132; (with_reducible refine (letterlockref1_in.calls a0 1072 1103 t199 _ A13.out).mono ?_); rintro e w' ⟨rfl, ⟨nd, rfl⟩⟩))
       go_ret
       exact ⟨by first | rfl | (simp; done) | (simp [*]; done), by repeat (first | exact Drawn0.refl _ | apply Drawn0.step)⟩
mutual
def letterlockref1_Right.j0 : Nat → List Int → Bool → Option (Bool)
 | 0, _, _ => none
 | k + 1, x3, x22 => if x22 = true then (some false) else (letterlockref1_Right.l0 k x3 0)
def letterlockref1_Right.l0 : Nat → List Int → Int → Option (Bool)
 | 0, _, _ => none
 | k + 1, x3, x5 => if x5 < (x3.length : Int) then (if 0 ≤ x5 then ((letterlockref1_letter.f (rd x3 x5)).bind fun t205 => (if t205 = true then (letterlockref1_Right.l0 k x3 (wrap64 (x5 + 1))) else (some false))) else (none)) else (some true)
end
def letterlockref1_Right.f (k : Nat) (a0 : ByteArray) : Option (Bool) := (letterlockref1_Runes.f k a0).bind fun bt200 => (if bt200.2 = 0 then (if (bt200.1.length : Int) < 1 then (letterlockref1_Right.j0 k bt200.1 true) else (letterlockref1_Right.j0 k bt200.1 (decide ((bt200.1.length : Int) > 32)))) else (letterlockref1_Right.j0 k bt200.1 true))
set_option maxHeartbeats 8000000 in
set_option maxRecDepth 100000 in
theorem letterlockref1_Right.calls (k : Nat) (a0 : ByteArray) (r : Bool) (w : World) (h : letterlockref1_Right.f k a0 = some r) :
  Calls Tryz.prog 102 #[.string a0] w fun e w' => e = .returned (.bool r) ∧ Below w.heap.size w w' := by
 have HB := Aside0.mk (Below.refl w.heap.size w)
 have H : ((letterlockref1_Runes.f k a0).bind fun bt200 => (if bt200.2 = 0 then (if (bt200.1.length : Int) < 1 then (letterlockref1_Right.j0 k bt200.1 true) else (letterlockref1_Right.j0 k bt200.1 (decide ((bt200.1.length : Int) > 32)))) else (letterlockref1_Right.j0 k bt200.1 true))) = some r := h
 clear h
 replace H := Option.bind_eq_some_iff.mp H
 obtain ⟨⟨t200, t201⟩, A20, H⟩ := H
 replace H : (if t201 = 0 then (if (t200.length : Int) < 1 then (letterlockref1_Right.j0 k t200 true) else (letterlockref1_Right.j0 k t200 (decide ((t200.length : Int) > 32)))) else (letterlockref1_Right.j0 k t200 true)) = some r := H
 have A2 := Aside0.mk A20
 clear A20
 have HC3 := Aside0.mk H
 clear H
 go_enter Tryz.func102, Tryz.ntmps102
 go_upto_region 2 with (first | ((with_reducible refine gate_callee (f := 121) rfl ?_); refine goesL_ (some 8) rfl rfl Tryz.func121 (by kernel_rfl) rfl #[.string a0] rfl (by (try simp only [List.map_toArray, List.map_cons, List.map_nil]); first | done | rfl | (simp only [List.length_drop, List.length_take]; rfl)) ?_; (with_reducible refine (letterlockref1_Runes.calls k a0 t200 t201 _ A2.out).mono ?_); rintro e w4 ⟨v202, rfl, ho0, hb⟩; refine ⟨_, rfl, ?_⟩; have n0_ := Aside0.mk (Kd.R_lower ho0 (below_size (by repeat (first | (with_reducible first | exact HB.out | apply below_alloc | apply pw_below_drewN | apply below_drew1) | exact HB.out)))); have n1_ := Aside0.mk (below_step (by repeat (first | (with_reducible first | exact HB.out | apply below_alloc | apply pw_below_drewN | apply below_drew1) | exact HB.out)) hb); clear HB; have HO203 := n0_; have HB := n1_; clear n0_ n1_; (try clear hb); (try clear hb2); (try clear hk); (try clear hi); (try clear ho0)))
 (try simp only [Act.put, List.setIfInBounds_toArray, List.set_cons_zero, List.set_cons_succ])
 go_cut [22] (fun v22 wc => ∃ (kq : Nat) (x22_2 : Bool), v22 = .bool x22_2 ∧ Aside0 (letterlockref1_Right.j0 kq t200 x22_2 = some r) ∧ Aside0 (kq ≤ k) ∧ Aside0 (Kd.R (Kd.int .i32) 21 wc w.heap.size (fun _ => True) v202 t200) ∧ Aside0 (Below w.heap.size w wc))
 case first =>
  have H := HC3.out
  clear HC3
  by_cases c5 : t201 = 0
  ·rw [if_pos c5] at H
   have c5b0 : (t201 == 0) = true := beq_iff_eq.mpr c5
   have c5b1 : (t201 != 0) = false := bne_eq_false_iff_eq.mpr c5
   clear c5
   (first | rw [c5b0] | (simp only [i64_w, i32_w]; rw [c5b0]) | skip)
   by_cases c6 : (t200.length : Int) < 1
   ·rw [if_pos c6] at H
    have c6b0 : decide ((t200.length : Int) < 1) = true := decide_eq_true c6
    have c6b1 : decide (t200.length < 1) = true := decide_eq_true (by omega)
    clear c6
    have H' := Aside0.mk H
    clear H
    obtain ⟨Ao7, co7, eo7⟩ := Kd.R_slice HO203.out
    subst eo7
    go_wp2
    go_meet
    case rel => exact ⟨_, (true), (by first | rfl | (simp; done) | (simp [*]; done)), H', ⟨by first | omega | exact Nat.le_refl _⟩, ⟨by (with_reducible repeat (first | apply Kd.R_alloc | apply Kd.R_drewN | apply Kd.R_drew)); exact HO203.out⟩, ⟨by repeat (first | (with_reducible first | exact HB.out | apply below_alloc | apply pw_below_drewN | apply below_drew1) | exact HB.out)⟩⟩
   ·rw [if_neg c6] at H
    have c6b0 : decide ((t200.length : Int) < 1) = false := decide_eq_false c6
    have c6b1 : decide (t200.length < 1) = false := decide_eq_false (by omega)
    clear c6
    have H' := Aside0.mk H
    clear H
    obtain ⟨Ao8, co8, eo8⟩ := Kd.R_slice HO203.out
    subst eo8
    go_wp2
    go_meet
    case rel => exact ⟨_, (decide ((t200.length : Int) > 32)), (by first | rfl | (simp; done) | (simp [*]; done)), H', ⟨by first | omega | exact Nat.le_refl _⟩, ⟨by (with_reducible repeat (first | apply Kd.R_alloc | apply Kd.R_drewN | apply Kd.R_drew)); exact HO203.out⟩, ⟨by repeat (first | (with_reducible first | exact HB.out | apply below_alloc | apply pw_below_drewN | apply below_drew1) | exact HB.out)⟩⟩
  ·rw [if_neg c5] at H
   have c5b0 : (t201 == 0) = false := beq_eq_false_iff_ne.mpr c5
   have c5b1 : (t201 != 0) = true := bne_iff_ne.mpr c5
   (first | rw [c5b0] | (simp only [i64_w, i32_w]; rw [c5b0]) | skip)
   have H' := Aside0.mk H
   clear H
   go_wp2
   go_meet
   case rel => exact ⟨_, (true), (by first | rfl | (simp; done) | (simp [*]; done)), H', ⟨by first | omega | exact Nat.le_refl _⟩, ⟨by (with_reducible repeat (first | apply Kd.R_alloc | apply Kd.R_drewN | apply Kd.R_drew)); exact HO203.out⟩, ⟨by repeat (first | (with_reducible first | exact HB.out | apply below_alloc | apply pw_below_drewN | apply below_drew1) | exact HB.out)⟩⟩
 case rest =>
  clear HC3
  try clear c1
  try clear p2
  try clear c5
  try clear c5b0
  try clear c5b1
  try clear c6
  try clear c6b0
  try clear c6b1
  obtain ⟨kq, x22_2, rfl, HA, HJ2, HO_3, HB⟩ := hcut
  cases kq with
  | zero => exact absurd HA.out (by simp [letterlockref1_Right.j0])
  | succ kj2 =>
   have H := HA.out
   clear HA
   simp only [letterlockref1_Right.j0] at H
   by_cases c9 : x22_2 = true
   ·subst c9
    have H1 : (some false) = some r := by rw [if_pos rfl] at H; exact H
    clear H
    have H := H1
    clear H1
    obtain rfl := Option.some.inj H
    go_wp2
    go_ret
    exact ⟨by first | rfl | (simp [errW_none, errW_some] <;> rfl) | (simp [*, errW_none, errW_some] <;> rfl), by repeat (first | (with_reducible first | exact HB.out | apply below_alloc | apply pw_below_drewN | apply below_drew1) | exact HB.out)⟩
   ·replace c9 := Bool.eq_false_iff.mpr c9
    subst c9
    have H1 : (letterlockref1_Right.l0 kj2 t200 0) = some r := by rw [if_neg (show ¬ (false = true) by decide)] at H; exact H
    clear H
    have H := H1
    clear H1
    have H' := Aside0.mk H
    clear H
    go_wp2
    go_loopg [5] kj2 (fun kq v5 w' => ∃ (x5_2 : Int), v5 = .int .i64 x5_2 ∧ Aside0 (letterlockref1_Right.l0 kq t200 x5_2 = some r) ∧ Aside0 (kq ≤ kj2) ∧ Aside0 (Kd.R (Kd.int .i32) 21 w' w.heap.size (fun _ => True) v202 t200) ∧ Aside0 (Below w.heap.size w w'))
    case atStart => exact ⟨(0), (by first | rfl | (simp; done) | (simp [*]; done)), H', ⟨Nat.le_refl _⟩, ⟨by (with_reducible repeat (first | apply Kd.R_alloc | apply Kd.R_drewN | apply Kd.R_drew)); exact HO_3.out⟩, ⟨by repeat (first | (with_reducible first | exact HB.out | apply below_alloc | apply pw_below_drewN | apply below_drew1) | exact HB.out)⟩⟩
    case round =>
     clear H'
     try clear c1
     try clear p2
     try clear c5
     try clear c5b0
     try clear c5b1
     try clear c6
     try clear c6b0
     try clear c6b1
     try clear c9
     try clear p2
     obtain ⟨x5_2, rfl, HA, HK2, HO_3, HB⟩ := hrel
     cases gk with
     | zero => exact absurd HA.out (by simp [letterlockref1_Right.l0])
     | succ k2 =>
      have H := HA.out
      clear HA
      simp only [letterlockref1_Right.l0] at H
      by_cases c10 : x5_2 < (t200.length : Int)
      ·rw [if_pos c10] at H
       have c10b0 : decide (x5_2 < (t200.length : Int)) = true := decide_eq_true c10
       clear c10
       by_cases c11 : 0 ≤ x5_2
       ·rw [if_pos c11] at H
        have c11b0 : decide (0 ≤ x5_2) = true := decide_eq_true c11
        clear c11
        replace H := Option.bind_eq_some_iff.mp H
        obtain ⟨t205, A120, H⟩ := H
        replace H : (if t205 = true then (letterlockref1_Right.l0 k2 t200 (wrap64 (x5_2 + 1))) else (some false)) = some r := H
        have A12 := Aside0.mk A120
        clear A120
        by_cases c13 : t205 = true
        ·subst c13
         have H1 : (letterlockref1_Right.l0 k2 t200 (wrap64 (x5_2 + 1))) = some r := by rw [if_pos rfl] at H; exact H
         clear H
         have H := H1
         clear H1
         have H' := Aside0.mk H
         clear H
         obtain ⟨Ao14, co14, eo14⟩ := Kd.R_slice HO_3.out
         subst eo14
         have p204 : 0 ≤ (x5_2 : Int) := of_decide_eq_true (by first | (with_reducible assumption) | assumption)
         have q204 : x5_2 < (t200.length : Int) := of_decide_eq_true (by first | (with_reducible assumption) | assumption)
         obtain ⟨ad204, e204, hx204_0⟩ := Kd.at_int (Kd.R_reads' HO_3.out).2.2 x5_2 p204 q204
         cases e204
         replace p204 := eq_true p204
         replace q204 := eq_true q204
         go_wp2_with (first | ((with_reducible refine gate_callee (f := 122) rfl ?_); refine goesL_ (some 33) rfl rfl Tryz.func122 (by kernel_rfl) rfl #[.int .i32 (rd t200 x5_2)] rfl (by (try simp only [List.map_toArray, List.map_cons, List.map_nil]); first | done | rfl | (simp only [List.length_drop, List.length_take]; rfl)) ?_; (with_reducible refine (letterlockref1_letter.calls (rd t200 x5_2) true _ A12.out).mono ?_); rintro e w' ⟨rfl, ⟨nd, rfl⟩⟩; refine ⟨_, rfl, ?_⟩))
         go_roundg k2
         case measure => have := HJ2.out; have := HK2.out; omega
         case rel => exact ⟨(wrap64 (x5_2 + 1)), (by first | rfl | (simp; done) | (simp [*]; done)), H', ⟨by have := HJ2.out; have := HK2.out; omega⟩, ⟨by (with_reducible repeat (first | apply Kd.R_alloc | apply Kd.R_drewN | apply Kd.R_drew)); exact HO_3.out⟩, ⟨by repeat (first | (with_reducible first | exact HB.out | apply below_alloc | apply pw_below_drewN | apply below_drew1) | exact HB.out)⟩⟩
        ·replace c13 := Bool.eq_false_iff.mpr c13
         subst c13
         have H1 : (some false) = some r := by rw [if_neg (show ¬ (false = true) by decide)] at H; exact H
         clear H
         have H := H1
         clear H1
         obtain rfl := Option.some.inj H
         obtain ⟨Ao15, co15, eo15⟩ := Kd.R_slice HO_3.out
         subst eo15
         have p204 : 0 ≤ (x5_2 : Int) := of_decide_eq_true (by first | (with_reducible assumption) | assumption)
         have q204 : x5_2 < (t200.length : Int) := of_decide_eq_true (by first | (with_reducible assumption) | assumption)
         obtain ⟨ad204, e204, hx204_0⟩ := Kd.at_int (Kd.R_reads' HO_3.out).2.2 x5_2 p204 q204
         cases e204
         replace p204 := eq_true p204
         replace q204 := eq_true q204
         go_wp2_with (first | ((with_reducible refine gate_callee (f := 122) rfl ?_); refine goesL_ (some 33) rfl rfl Tryz.func122 (by kernel_rfl) rfl #[.int .i32 (rd t200 x5_2)] rfl (by (try simp only [List.map_toArray, List.map_cons, List.map_nil]); first | done | rfl | (simp only [List.length_drop, List.length_take]; rfl)) ?_; (with_reducible refine (letterlockref1_letter.calls (rd t200 x5_2) false _ A12.out).mono ?_); rintro e w' ⟨rfl, ⟨nd, rfl⟩⟩; refine ⟨_, rfl, ?_⟩))
         go_ret
         exact ⟨by first | rfl | (simp [errW_none, errW_some] <;> rfl) | (simp [*, errW_none, errW_some] <;> rfl), by repeat (first | (with_reducible first | exact HB.out | apply below_alloc | apply pw_below_drewN | apply below_drew1) | exact HB.out)⟩
       ·rw [if_neg c11] at H
        exact absurd H (by simp)
      ·rw [if_neg c10] at H
       have c10b0 : decide (x5_2 < (t200.length : Int)) = false := decide_eq_false c10
       clear c10
       obtain rfl := Option.some.inj H
       obtain ⟨Ao16, co16, eo16⟩ := Kd.R_slice HO_3.out
       subst eo16
       go_wp2
       go_ret
       exact ⟨by first | rfl | (simp [errW_none, errW_some] <;> rfl) | (simp [*, errW_none, errW_some] <;> rfl), by repeat (first | (with_reducible first | exact HB.out | apply below_alloc | apply pw_below_drewN | apply below_drew1) | exact HB.out)⟩
def letterlockref1_Split.l0 : Nat → ByteArray → Int → Option (ByteArray × ByteArray × Int)
 | 0, _, _ => none
 | k + 1, x0, x5 => if x5 < (x0.size : Int) then (if 0 ≤ x5 then (if (bt x0 x5) = 47 then (if x5 ≤ (x0.size : Int) then (if 0 ≤ (wrap64 (x5 + 1)) then (if (wrap64 (x5 + 1)) ≤ (x0.size : Int) then ((letterlockref1_Right.f k (x0.extract 0 (x5 : Int).toNat)).bind fun t206 => (if t206 = true then ((letterlockref1_Right.f k (x0.extract ((wrap64 (x5 + 1)) : Int).toNat x0.size)).bind fun t207 => (if t207 = true then (some (x0.extract 0 (x5 : Int).toNat, x0.extract ((wrap64 (x5 + 1)) : Int).toNat x0.size, 0)) else (some ((⟨#[]⟩ : ByteArray), (⟨#[]⟩ : ByteArray), 3)))) else (some ((⟨#[]⟩ : ByteArray), (⟨#[]⟩ : ByteArray), 3)))) else (none)) else (none)) else (none)) else (letterlockref1_Split.l0 k x0 (wrap64 (x5 + 1)))) else (none)) else (some ((⟨#[]⟩ : ByteArray), (⟨#[]⟩ : ByteArray), 3))
def letterlockref1_Split.f (k : Nat) (a0 : ByteArray) : Option (ByteArray × ByteArray × Int) := letterlockref1_Split.l0 k a0 0
set_option maxHeartbeats 8000000 in
set_option maxRecDepth 100000 in
theorem letterlockref1_Split.calls (k : Nat) (a0 : ByteArray) (r1 : ByteArray) (r2 : ByteArray) (r3 : Int) (w : World) (h : letterlockref1_Split.f k a0 = some (r1, r2, r3)) :
  Calls Tryz.prog 56 #[.string a0] w fun e w' => e = .returned (.tuple #[.string r1, .string r2, .int .i64 r3]) ∧ Below w.heap.size w w' := by
 have HB := Aside0.mk (Below.refl w.heap.size w)
 have H : (letterlockref1_Split.l0 k a0 0) = some (r1, r2, r3) := h
 clear h
 have H' := Aside0.mk H
 clear H
 go_enter Tryz.func56, Tryz.ntmps56
 go_wp2
 go_loopg [5] k (fun kq v5 w' => ∃ (x5_1 : Int), v5 = .int .i64 x5_1 ∧ Aside0 (letterlockref1_Split.l0 kq a0 x5_1 = some (r1, r2, r3)) ∧ Aside0 (kq ≤ k) ∧ Aside0 (Below w.heap.size w w'))
 case atStart => exact ⟨(0), (by first | rfl | (simp; done) | (simp [*]; done)), H', ⟨Nat.le_refl _⟩, ⟨by repeat (first | (with_reducible first | exact HB.out | apply below_alloc | apply pw_below_drewN | apply below_drew1) | exact HB.out)⟩⟩
 case round =>
  clear H'
  obtain ⟨x5_1, rfl, HA, HK1, HB⟩ := hrel
  cases gk with
  | zero => exact absurd HA.out (by simp [letterlockref1_Split.l0])
  | succ k1 =>
   have H := HA.out
   clear HA
   simp only [letterlockref1_Split.l0] at H
   by_cases c2 : x5_1 < (a0.size : Int)
   ·rw [if_pos c2] at H
    have c2b0 : decide (x5_1 < (a0.size : Int)) = true := decide_eq_true c2
    clear c2
    by_cases c3 : 0 ≤ x5_1
    ·rw [if_pos c3] at H
     have c3b0 : decide (0 ≤ x5_1) = true := decide_eq_true c3
     clear c3
     by_cases c5 : (bt a0 x5_1) = 47
     ·rw [if_pos c5] at H
      have c5b0 : ((bt a0 x5_1) == 47) = true := beq_iff_eq.mpr c5
      have c5b1 : ((bt a0 x5_1) != 47) = false := bne_eq_false_iff_eq.mpr c5
      clear c5
      have c6b0 := eq_true (of_decide_eq_true (by first | (with_reducible assumption) | assumption) : 0 ≤ x5_1)
      by_cases c7 : x5_1 ≤ (a0.size : Int)
      ·rw [if_pos c7] at H
       have c7b0 := eq_true c7
       have c7b1 : decide (x5_1 ≤ (a0.size : Int)) = true := decide_eq_true c7
       clear c7
       obtain ⟨ji8, hji8⟩ : ∃ j_ : Int, (wrap64 (x5_1 + 1)) = j_ := ⟨_, rfl⟩
       replace H : (if 0 ≤ (ji8) then (if (ji8) ≤ (a0.size : Int) then ((letterlockref1_Right.f k1 (a0.extract 0 (x5_1 : Int).toNat)).bind fun t206 => (if t206 = true then ((letterlockref1_Right.f k1 (a0.extract ((ji8) : Int).toNat a0.size)).bind fun t207 => (if t207 = true then (some (a0.extract 0 (x5_1 : Int).toNat, a0.extract ((ji8) : Int).toNat a0.size, 0)) else (some ((⟨#[]⟩ : ByteArray), (⟨#[]⟩ : ByteArray), 3)))) else (some ((⟨#[]⟩ : ByteArray), (⟨#[]⟩ : ByteArray), 3)))) else (none)) else (none)) = some (r1, r2, r3) := by first | (rw [hji8] at H; exact H) | (simp only [hji8] at H ⊢; exact H)
       have hji8w : (IntKind.i64.wrap (x5_1 + 1)) = ji8 := (i64_w _).trans hji8
       by_cases c9 : 0 ≤ (ji8)
       ·rw [if_pos c9] at H
        have c9b0 := eq_true c9
        have c9b1 : decide (0 ≤ (ji8)) = true := decide_eq_true c9
        clear c9
        by_cases c10 : (ji8) ≤ (a0.size : Int)
        ·rw [if_pos c10] at H
         have c10b0 := eq_true c10
         have c10b1 : decide ((ji8) ≤ (a0.size : Int)) = true := decide_eq_true c10
         clear c10
         replace H := Option.bind_eq_some_iff.mp H
         obtain ⟨t206, A110, H⟩ := H
         replace H : (if t206 = true then ((letterlockref1_Right.f k1 (a0.extract ((ji8) : Int).toNat a0.size)).bind fun t207 => (if t207 = true then (some (a0.extract 0 (x5_1 : Int).toNat, a0.extract ((ji8) : Int).toNat a0.size, 0)) else (some ((⟨#[]⟩ : ByteArray), (⟨#[]⟩ : ByteArray), 3)))) else (some ((⟨#[]⟩ : ByteArray), (⟨#[]⟩ : ByteArray), 3))) = some (r1, r2, r3) := H
         have A11 := Aside0.mk A110
         clear A110
         by_cases c12 : t206 = true
         ·subst c12
          have H1 : ((letterlockref1_Right.f k1 (a0.extract ((ji8) : Int).toNat a0.size)).bind fun t207 => (if t207 = true then (some (a0.extract 0 (x5_1 : Int).toNat, a0.extract ((ji8) : Int).toNat a0.size, 0)) else (some ((⟨#[]⟩ : ByteArray), (⟨#[]⟩ : ByteArray), 3)))) = some (r1, r2, r3) := by rw [if_pos rfl] at H; exact H
          clear H
          have H := H1
          clear H1
          replace H := Option.bind_eq_some_iff.mp H
          obtain ⟨t207, A130, H⟩ := H
          replace H : (if t207 = true then (some (a0.extract 0 (x5_1 : Int).toNat, a0.extract ((ji8) : Int).toNat a0.size, 0)) else (some ((⟨#[]⟩ : ByteArray), (⟨#[]⟩ : ByteArray), 3))) = some (r1, r2, r3) := H
          have A13 := Aside0.mk A130
          clear A130
          by_cases c14 : t207 = true
          ·subst c14
           have H1 : (some (a0.extract 0 (x5_1 : Int).toNat, a0.extract ((ji8) : Int).toNat a0.size, 0)) = some (r1, r2, r3) := by rw [if_pos rfl] at H; exact H
           clear H
           have H := H1
           clear H1
           simp only [Option.some.injEq, Prod.mk.injEq] at H
           obtain ⟨rfl, rfl, rfl⟩ := H
           have p4 : 0 ≤ (x5_1 : Int) := of_decide_eq_true (by first | (with_reducible assumption) | assumption)
           have q4 : x5_1 < (a0.size : Int) := of_decide_eq_true (by first | (with_reducible assumption) | assumption)
           have hx4 := bt_at a0 x5_1
           replace p4 := eq_true p4
           replace q4 := eq_true q4
           go_wp2_with (first | ((with_reducible refine gate_callee (f := 102) rfl ?_); refine goesL_ (some 26) rfl rfl Tryz.func102 (by kernel_rfl) rfl #[.string (a0.extract 0 (x5_1 : Int).toNat)] rfl (by (try simp only [List.map_toArray, List.map_cons, List.map_nil]); first | done | rfl | (simp only [List.length_drop, List.length_take]; rfl)) ?_; (with_reducible refine (letterlockref1_Right.calls k1 (a0.extract 0 (x5_1 : Int).toNat) true _ A11.out).mono ?_); rintro e w15 ⟨rfl, hb⟩; refine ⟨_, rfl, ?_⟩; have n0_ := Aside0.mk (below_step (by repeat (first | (with_reducible first | exact HB.out | apply below_alloc | apply pw_below_drewN | apply below_drew1) | exact HB.out)) hb); clear HB; have HB := n0_; clear n0_; (try clear hb); (try clear hb2); (try clear hk); (try clear hi)) | (go_at_call 102; (with_reducible refine (letterlockref1_Right.calls k1 (a0.extract ((ji8) : Int).toNat a0.size) true _ A13.out).mono ?_); rintro e w16 ⟨rfl, hb⟩; have n0_ := Aside0.mk (below_step (by repeat (first | (with_reducible first | exact HB.out | apply below_alloc | apply pw_below_drewN | apply below_drew1) | exact HB.out)) hb); clear HB; have HB := n0_; clear n0_; (try clear hb); (try clear hb2); (try clear hk); (try clear hi)))
           go_ret3
           exact ⟨by first | rfl | (simp [errW_none, errW_some] <;> rfl) | (simp only [← hji8]; first | rfl | (simp [errW_none, errW_some] <;> rfl)) | (simp [*, errW_none, errW_some] <;> rfl), by repeat (first | (with_reducible first | exact HB.out | apply below_alloc | apply pw_below_drewN | apply below_drew1) | exact HB.out)⟩
          ·replace c14 := Bool.eq_false_iff.mpr c14
           subst c14
           have H1 : (some ((⟨#[]⟩ : ByteArray), (⟨#[]⟩ : ByteArray), 3)) = some (r1, r2, r3) := by rw [if_neg (show ¬ (false = true) by decide)] at H; exact H
           clear H
           have H := H1
           clear H1
           simp only [Option.some.injEq, Prod.mk.injEq] at H
           obtain ⟨rfl, rfl, rfl⟩ := H
           have p4 : 0 ≤ (x5_1 : Int) := of_decide_eq_true (by first | (with_reducible assumption) | assumption)
           have q4 : x5_1 < (a0.size : Int) := of_decide_eq_true (by first | (with_reducible assumption) | assumption)
           have hx4 := bt_at a0 x5_1
           replace p4 := eq_true p4
           replace q4 := eq_true q4
           go_wp2_with (first | ((with_reducible refine gate_callee (f := 102) rfl ?_); refine goesL_ (some 26) rfl rfl Tryz.func102 (by kernel_rfl) rfl #[.string (a0.extract 0 (x5_1 : Int).toNat)] rfl (by (try simp only [List.map_toArray, List.map_cons, List.map_nil]); first | done | rfl | (simp only [List.length_drop, List.length_take]; rfl)) ?_; (with_reducible refine (letterlockref1_Right.calls k1 (a0.extract 0 (x5_1 : Int).toNat) true _ A11.out).mono ?_); rintro e w17 ⟨rfl, hb⟩; refine ⟨_, rfl, ?_⟩; have n0_ := Aside0.mk (below_step (by repeat (first | (with_reducible first | exact HB.out | apply below_alloc | apply pw_below_drewN | apply below_drew1) | exact HB.out)) hb); clear HB; have HB := n0_; clear n0_; (try clear hb); (try clear hb2); (try clear hk); (try clear hi)) | (go_at_call 102; (with_reducible refine (letterlockref1_Right.calls k1 (a0.extract ((ji8) : Int).toNat a0.size) false _ A13.out).mono ?_); rintro e w18 ⟨rfl, hb⟩; have n0_ := Aside0.mk (below_step (by repeat (first | (with_reducible first | exact HB.out | apply below_alloc | apply pw_below_drewN | apply below_drew1) | exact HB.out)) hb); clear HB; have HB := n0_; clear n0_; (try clear hb); (try clear hb2); (try clear hk); (try clear hi)))
           go_ret3
           exact ⟨by first | rfl | (simp [errW_none, errW_some] <;> rfl) | (simp only [← hji8]; first | rfl | (simp [errW_none, errW_some] <;> rfl)) | (simp [*, errW_none, errW_some] <;> rfl), by repeat (first | (with_reducible first | exact HB.out | apply below_alloc | apply pw_below_drewN | apply below_drew1) | exact HB.out)⟩
         ·replace c12 := Bool.eq_false_iff.mpr c12
          subst c12
          have H1 : (some ((⟨#[]⟩ : ByteArray), (⟨#[]⟩ : ByteArray), 3)) = some (r1, r2, r3) := by rw [if_neg (show ¬ (false = true) by decide)] at H; exact H
          clear H
          have H := H1
          clear H1
          simp only [Option.some.injEq, Prod.mk.injEq] at H
          obtain ⟨rfl, rfl, rfl⟩ := H
          have p4 : 0 ≤ (x5_1 : Int) := of_decide_eq_true (by first | (with_reducible assumption) | assumption)
          have q4 : x5_1 < (a0.size : Int) := of_decide_eq_true (by first | (with_reducible assumption) | assumption)
          have hx4 := bt_at a0 x5_1
          replace p4 := eq_true p4
          replace q4 := eq_true q4
          go_wp2_with (first | ((with_reducible refine gate_callee (f := 102) rfl ?_); refine goesL_ (some 26) rfl rfl Tryz.func102 (by kernel_rfl) rfl #[.string (a0.extract 0 (x5_1 : Int).toNat)] rfl (by (try simp only [List.map_toArray, List.map_cons, List.map_nil]); first | done | rfl | (simp only [List.length_drop, List.length_take]; rfl)) ?_; (with_reducible refine (letterlockref1_Right.calls k1 (a0.extract 0 (x5_1 : Int).toNat) false _ A11.out).mono ?_); rintro e w19 ⟨rfl, hb⟩; refine ⟨_, rfl, ?_⟩; have n0_ := Aside0.mk (below_step (by repeat (first | (with_reducible first | exact HB.out | apply below_alloc | apply pw_below_drewN | apply below_drew1) | exact HB.out)) hb); clear HB; have HB := n0_; clear n0_; (try clear hb); (try clear hb2); (try clear hk); (try clear hi)))
          go_ret3
          exact ⟨by first | rfl | (simp [errW_none, errW_some] <;> rfl) | (simp only [← hji8]; first | rfl | (simp [errW_none, errW_some] <;> rfl)) | (simp [*, errW_none, errW_some] <;> rfl), by repeat (first | (with_reducible first | exact HB.out | apply below_alloc | apply pw_below_drewN | apply below_drew1) | exact HB.out)⟩
        ·rw [if_neg c10] at H
         exact absurd H (by simp)
       ·rw [if_neg c9] at H
        exact absurd H (by simp)
      ·rw [if_neg c7] at H
       exact absurd H (by simp)
     ·rw [if_neg c5] at H
      have c5b0 : ((bt a0 x5_1) == 47) = false := beq_eq_false_iff_ne.mpr c5
      have c5b1 : ((bt a0 x5_1) != 47) = true := bne_iff_ne.mpr c5
      have H' := Aside0.mk H
      clear H
      have p4 : 0 ≤ (x5_1 : Int) := of_decide_eq_true (by first | (with_reducible assumption) | assumption)
      have q4 : x5_1 < (a0.size : Int) := of_decide_eq_true (by first | (with_reducible assumption) | assumption)
      have hx4 := bt_at a0 x5_1
      replace p4 := eq_true p4
      replace q4 := eq_true q4
      go_wp2
      go_roundg k1
      case measure => have := HK1.out; omega
      case rel => exact ⟨(wrap64 (x5_1 + 1)), (by first | rfl | (simp; done) | (simp [*]; done)), H', ⟨by have := HK1.out; omega⟩, ⟨by repeat (first | (with_reducible first | exact HB.out | apply below_alloc | apply pw_below_drewN | apply below_drew1) | exact HB.out)⟩⟩
    ·rw [if_neg c3] at H
     exact absurd H (by simp)
   ·rw [if_neg c2] at H
    have c2b0 : decide (x5_1 < (a0.size : Int)) = false := decide_eq_false c2
    clear c2
    simp only [Option.some.injEq, Prod.mk.injEq] at H
    obtain ⟨rfl, rfl, rfl⟩ := H
    go_wp2
    go_ret3
    exact ⟨by first | rfl | (simp [errW_none, errW_some] <;> rfl) | (simp [*, errW_none, errW_some] <;> rfl), by repeat (first | (with_reducible first | exact HB.out | apply below_alloc | apply pw_below_drewN | apply below_drew1) | exact HB.out)⟩
end Go.Proofs.YtphehoidkmficaaGreatDoor.PA
end
