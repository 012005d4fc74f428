/- Contracts and laws that the statement of LawRightsTell leans on (packed from this claim's own texts): part 22. -/
import Derived.Test.YtfhanoloaejmkaaDoorQT21
section

namespace Go.Proofs.YtfhanoloaejmkaaDoor
open Go.RowKit Go.Proofs.YtfhanoloaejmkaaDoorW.PrintWords Go.Proofs.YtfhanoloaejmkaaDoorW.PrintLast Go.Proofs.YtfhanoloaejmkaaDoor.Ref
set_option linter.unusedVariables false
set_option linter.unusedSimpArgs false
theorem refTakeAll_call (s : ByteArray) (w : World) (h : s.size ≤ 100000) : Calls Tryd.prog 53 #[.string s, .int .i64 5, .int .i64 4000] w (TheL w (takeAllF 5 4000 s)) := by
 obtain ⟨K, hk⟩ := refTakeAll_ev 5 4000 s (by omega) (by omega) (by omega)
 refine (PA.letterlockref2_TakeAll.calls K s 5 4000 _ _ w (hk K (Nat.le_refl _))).mono ?_
 rintro e w' ⟨v, rfl, hr, hb⟩
 obtain ⟨A, c, rfl, hR⟩ := rowAt_of hr
 exact ⟨A, c, rfl, hR, hb⟩
theorem refTakeN_call (s : ByteArray) (w : World) : Calls Tryd.prog 54 #[.string s] w fun e w' => e = .returned (.tuple #[.int .u64 (takeF s).1, .string (takeF s).2.1, .int .i64 (takeF s).2.2]) ∧ Below w.heap.size w w' := by
 obtain ⟨K, hk⟩ := refTake_ev s
 exact (PA.letterlockref2_Take.calls K s _ _ _ w (hk K (Nat.le_refl _))).mono fun e w' h => ⟨h.1, h.2.below⟩
def rgRt.T7 : Bool × List (List Nat × List Nat) := (true, [([], []), ([0], [0]), ([1], [1]), ([], []), ([3], [3]), ([4], [4]), ([], []), ([6], [6]), ([], []), ([], []), ([2, 5, 7, 8, 9], [2, 5, 7, 8, 9]), ([], []), ([11, 10, 0, 1, 2, 3, 4, 5, 6, 7, 8, 9, 10, 11], [10, 11])])
def rgRt.B7 : List Nat := [0, 1, 3, 0, 8, 24, 0, 64, 0, 0, 1023, 0, 4095]
theorem rgRt.tab7 : rtab .any (opsOf Tryd.f27 7) = rgRt.T7 := by kernel_rfl
theorem rgRt.bits7 : waitsOk rgRt.T7.2 rgRt.B7 = true := by kernel_rfl
set_option maxHeartbeats 8000000 in
set_option maxRecDepth 100000 in
theorem refTake_call (s : ByteArray) (w : World) (hs : s.size ≤ 100000) : Calls Tryd.prog 27 #[.string s] w (Told w (refTakeR s)) := by
 obtain ⟨V, hV⟩ : ∃ V, takeAllF 5 4000 s = V := ⟨_, rfl⟩
 have HV := Lib.hid hV
 have H1 := Lib.hid (fun W => refTakeAll_call s W hs)
 rw [hV] at H1
 have hlen := take_len s
 rw [hV] at hlen
 clear hV
 obtain ⟨L, e0⟩ := V
 go_enter Tryd.func27, Tryd.ntmps27
 have HB : Hid (Below w.heap.size w (w.alloc (Obj.cells #[Value.string { data := #[] }, Value.string { data := #[] }, Value.int IntKind.i64 0, Value.slice none 0 0, Value.slice none 0 0] 26))) := Lib.hid (below_alloc (Below.refl _ _) _)
 have HY : Hid (BoxAt (w.alloc (Obj.cells #[Value.string { data := #[] }, Value.string { data := #[] }, Value.int IntKind.i64 0, Value.slice none 0 0, Value.slice none 0 0] 26)) w.heap.size noRt (.slice none 0 0) (.slice none 0 0)) := Lib.hid ⟨_, rfl, heap_new _ _ _ rfl⟩
 go_wp2_with fail
 refine (H1.out _).mono ?_
 rintro e W1 ⟨AL, cL, rfl, hR, hb⟩
 have HL := Lib.hid hR
 replace HB := Lib.hid (below_step HB.out hb)
 replace HY := Lib.hid (HY.out.below hb)
 clear hR hb
 by_cases c0 : e0 = 0
 ·subst c0
  by_cases c5 : L.length = 5
  ·have t5 : ((L.length : Int) != 5) = false := by rw [c5]; rfl
   have HK := Lib.hid c5
   have m2 : (nth L 2).size ≤ 4000 := hlen.2 _ (nth_mem (by omega))
   have m3 : (nth L 3).size ≤ 4000 := hlen.2 _ (nth_mem (by omega))
   have m4 : (nth L 4).size ≤ 4000 := hlen.2 _ (nth_mem (by omega))
   have m0 : (nth L 0).size ≤ 4000 := hlen.2 _ (nth_mem (by omega))
   have m1 : (nth L 1).size ≤ 4000 := hlen.2 _ (nth_mem (by omega))
   have j3 := take_len (nth L 3)
   have j4 := take_len (nth L 4)
   have H2 := Lib.hid (fun W => refTakeN_call (nth L 2) W)
   have H3 := Lib.hid (fun W => refTakeAll_call (nth L 3) W (by omega))
   have H4 := Lib.hid (fun W => refTakeAll_call (nth L 4) W (by omega))
   have HRT : Hid (refTakeR s = if (takeF (nth L 2)).2.2 = 0 ∧ (takeF (nth L 2)).2.1 = ⟨#[]⟩ ∧ (takeAllF 5 4000 (nth L 3)).2 = 0 ∧ (takeAllF 5 4000 (nth L 4)).2 = 0 ∧ (takeF (nth L 2)).1 ≤ 7 ∧ rightR ⟨nth L 0, nth L 1, (takeF (nth L 2)).1, (takeAllF 5 4000 (nth L 3)).1, (takeAllF 5 4000 (nth L 4)).1⟩ = true then ((⟨nth L 0, nth L 1, (takeF (nth L 2)).1, (takeAllF 5 4000 (nth L 3)).1, (takeAllF 5 4000 (nth L 4)).1⟩ : Rt), 0) else (noRt, 2)) := Lib.hid (by
    show refTakeR s = if (takeF (nth L 2)).2.2 = 0 ∧ (takeF (nth L 2)).2.1 = ⟨#[]⟩ ∧ (takeAllF 5 4000 (nth L 3)).2 = 0 ∧ (takeAllF 5 4000 (nth L 4)).2 = 0 ∧ (takeF (nth L 2)).1 ≤ 7 ∧ rightR (rtOf L (takeF (nth L 2)).1) = true then (rtOf L (takeF (nth L 2)).1, 0) else (noRt, 2)
    unfold refTakeR
    rw [HV.out, if_pos (show (0 : Int) = 0 ∧ L.length = 5 from ⟨rfl, HK.out⟩)])
   have hn := (takeF_size (nth L 2)).2
   generalize takeF (nth L 2) = T at H2 HRT hn
   obtain ⟨n, rest, e2⟩ := T
   generalize takeAllF 5 4000 (nth L 3) = RA at H3 HRT j3
   generalize takeAllF 5 4000 (nth L 4) = RB at H4 HRT j4
   obtain ⟨ra, e3⟩ := RA
   obtain ⟨rb, e4⟩ := RB
   simp only at HRT hn j3 j4
   have HJ := Lib.hid (And.intro j3 j4)
   clear j3 j4 hlen m2 m3 m4
   have l5 : (2 : Int) < (L.length : Int) := by omega
   have l5b : (3 : Int) < (L.length : Int) := by omega
   have l5c : (4 : Int) < (L.length : Int) := by omega
   have l5d : (0 : Int) < (L.length : Int) := by omega
   have l5e : (1 : Int) < (L.length : Int) := by omega
   obtain ⟨ad, hAD, -⟩ := strC (l := L) HL.out.h1 (k := 0) (by omega)
   subst hAD
   have p2 := strE (l := L) HL.out.h1 (k := 2) (by omega) (by omega)
   have n0 : 0 < L.length := by omega
   have n1 : 1 < L.length := by omega
   clear c5
   go_wp2_with fail
   refine (H2.out _).mono ?_
   rintro e W2 ⟨rfl, hb⟩
   replace HB := Lib.hid (below_step HB.out hb)
   replace HY := Lib.hid (HY.out.below hb)
   replace HL := Lib.hid (HL.out.below hb)
   have HS2 := Lib.hid HY.out.lt
   clear hb p2
   have p3 := strE (l := L) HL.out.h1 (k := 3) (by omega) (by have := HK.out; omega)
   go_wp2_with fail
   refine (H3.out _).mono ?_
   rintro e W3 ⟨AA, cA, rfl, hR, hb⟩
   have HA : Hid (RowAt W3 _ _ AA cA ra) := Lib.hid hR
   have HSz := Lib.hid hb.size
   replace HB := Lib.hid (below_step HB.out hb)
   replace HY := Lib.hid (HY.out.below hb)
   replace HL := Lib.hid (HL.out.below hb)
   clear hR hb p3
   have p4 := strE (l := L) HL.out.h1 (k := 4) (by omega) (by have := HK.out; omega)
   go_wp2_with fail
   refine (H4.out _).mono ?_
   rintro e W4 ⟨AB, cB, rfl, hR, hb⟩
   have HC : Hid (RowAt W4 _ _ AB cB rb) := Lib.hid hR
   replace HB := Lib.hid (below_step HB.out hb)
   replace HY := Lib.hid (HY.out.below hb)
   replace HL := Lib.hid (HL.out.below hb)
   replace HA := Lib.hid (HA.out.below hb)
   have HS34 := Lib.hid hb.size
   clear hR hb p4
   go_wp2_with fail
   have HB4 := Lib.hid HB.out
   have HY4 := Lib.hid HY.out
   have HA4 := Lib.hid HA.out
   have HC4 := Lib.hid HC.out
   have hb : Below W4.heap.size W4 W4.drew := below_drew (Below.refl _ _)
   replace HB := Lib.hid (below_step HB.out hb)
   replace HY := Lib.hid (HY.out.below hb)
   replace HL := Lib.hid (HL.out.below hb)
   replace HA := Lib.hid (HA.out.below hb)
   replace HC := Lib.hid (HC.out.below hb)
   clear hb
   have HLa := Lib.hid HL.out
   refine start_ (n := 13) (S := fun w' => w'.cell? ad = some (.string (nth L 0)) ∧ w'.cell? ⟨ad.block, ad.off + 1, none⟩ = some (.string (nth L 1))) (ds := [12]) #[false, false, false, false, false, false, false, false, false, false, false, false, false] (by kernel_rfl) rfl rfl ⟨strO (l := L) HL.out.h1 (by have := HK.out; omega), strE (l := L) HL.out.h1 (k := 1) (by omega) (by have := HK.out; omega)⟩ (fun hHeld => ?_)
   refine with_tabW rgRt.tab7 rgRt.bits7 (fun HT_ HW_ => ?_)
   refine pure_ (i := 0) (N := some 48) (v := ?_) (a' := ?_) #[true, false, false, false, false, false, false, false, false, false, false, false, false] rfl rfl (any_of HT_.out (by kernel_rfl)) (fun _ _ _ h => h) (Or.inl ⟨by rfl, ?_⟩) ?_ ?_
   rotate_left
   ·intro w'
    go_simp
    with_reducible rfl
   rotate_left
   ·simp only [Act.put, List.setIfInBounds_toArray, List.set_cons_zero, List.set_cons_succ, i64_w, i32_w]
    rfl
   refine pure_ (i := 1) (N := some 49) (v := ?_) (a' := ?_) #[true, true, false, false, false, false, false, false, false, false, false, false, false] rfl rfl (any_of HT_.out (by kernel_rfl)) (fun _ _ _ h => h) (Or.inl ⟨by rfl, ?_⟩) ?_ ?_
   rotate_left
   ·intro w'
    go_simp
    with_reducible rfl
   rotate_left
   ·simp only [Act.put, List.setIfInBounds_toArray, List.set_cons_zero, List.set_cons_succ, i64_w, i32_w]
    rfl
   refine pure_ (i := 3) (N := some 51) (v := ?_) (a' := ?_) #[true, true, false, true, false, false, false, false, false, false, false, false, false] rfl rfl (any_of HT_.out (by kernel_rfl)) (fun _ _ _ h => h) (Or.inl ⟨by rfl, ?_⟩) ?_ ?_
   rotate_left
   ·intro w'
    go_simp
    with_reducible rfl
   rotate_left
   ·simp only [Act.put, List.setIfInBounds_toArray, List.set_cons_zero, List.set_cons_succ, i64_w, i32_w]
    rfl
   refine pure_ (i := 4) (N := some 52) (v := ?_) (a' := ?_) #[true, true, false, true, true, false, false, false, false, false, false, false, false] rfl rfl (any_of HT_.out (by kernel_rfl)) (fun _ _ _ h => h) (Or.inl ⟨by rfl, ?_⟩) ?_ ?_
   rotate_left
   ·intro w'
    go_simp
    with_reducible rfl
   rotate_left
   ·simp only [Act.put, List.setIfInBounds_toArray, List.set_cons_zero, List.set_cons_succ, i64_w, i32_w]
    rfl
   refine pure_ (i := 6) (N := some 54) (v := ?_) (a' := ?_) #[true, true, false, true, true, false, true, false, false, false, false, false, false] rfl rfl (any_of HT_.out (by kernel_rfl)) (fun _ _ _ h => h) (Or.inl ⟨by rfl, ?_⟩) ?_ ?_
   rotate_left
   ·intro w'
    go_simp
    with_reducible rfl
   rotate_left
   ·simp only [Act.put, List.setIfInBounds_toArray, List.set_cons_zero, List.set_cons_succ, i64_w, i32_w]
    rfl
   refine pure_ (i := 7) (N := some 55) (v := ?_) (a' := ?_) #[true, true, false, true, true, false, true, true, false, false, false, false, false] rfl rfl (any_of HT_.out (by kernel_rfl)) (fun _ _ _ h => h) (Or.inl ⟨by rfl, ?_⟩) ?_ ?_
   rotate_left
   ·intro w'
    go_simp
    with_reducible rfl
   rotate_left
   ·simp only [Act.put, List.setIfInBounds_toArray, List.set_cons_zero, List.set_cons_succ, i64_w, i32_w]
    rfl
   refine pure_ (i := 8) (N := some 56) (v := ?_) (a' := ?_) #[true, true, false, true, true, false, true, true, true, false, false, false, false] rfl rfl (any_of HT_.out (by kernel_rfl)) (fun _ _ _ h => h) (Or.inl ⟨by rfl, ?_⟩) ?_ ?_
   rotate_left
   ·intro w'
    go_simp
    with_reducible rfl
   rotate_left
   ·simp only [Act.put, List.setIfInBounds_toArray, List.set_cons_zero, List.set_cons_succ, i64_w, i32_w]
    rfl
   refine pure_ (i := 9) (N := some 57) (v := ?_) (a' := ?_) #[true, true, false, true, true, false, true, true, true, true, false, false, false] rfl rfl (any_of HT_.out (by kernel_rfl)) (fun _ _ _ h => h) (Or.inl ⟨by rfl, ?_⟩) ?_ ?_
   rotate_left
   ·intro w'
    go_simp
    with_reducible rfl
   rotate_left
   ·simp only [Act.put, List.setIfInBounds_toArray, List.set_cons_zero, List.set_cons_succ, i64_w, i32_w]
    rfl
   refine take_ (i := 2) (N := some 50) (v := ?_) (a' := ?_) #[true, true, true, true, true, false, true, true, true, true, false, false, false] rfl rfl (take_ofW HT_.out HW_.out (by kernel_rfl)) (fun _ _ _ h => h) (Or.inl ⟨by rfl, ?_⟩) hHeld ?_ ?_
   rotate_left
   ·rintro w' ⟨s0, s1⟩
    go_simp
    with_reducible rfl
   rotate_left
   ·simp only [Act.put, List.setIfInBounds_toArray, List.set_cons_zero, List.set_cons_succ, i64_w, i32_w]
    rfl
   refine take_ (i := 5) (N := some 53) (v := ?_) (a' := ?_) #[true, true, true, true, true, true, true, true, true, true, false, false, false] rfl rfl (take_ofW HT_.out HW_.out (by kernel_rfl)) (fun _ _ _ h => h) (Or.inl ⟨by rfl, ?_⟩) hHeld ?_ ?_
   rotate_left
   ·rintro w' ⟨s0, s1⟩
    go_simp
    with_reducible rfl
   rotate_left
   ·simp only [Act.put, List.setIfInBounds_toArray, List.set_cons_zero, List.set_cons_succ, i64_w, i32_w]
    rfl
   refine pure_ (i := 10) (N := some 58) (v := ?_) (a' := ?_) #[true, true, true, true, true, true, true, true, true, true, true, false, false] rfl rfl (any_of HT_.out (by kernel_rfl)) (fun _ _ _ h => h) (Or.inl ⟨by rfl, ?_⟩) ?_ ?_
   rotate_left
   ·intro w'
    go_simp
    with_reducible rfl
   rotate_left
   ·simp only [Act.put, List.setIfInBounds_toArray, List.set_cons_zero, List.set_cons_succ, i64_w, i32_w]
    rfl
   refine one_ (i := 11) (N := some 12) #[true, true, true, true, true, true, true, true, true, true, true, true, false] rfl rfl (one_of HT_.out (by kernel_rfl)) (by decide) (fun K hK => ?_)
   refine value_ (w1 := ?_) (v := ?_) (by rfl) rfl ?_ ?_
   rotate_left 2
   ·go_simp
    constructor
    ·rfl
    ·rfl
   have hb : Below W4.drew.heap.size W4.drew (W4.drew.alloc (Obj.cells #[Value.string { data := #[] }, Value.string { data := #[] }, Value.int IntKind.i64 0, Value.slice none 0 0, Value.slice none 0 0] 26)) := below_alloc (Below.refl _ _) _
   have HYo := Lib.hid HY.out
   replace HB := Lib.hid (below_step HB.out hb)
   replace HY := Lib.hid (HY.out.below hb)
   replace HL := Lib.hid (HL.out.below hb)
   replace HA := Lib.hid (HA.out.below hb)
   replace HC := Lib.hid (HC.out.below hb)
   have HZ : Hid (BoxAt (W4.drew.alloc (Obj.cells #[Value.string { data := #[] }, Value.string { data := #[] }, Value.int IntKind.i64 0, Value.slice none 0 0, Value.slice none 0 0] 26)) W4.drew.heap.size noRt (.slice none 0 0) (.slice none 0 0)) := Lib.hid ⟨_, rfl, heap_new _ _ _ rfl⟩
   have HLT : Hid (w.heap.size < W4.drew.heap.size) := Lib.hid HYo.out.lt
   clear hb
   refine hK.out _ _ ⟨strO (l := L) HL.out.h1 (by have := HK.out; omega), strE (l := L) HL.out.h1 (k := 1) (by omega) (by have := HK.out; omega)⟩ (fun hHeld => ?_)
   clear hK K
   refine norm_ (a' := ?_) ?_ ?_
   rotate_left
   ·show Act.put _ (some 12) _ = _
    simp only [Act.put, List.setIfInBounds_toArray, List.set_cons_zero, List.set_cons_succ, i64_w, i32_w]
    rfl
   refine last_ (i := 12) (N := none) #[true, true, true, true, true, true, true, true, true, true, true, true, true] rfl rfl (one_of HT_.out (by kernel_rfl)) (by decide) (fun K hK => ?_)
   obtain ⟨y0, y1, y2, y3, y4⟩ := HZ.out.cell
   have z0 := HZ.out.free 0
   have z1 := HZ.out.free 1
   have z2 := HZ.out.free 2
   have z3 := HZ.out.free 3
   have z4 := HZ.out.free 4
   refine skip_ (w1 := ?_) (by rfl) rfl ?_ ?_
   rotate_left
   ·go_simp
    rfl
   refine hK.out _ _ ?_
   clear hK K
   refine done_ (done_of HT_.out (by kernel_rfl)) ?_
   clear y0 y1 y2 y3 y4 z0 z1 z2 z3 z4 HL HLa HB HY HA HC HZ HYo HLT
   have hal : Below W4.heap.size W4 (W4.alloc (Obj.cells #[Value.string (nth L 0), Value.string (nth L 1), Value.int IntKind.i64 (wrap64 n), (.slice AA ra.length cA), (.slice AB rb.length cB)] 26)).drew := below_drew (below_alloc (Below.refl _ _) _)
   have HX : Hid (BoxAt (W4.alloc (Obj.cells #[Value.string (nth L 0), Value.string (nth L 1), Value.int IntKind.i64 (wrap64 n), (.slice AA ra.length cA), (.slice AB rb.length cB)] 26)).drew W4.heap.size (⟨nth L 0, nth L 1, wrap64 n, ra, rb⟩ : Rt) (.slice AA ra.length cA) (.slice AB rb.length cB)) := Lib.hid (box_new W4 (⟨nth L 0, nth L 1, wrap64 n, ra, rb⟩ : Rt) (.slice AA ra.length cA) (.slice AB rb.length cB))
   have HB := Lib.hid (below_step HB4.out hal)
   have HY := Lib.hid (HY4.out.below hal)
   have HOA := Lib.hid (HA4.out.below hal)
   have HOC := Lib.hid (HC4.out.below hal)
   have HS3 : Hid (w.heap.size < W3.heap.size) := Lib.hid (Nat.lt_of_lt_of_le HS2.out HSz.out)
   have hlt : w.heap.size < W4.heap.size := HY4.out.lt
   clear HB4 HY4 HA4 HC4 hal
   obtain ⟨x0, x1, x2, x3, x4⟩ := HX.out.cell
   generalize (W4.alloc (Obj.cells #[Value.string (nth L 0), Value.string (nth L 1), Value.int IntKind.i64 (wrap64 n), (.slice AA ra.length cA), (.slice AB rb.length cB)] 26)).drew = W5 at HX HB HY HOA HOC x0 x1 x2 x3 x4 ⊢
   generalize W4.heap.size = Z at HX hlt x0 x1 x2 x3 x4 ⊢
   have hlt2 : ¬ Z = w.heap.size := by omega
   have hlt3 : ¬ w.heap.size = Z := by omega
   by_cases g : e2 = 0
   ·have q2 : (e2 != 0) = false := by rw [g]; rfl
    have HG2 := Lib.hid g
    by_cases g : rest = ⟨#[]⟩
    ·have q3 : (rest.toList != []) = false := by rw [g]; decide +kernel
     have HG3 := Lib.hid g
     by_cases g : e3 = 0
     ·have q4 : (e3 != 0) = false := by rw [g]; rfl
      have HG4 := Lib.hid g
      by_cases g : e4 = 0
      ·have q5 : (e4 != 0) = false := by rw [g]; rfl
       have HG5 := Lib.hid g
       by_cases g : n ≤ 7
       ·have q6 : ¬ n > 7 := by omega
        have HG6 := Lib.hid g
        have hw : wrap64 n = n := w64 (by omega) (by omega)
        rw [hw] at x2 HX
        obtain ⟨b, hb0⟩ : ∃ b, rightR ⟨nth L 0, nth L 1, n, ra, rb⟩ = b := ⟨_, rfl⟩
        have hsm : smallR ⟨nth L 0, nth L 1, n, ra, rb⟩ = true := small_mk (by show (nth L 0).size ≤ _; omega) (by show (nth L 1).size ≤ _; omega) (by show _ ≤ n ∧ n ≤ _; omega) (by show ra.length ≤ _; have := HJ.out.1.1; omega) (by show rb.length ≤ _; have := HJ.out.2.1; omega) (fun x hx => Nat.le_trans (HJ.out.1.2 x hx) (by omega)) (fun x hx => Nat.le_trans (HJ.out.2.2 x hx) (by omega))
        have HRR : Hid (RowsAt W5 (w.heap.size + 1) ⟨nth L 0, nth L 1, n, ra, rb⟩ AA cA AB cB) := Lib.hid (rows_of HOA.out HOC.out HS2.out HS3.out)
        have HRG := Lib.hid (refRight_call ⟨nth L 0, nth L 1, n, ra, rb⟩ AA cA AB cB W5 hsm HRR.out)
        rw [hb0] at HRG
        have HB0 := Lib.hid hb0
        clear hb0 hsm
        cases b with
        | false =>
         have HN : Hid (refTakeR s = (noRt, 2)) := Lib.hid (by rw [HRT.out, if_neg (fun h => by rw [HB0.out] at h; exact absurd h.2.2.2.2.2 (by simp))])
         go_wp2_with fail
         refine HRG.out.mono ?_
         rintro e W6 ⟨rfl, hb⟩
         replace HB := Lib.hid (below_step HB.out hb)
         replace HY := Lib.hid (HY.out.below hb)
         clear hb x0 x1 x2 x3 x4
         obtain ⟨y0, y1, y2, y3, y4⟩ := HY.out.cell
         have z0 := HY.out.free 0
         have z1 := HY.out.free 1
         have z2 := HY.out.free 2
         have z3 := HY.out.free 3
         have z4 := HY.out.free 4
         go_wp2
         obtain ⟨cs, hcs, hblk⟩ := HY.out.put noRt (.slice none 0 0) (.slice none 0 0)
         have hbl := BoxAt.put_below (b := w.heap.size) HB.out (Nat.le_refl _) noRt (.slice none 0 0) (.slice none 0 0)
         subst hcs
         refine bodyPost_ret (results_ct rfl _ _ w.heap.size 26 _ (0, 0) _ rfl hblk Tryd.underlying26 rfl (by kernel_rfl)) rfl ?_
         rw [HN.out]
         exact ⟨none, 0, none, 0, rfl, RowsAt.no _ _, hbl⟩
        | true =>
         have HN : Hid (refTakeR s = (⟨nth L 0, nth L 1, n, ra, rb⟩, 0)) := Lib.hid (by rw [HRT.out, if_pos ⟨HG2.out, HG3.out, HG4.out, HG5.out, HG6.out, HB0.out⟩])
         go_wp2_with fail
         refine HRG.out.mono ?_
         rintro e W6 ⟨rfl, hb⟩
         replace HB := Lib.hid (below_step HB.out hb)
         replace HY := Lib.hid (HY.out.below hb)
         replace HX := Lib.hid (HX.out.below hb)
         replace HRR := Lib.hid (HRR.out.below hb)
         clear hb x0 x1 x2 x3 x4
         obtain ⟨x0, x1, x2, x3, x4⟩ := HX.out.cell
         obtain ⟨y0, y1, y2, y3, y4⟩ := HY.out.cell
         have z0 := HY.out.free 0
         have z1 := HY.out.free 1
         have z2 := HY.out.free 2
         have z3 := HY.out.free 3
         have z4 := HY.out.free 4
         go_wp2
         obtain ⟨cs, hcs, hblk⟩ := HY.out.put ⟨nth L 0, nth L 1, n, ra, rb⟩ (.slice AA ra.length cA) (.slice AB rb.length cB)
         have hbl := BoxAt.put_below (b := w.heap.size) HB.out (Nat.le_refl _) ⟨nth L 0, nth L 1, n, ra, rb⟩ (.slice AA ra.length cA) (.slice AB rb.length cB)
         subst hcs
         refine bodyPost_ret (results_ct rfl _ _ w.heap.size 26 _ (0, 0) _ rfl hblk Tryd.underlying26 rfl (by kernel_rfl)) rfl ?_
         rw [HN.out]
         exact ⟨AA, cA, AB, cB, rfl, (HRR.out.put (b := w.heap.size) (Nat.lt_succ_self _) _ _ _ _ _).lower (Nat.le_succ _), hbl⟩
       ·have q6 : n > 7 := by omega
        have HN : Hid (refTakeR s = (noRt, 2)) := Lib.hid (by rw [HRT.out, if_neg]; exact fun h => g h.2.2.2.2.1)
        clear g x0 x1 x2 x3 x4
        obtain ⟨y0, y1, y2, y3, y4⟩ := HY.out.cell
        have z0 := HY.out.free 0
        have z1 := HY.out.free 1
        have z2 := HY.out.free 2
        have z3 := HY.out.free 3
        have z4 := HY.out.free 4
        go_wp2
        obtain ⟨cs, hcs, hblk⟩ := HY.out.put noRt (.slice none 0 0) (.slice none 0 0)
        have hbl := BoxAt.put_below (b := w.heap.size) HB.out (Nat.le_refl _) noRt (.slice none 0 0) (.slice none 0 0)
        subst hcs
        refine bodyPost_ret (results_ct rfl _ _ w.heap.size 26 _ (0, 0) _ rfl hblk Tryd.underlying26 rfl (by kernel_rfl)) rfl ?_
        rw [HN.out]
        exact ⟨none, 0, none, 0, rfl, RowsAt.no _ _, hbl⟩
      ·have q5 : (e4 != 0) = true := by rw [bne_iff_ne]; exact g
       have HN : Hid (refTakeR s = (noRt, 2)) := Lib.hid (by rw [HRT.out, if_neg]; exact fun h => g h.2.2.2.1)
       clear g x0 x1 x2 x3 x4
       obtain ⟨y0, y1, y2, y3, y4⟩ := HY.out.cell
       have z0 := HY.out.free 0
       have z1 := HY.out.free 1
       have z2 := HY.out.free 2
       have z3 := HY.out.free 3
       have z4 := HY.out.free 4
       go_wp2
       obtain ⟨cs, hcs, hblk⟩ := HY.out.put noRt (.slice none 0 0) (.slice none 0 0)
       have hbl := BoxAt.put_below (b := w.heap.size) HB.out (Nat.le_refl _) noRt (.slice none 0 0) (.slice none 0 0)
       subst hcs
       refine bodyPost_ret (results_ct rfl _ _ w.heap.size 26 _ (0, 0) _ rfl hblk Tryd.underlying26 rfl (by kernel_rfl)) rfl ?_
       rw [HN.out]
       exact ⟨none, 0, none, 0, rfl, RowsAt.no _ _, hbl⟩
     ·have q4 : (e3 != 0) = true := by rw [bne_iff_ne]; exact g
      have HN : Hid (refTakeR s = (noRt, 2)) := Lib.hid (by rw [HRT.out, if_neg]; exact fun h => g h.2.2.1)
      clear g x0 x1 x2 x3 x4
      obtain ⟨y0, y1, y2, y3, y4⟩ := HY.out.cell
      have z0 := HY.out.free 0
      have z1 := HY.out.free 1
      have z2 := HY.out.free 2
      have z3 := HY.out.free 3
      have z4 := HY.out.free 4
      go_wp2
      obtain ⟨cs, hcs, hblk⟩ := HY.out.put noRt (.slice none 0 0) (.slice none 0 0)
      have hbl := BoxAt.put_below (b := w.heap.size) HB.out (Nat.le_refl _) noRt (.slice none 0 0) (.slice none 0 0)
      subst hcs
      refine bodyPost_ret (results_ct rfl _ _ w.heap.size 26 _ (0, 0) _ rfl hblk Tryd.underlying26 rfl (by kernel_rfl)) rfl ?_
      rw [HN.out]
      exact ⟨none, 0, none, 0, rfl, RowsAt.no _ _, hbl⟩
    ·have q3 : (rest.toList != []) = true := by rw [bne_iff_ne]; exact fun e => g ((list_eq _ _).1 (e.trans (Lib.toList_data ⟨#[]⟩).symm))
     have q3b : rest.toList.isEmpty = false := by cases hx : rest.toList with | nil => rw [hx] at q3; exact absurd q3 (by decide) | cons a l => rfl
     have q3c : ¬ rest.toList = [] := by intro e; rw [e] at q3; exact absurd q3 (by decide)
     have HN : Hid (refTakeR s = (noRt, 2)) := Lib.hid (by rw [HRT.out, if_neg]; exact fun h => g h.2.1)
     clear g x0 x1 x2 x3 x4
     obtain ⟨y0, y1, y2, y3, y4⟩ := HY.out.cell
     have z0 := HY.out.free 0
     have z1 := HY.out.free 1
     have z2 := HY.out.free 2
     have z3 := HY.out.free 3
     have z4 := HY.out.free 4
     go_wp2
     obtain ⟨cs, hcs, hblk⟩ := HY.out.put noRt (.slice none 0 0) (.slice none 0 0)
     have hbl := BoxAt.put_below (b := w.heap.size) HB.out (Nat.le_refl _) noRt (.slice none 0 0) (.slice none 0 0)
     subst hcs
     refine bodyPost_ret (results_ct rfl _ _ w.heap.size 26 _ (0, 0) _ rfl hblk Tryd.underlying26 rfl (by kernel_rfl)) rfl ?_
     rw [HN.out]
     exact ⟨none, 0, none, 0, rfl, RowsAt.no _ _, hbl⟩
   ·have q2 : (e2 != 0) = true := by rw [bne_iff_ne]; exact g
    have HN : Hid (refTakeR s = (noRt, 2)) := Lib.hid (by rw [HRT.out, if_neg]; exact fun h => g h.1)
    clear g x0 x1 x2 x3 x4
    obtain ⟨y0, y1, y2, y3, y4⟩ := HY.out.cell
    have z0 := HY.out.free 0
    have z1 := HY.out.free 1
    have z2 := HY.out.free 2
    have z3 := HY.out.free 3
    have z4 := HY.out.free 4
    go_wp2
    obtain ⟨cs, hcs, hblk⟩ := HY.out.put noRt (.slice none 0 0) (.slice none 0 0)
    have hbl := BoxAt.put_below (b := w.heap.size) HB.out (Nat.le_refl _) noRt (.slice none 0 0) (.slice none 0 0)
    subst hcs
    refine bodyPost_ret (results_ct rfl _ _ w.heap.size 26 _ (0, 0) _ rfl hblk Tryd.underlying26 rfl (by kernel_rfl)) rfl ?_
    rw [HN.out]
    exact ⟨none, 0, none, 0, rfl, RowsAt.no _ _, hbl⟩
  ·have t5 : ((L.length : Int) != 5) = true := by rw [bne_iff_ne]; omega
   have HN : Hid (refTakeR s = (noRt, 2)) := Lib.hid (by unfold refTakeR; rw [HV.out, if_neg (fun h => c5 h.2)])
   clear c5
   obtain ⟨y0, y1, y2, y3, y4⟩ := HY.out.cell
   have z0 := HY.out.free 0
   have z1 := HY.out.free 1
   have z2 := HY.out.free 2
   have z3 := HY.out.free 3
   have z4 := HY.out.free 4
   go_wp2
   obtain ⟨cs, hcs, hblk⟩ := HY.out.put noRt (.slice none 0 0) (.slice none 0 0)
   have hbl := BoxAt.put_below (b := w.heap.size) HB.out (Nat.le_refl _) noRt (.slice none 0 0) (.slice none 0 0)
   subst hcs
   refine bodyPost_ret (results_ct rfl _ _ w.heap.size 26 _ (0, 0) _ rfl hblk Tryd.underlying26 rfl (by kernel_rfl)) rfl ?_
   rw [HN.out]
   exact ⟨none, 0, none, 0, rfl, RowsAt.no _ _, hbl⟩
 ·have t0 : (e0 != 0) = true := by rw [bne_iff_ne]; exact c0
  have HN : Hid (refTakeR s = (noRt, 2)) := Lib.hid (by unfold refTakeR; rw [HV.out, if_neg (fun h => c0 h.1)])
  clear c0
  obtain ⟨y0, y1, y2, y3, y4⟩ := HY.out.cell
  have z0 := HY.out.free 0
  have z1 := HY.out.free 1
  have z2 := HY.out.free 2
  have z3 := HY.out.free 3
  have z4 := HY.out.free 4
  go_wp2
  obtain ⟨cs, hcs, hblk⟩ := HY.out.put noRt (.slice none 0 0) (.slice none 0 0)
  have hbl := BoxAt.put_below (b := w.heap.size) HB.out (Nat.le_refl _) noRt (.slice none 0 0) (.slice none 0 0)
  subst hcs
  refine bodyPost_ret (results_ct rfl _ _ w.heap.size 26 _ (0, 0) _ rfl hblk Tryd.underlying26 rfl (by kernel_rfl)) rfl ?_
  rw [HN.out]
  exact ⟨none, 0, none, 0, rfl, RowsAt.no _ _, hbl⟩
end Go.Proofs.YtfhanoloaejmkaaDoor
end
