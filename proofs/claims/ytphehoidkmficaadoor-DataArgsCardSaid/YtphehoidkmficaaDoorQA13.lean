/- Contracts and laws that the statement of LawDataArgs leans on (packed from this claim's own texts): part 13. -/
import Derived.Test.YtphehoidkmficaaDoorQA12
section

namespace Go.Proofs.YtphehoidkmficaaDoor
open Go.RowKit Go.Proofs.YtphehoidkmficaaDoorW.PrintWords Go.Proofs.YtphehoidkmficaaDoorW.PrintLast Go.Proofs.YtphehoidkmficaaDoor.Ref
set_option linter.unusedVariables false
set_option linter.unusedSimpArgs false
theorem open_bad {b : Bl} {vs : List ByteArray} {st : ByteArray} {e : Int} (pa : ByteArray) (h : openOk b vs st e = false) : openBl b vs st e pa = (⟨#[]⟩, 1) := by unfold openBl; rw [h]; rfl
def anna : ByteArray := ⟨#[97, 110, 110, 97]⟩
theorem split_anna : (splitF anna).2.2 = 3 := by
 have : splitF anna = (⟨#[]⟩, ⟨#[]⟩, 3) := split_bad (fun a b h _ _ => by
  have h2 : (47 : UInt8) ∈ bytes anna := by rw [h]; simp
  exact absurd h2 (by decide))
 rw [this]
def ag9.T8 : Bool × List (List Nat × List Nat) := (true, [([], []), ([], []), ([1], [1]), ([2], [2]), ([], []), ([], []), ([0, 3, 4, 5, 3], [0, 3, 4, 5]), ([6], [6]), ([7], [7]), ([7], [7]), ([8, 6, 0, 1, 2, 3, 4, 5, 6, 7, 8], [8]), ([9, 10, 0, 1, 2, 3, 4, 5, 6, 7, 8, 9, 10], [9])])
def ag9.B8 : List Nat := [0, 0, 2, 6, 0, 0, 63, 127, 255, 255, 511, 2047]
theorem ag9.tab8 : rtab .any (opsOf Tryd.f5 8) = ag9.T8 := by kernel_rfl
theorem ag9.bits8 : waitsOk ag9.T8.2 ag9.B8 = true := by kernel_rfl
def ag9.T10 : Bool × List (List Nat × List Nat) := (true, [([], []), ([], []), ([1], [1]), ([], []), ([], []), ([0, 2, 3, 4, 2], [0, 2, 3, 4]), ([5], [5]), ([6], [6]), ([6], [6]), ([7, 5, 0, 1, 2, 3, 4, 5, 6, 7], [7]), ([8, 9, 0, 1, 2, 3, 4, 5, 6, 7, 8, 9], [8])])
def ag9.B10 : List Nat := [0, 0, 2, 0, 0, 31, 63, 127, 127, 255, 1023]
theorem ag9.tab10 : rtab .any (opsOf Tryd.f5 10) = ag9.T10 := by kernel_rfl
theorem ag9.bits10 : waitsOk ag9.T10.2 ag9.B10 = true := by kernel_rfl
def ag9.T18 : Bool × List (List Nat × List Nat) := (true, [([], []), ([], []), ([1], [1]), ([], []), ([], []), ([0, 2, 3, 4, 2], [0, 2, 3, 4]), ([5], [5]), ([6], [6]), ([6], [6]), ([7, 5, 0, 1, 2, 3, 4, 5, 6, 7], [7]), ([8, 9, 0, 1, 2, 3, 4, 5, 6, 7, 8, 9], [8])])
def ag9.B18 : List Nat := [0, 0, 2, 0, 0, 31, 63, 127, 127, 255, 1023]
theorem ag9.tab18 : rtab .any (opsOf Tryd.f5 18) = ag9.T18 := by kernel_rfl
theorem ag9.bits18 : waitsOk ag9.T18.2 ag9.B18 = true := by kernel_rfl
set_option maxRecDepth 100000 in
set_option maxHeartbeats 8000000 in
theorem args9_any (root a : Int) (s : ByteArray) (epoch many : Int) (w : World) (HTB : Aside0 (Tabs w)) (h0 : (Lit.int .i64 root).wf = true) (h1 : (Lit.int .i64 a).wf = true) (h2 : s.size ≤ 140737488351232) (h3 : (Lit.int .i64 epoch).wf = true) (h4 : (Lit.int .i64 many).wf = true) :
  Calls Tryd.prog 5 #[.int .i64 root, .int .i64 a, .string s, .int .i64 epoch, .int .i64 many] w fun e w' => e = .returned (.bool true) ∧ Below w.heap.size w w' := by
 have HSH := Lib.hid (fun (W : World) (hb : Below w.heap.size w W) => shown9_call W ⟨HTB.out.below hb⟩)
 have hr := pick_lt root (n := 5) (by omega)
 have hx := pick_lt a (n := 8) (by omega)
 have hn := pick_lt many (n := 12) (by omega)
 have HPA := Lib.hid (fun W => pick_call a 8 (by omega) (by omega) (i64_of h1) W)
 have HPM := Lib.hid (fun W => pick_call many 12 (by omega) (by omega) (i64_of h4) W)
 have HRT := Lib.hid (root_call root (i64_of h0))
 have he64 := i64_of h3
 generalize pickN root 5 = r at *
 generalize pickN a 8 = x at *
 generalize pickN many 12 = n at *
 have HSX := Lib.hid (fun W => state_call (r := r) (e := x) (by omega) (by omega) W)
 have HSG := Lib.hid (fun W => signer_call (i := x) (by omega) W)
 have hsz := st_small (r := r) (j := 7 - x) (by omega) (by omega)
 have hgz := sg_small (i := x) (by omega)
 have hnl : (bytes notes).length ≤ 300 := by decide
 have hhl : (bytes hi).length ≤ 64 := by decide
 have hnz : notes.size ≤ 1000000 := by decide
 have haz : anna.size ≤ 1000000 := by decide
 have hrs := right_state (r := r) (j := 7 - x) (by omega) (by omega)
 have hrg := right_sign (i := x) (by omega)
 have hrb := rightBl_tm (i := x) (e := x) (r := r) (j := 7 - x) (pa := bytes notes) (ct := bytes hi) (by omega) x (by omega) (by omega) (by omega) (by omega) hnl hhl
 obtain ⟨z1, z2⟩ := bl_small (i := x) (e := x) (r := r) (j := 7 - x) (pa := bytes notes) (ct := bytes hi) (by omega) (by omega) (by omega) (by omega) hnl hhl
 have hb1 := build_tm (i := x) (e := x) (r := r) (j := 7 - x) (pa := notes) (ct := hi) (by omega) (by omega) (by omega) (by omega) split_notes (by decide)
 have hb2 : ∀ k : Nat, k ≤ 7 → (buildF (tm (hT (7 - x) (rT r))) (k : Int) (tm (sT x)) notes hi).2 = 0 := fun k hk => by
  rw [build_tm (i := x) (e := k) (r := r) (j := 7 - x) (pa := notes) (ct := hi) (by omega) hk (by omega) (by omega) split_notes (by decide)]
 have ho1 := fun (hv : (pubs (x + 1)).length = x + 1) => open_tm (i := x) (e := x) (e' := x) (i' := x) (r := r) (j := 7 - x) (m := 7 - x) (y := x) (pa := bytes notes) (ct := bytes hi) (pa' := notes) (vs := pubs (x + 1)) (by omega) (by omega) (by omega) (by omega) (by omega) (by omega) (by omega) (by omega) hnl hhl hv (pubs_getD (by omega))
 replace ho1 : (openBl ⟨(x : Int), tm (sealT r (7 - x) (bytes notes) (bytes hi)), tm (sigT x x r (7 - x) (bytes notes) (bytes hi))⟩ (pubs (x + 1)) (tm (hT (7 - x) (rT r))) (x : Int) notes).2 = 0 := by
  rw [ho1 (pubs_len _), if_pos (by refine ⟨by omega, ?_, ?_, by omega, ?_⟩ <;> first | trivial | exact ofBytes_bytes _)]
 unfold blT at hb1
 generalize tm (sealT r (7 - x) (bytes notes) (bytes hi)) = sl at *
 generalize tm (sigT x x r (7 - x) (bytes notes) (bytes hi)) = sg at *
 generalize tm (hT (7 - x) (rT r)) = st at *
 generalize tm (sT x) = s2 at *
 generalize tm (rT r) = rt at *
 have HBD := Lib.hid (bl_at hsz hgz hnz HTB hb1)
 simp only at HBD
 have hln := pubs_len n
 have hlx := pubs_len (x + 1)
 have hvn := pubs_small n (by omega)
 have hvx := pubs_small (x + 1) (by omega)
 have hmn : (pubs n).length ≤ 1000000 := by rw [hln]; omega
 have hmx : (pubs (x + 1)).length ≤ 1000000 := by rw [hlx]; omega
 have hw1 : wrap64 ((n : Int) - 1) = (n : Int) - 1 := w64 (by omega) (by omega)
 have HVN := Lib.hid (fun W => verifyOf_call (n := wrap64 ((n : Int) - 1)) (by rw [hw1]; clear hw1; omega) (by rw [hw1]; clear hw1; omega) (m := n) (by rw [hw1]; clear hw1; omega) W)
 clear hw1
 have HVX := Lib.hid (fun W => verifyOf_call (n := (x : Int)) (by omega) (by omega) (m := x + 1) (by omega) W)
 -- what the three answer
 obtain ⟨R1, hR1⟩ : ∃ R, openBl ⟨(x : Int), sl, sg⟩ (pubs n) st (x : Int) notes = R := ⟨_, rfl⟩
 obtain ⟨R2, hR2⟩ : ∃ R, buildF st epoch s2 notes hi = R := ⟨_, rfl⟩
 obtain ⟨R3, hR3⟩ : ∃ R, openBl ⟨(x : Int), sl, sg⟩ (pubs (x + 1)) st epoch notes = R := ⟨_, rfl⟩
 have c1 : R1.2 = if n = x + 1 then 0 else 1 := by
  by_cases h : n = x + 1
  ·rw [if_pos h, ← hR1, h]; exact ho1
  ·rw [if_neg h, ← hR1, open_bad]
   unfold openOk
   rw [decide_eq_false (show ¬ (((pubs n).length : Int) = (x : Int) + 1) by rw [hln]; omega)]
   rw [Bool.and_false, Bool.and_false, Bool.and_false]
 have c2 : R2.2 = if 0 ≤ epoch ∧ epoch ≤ 7 then 0 else 1 := by
  by_cases h : 0 ≤ epoch ∧ epoch ≤ 7
  ·rw [if_pos h, ← hR2]
   obtain ⟨k, rfl⟩ := Int.eq_ofNat_of_zero_le h.1
   exact hb2 k (by omega)
  ·rw [if_neg h, ← hR2, build_bad]
   unfold buildOk epochB
   rw [decide_eq_false h, Bool.false_and]
 have c3 : R3.2 = if epoch = x then 0 else 1 := by
  by_cases h : epoch = x
  ·rw [if_pos h, ← hR3, h]; exact ho1
  ·rw [if_neg h, ← hR3, open_bad]
   unfold openOk
   rw [decide_eq_false (show ¬ (((pubs (x + 1)).length : Int) = epoch + 1) by rw [hlx]; omega)]
   rw [Bool.and_false, Bool.and_false, Bool.and_false]
 have HO1 := Lib.hid (op_at hR1 z1 z2 hsz hvn hmn)
 have HO3 := Lib.hid (op_at hR3 z1 z2 hsz hvx hmx)
 have HB2 := Lib.hid (bl_at hsz hgz hnz HTB hR2)
 clear hR1 hR2 hR3 ho1 hb1 hb2 hln hvn hmn
 have HK := Lib.hid (fun (h : s.size ≤ 1000000) W => kind_call h W)
 have q1 : ∀ hS : kindF s = 0, ∀ (e : Int) (g pa ct : ByteArray), buildF s e g pa ct = (noBl, 1) := fun hS e g pa ct => build_bad (by unfold buildOk; rw [(kindF_zero s).1 hS]; simp)
 have q2 : ∀ hS : kindF s = 0, ∀ (e : Int) (t pa ct : ByteArray), buildF t e s pa ct = (noBl, 1) := fun hS e t pa ct => build_bad (by unfold buildOk; rw [(kindF_zero s).1 hS]; simp)
 have q3 : buildF st (x : Int) s2 anna hi = (noBl, 1) := build_bad (by unfold buildOk; rw [split_anna]; simp)
 have q4 : ∀ hS : kindF s = 0, openBl ⟨(x : Int), sl, sg⟩ (pubs (x + 1)) s (x : Int) notes = (⟨#[]⟩, 1) := fun hS => open_bad _ (by unfold openOk; rw [(kindF_zero s).1 hS]; simp)
 have HC1 := Lib.hid (fun (hz : s.size ≤ 1000000) (hS : kindF s = 0) => bl_at hz hgz hnz HTB (q1 hS (x : Int) s2 notes hi))
 have HC2 := Lib.hid (fun (hz : s.size ≤ 1000000) (hS : kindF s = 0) => bl_at hsz hz hnz HTB (q2 hS (x : Int) st notes hi))
 have HC3 := Lib.hid (bl_at hsz hgz haz HTB q3)
 have HC4 := Lib.hid (fun (hz : s.size ≤ 1000000) (hS : kindF s = 0) => op_at (q4 hS) z1 z2 hz hvx hmx)
 clear q1 q2 q3 q4 hvx hmx z1 z2
 have HC := Lib.hid (And.intro c1 (And.intro c2 c3))
 clear c1 c2 c3
 generalize pubs n = vn at *
 generalize pubs (x + 1) = vx at *
 have HL : Hid (n < 12 ∧ x < 8 ∧ I64 epoch) := Lib.hid ⟨hn, hx, he64⟩
 clear hn hx hr he64 hrs hrg hrb hnl hhl hnz haz hsz hgz h0 h1 h3 h4 hlx HTB
 have HB := Lib.hid (Below.refl w.heap.size w)
 go_enter Tryd.func5, Tryd.ntmps5
 go_wp2_with fail
 refine (HSH.out _ HB.out).mono ?_
 rintro e W1 ⟨rfl, hb0⟩
 have hb := hb0
 replace HB := Lib.hid (below_step HB.out hb)
 clear hb hb0
 by_cases q200 : s.size ≤ 1000
 rotate_left
 ·have t0 : decide (1000 < (s.size : Int)) = true := decide_eq_true (by omega)
  go_wp2
  go_ret
  exact ⟨rfl, HB.out⟩
 have t0 : decide (1000 < (s.size : Int)) = false := decide_eq_false (by omega)
 have hz : s.size ≤ 1000000 := by omega
 clear q200 h2
 go_wp2_with fail
 refine (HPA.out _).mono ?_
 rintro e W2 ⟨rfl, hb0⟩
 have hb := hb0
 replace HB := Lib.hid (below_step HB.out hb)
 clear hb hb0
 go_wp2_with fail
 refine (HRT.out _).mono ?_
 rintro e W3 ⟨rfl, hb0⟩
 have hb := hb0
 replace HB := Lib.hid (below_step HB.out hb)
 clear hb hb0
 go_wp2_with fail
 refine (HSX.out _).mono ?_
 rintro e W4 ⟨rfl, hb0⟩
 have hb := hb0
 replace HB := Lib.hid (below_step HB.out hb)
 clear hb hb0
 go_wp2_with fail
 refine (HSG.out _).mono ?_
 rintro e W5 ⟨rfl, hb0⟩
 have hb := hb0
 replace HB := Lib.hid (below_step HB.out hb)
 clear hb hb0
 go_wp2_with fail
 refine (HBD.out _ HB.out).mono ?_
 rintro e W6 ⟨rfl, hb0⟩
 have hb := hb0
 replace HB := Lib.hid (below_step HB.out hb)
 clear hb hb0
 go_wp2_with fail
 refine (HPM.out _).mono ?_
 rintro e W7 ⟨rfl, hb0⟩
 have hb := below_step (below_alloc (Below.refl _ _) _) hb0
 replace HB := Lib.hid (below_step HB.out hb)
 have HXb := Lib.hid (blk_below (blk_new W6 (.cells #[.int .i64 (x : Int), .string sl, .string sg] 29)) hb0)
 clear hb hb0
 go_wp2_with fail
 have hb0 : Below W7.heap.size W7 W7.drew := below_drew (Below.refl _ _)
 have hb := hb0
 replace HB := Lib.hid (below_step HB.out hb)
 replace HXb := Lib.hid (blk_below HXb.out hb)
 clear hb hb0
 refine start_ (n := 12) (S := fun w' => w'.cell? ⟨W6.heap.size, 0, none⟩ = some (.int .i64 (x : Int)) ∧ w'.cell? ⟨W6.heap.size, 1, none⟩ = some (.string sl) ∧ w'.cell? ⟨W6.heap.size, 2, none⟩ = some (.string sg)) (ds := []) #[false, false, false, false, false, false, false, false, false, false, false, false] (by kernel_rfl) rfl rfl ⟨(cell_of_blk HXb.out rfl), (cell_of_blk HXb.out rfl), (cell_of_blk HXb.out rfl)⟩ (fun hHeld => ?_)
 refine with_tabW ag9.tab8 ag9.bits8 (fun HT_ HW_ => ?_)
 refine pure_ (i := 1) (N := some 62) (v := ?_) (a' := ?_) #[false, true, false, false, false, false, false, false, false, false, false, false] rfl rfl (any_of HT_.out (by kernel_rfl)) (fun _ _ _ h => h) (Or.inl ⟨by rfl, ?_⟩) ?_ ?_
 rotate_left
 ·intro w'
  go_simp
  with_reducible rfl
 rotate_left
 ·simp only [Act.put, List.setIfInBounds_toArray, List.set_cons_zero, List.set_cons_succ, i64_w, i32_w]
  rfl
 refine pure_ (i := 2) (N := some 63) (v := ?_) (a' := ?_) #[false, true, true, false, false, false, false, false, false, false, false, false] rfl rfl (any_of HT_.out (by kernel_rfl)) (fun _ _ _ h => h) (Or.inl ⟨by rfl, ?_⟩) ?_ ?_
 rotate_left
 ·intro w'
  go_simp
  with_reducible rfl
 rotate_left
 ·simp only [Act.put, List.setIfInBounds_toArray, List.set_cons_zero, List.set_cons_succ, i64_w, i32_w]
  rfl
 refine pure_ (i := 4) (N := some 65) (v := ?_) (a' := ?_) #[false, true, true, false, true, false, false, false, false, false, false, false] rfl rfl (any_of HT_.out (by kernel_rfl)) (fun _ _ _ h => h) (Or.inl ⟨by rfl, ?_⟩) ?_ ?_
 rotate_left
 ·intro w'
  go_simp
  with_reducible rfl
 rotate_left
 ·simp only [Act.put, List.setIfInBounds_toArray, List.set_cons_zero, List.set_cons_succ, i64_w, i32_w]
  rfl
 refine pure_ (i := 5) (N := some 66) (v := ?_) (a' := ?_) #[false, true, true, false, true, true, false, false, false, false, false, false] rfl rfl (any_of HT_.out (by kernel_rfl)) (fun _ _ _ h => h) (Or.inl ⟨by rfl, ?_⟩) ?_ ?_
 rotate_left
 ·intro w'
  go_simp
  with_reducible rfl
 rotate_left
 ·simp only [Act.put, List.setIfInBounds_toArray, List.set_cons_zero, List.set_cons_succ, i64_w, i32_w]
  rfl
 refine take_ (i := 0) (N := some 61) (v := ?_) (a' := ?_) #[true, true, true, false, true, true, false, false, false, false, false, false] rfl rfl (take_ofW HT_.out HW_.out (by kernel_rfl)) (fun _ _ _ h => h) (Or.inl ⟨by rfl, ?_⟩) hHeld ?_ ?_
 rotate_left
 ·rintro w' ⟨s0, s1, s2⟩
  go_simp
  with_reducible rfl
 rotate_left
 ·simp only [Act.put, List.setIfInBounds_toArray, List.set_cons_zero, List.set_cons_succ, i64_w, i32_w]
  rfl
 refine one_ (i := 3) (N := some 64) #[true, true, true, true, true, true, false, false, false, false, false, false] rfl rfl (one_of HT_.out (by kernel_rfl)) (by decide) (fun K hK => ?_)
 refine goes_ Tryd.func15 (by kernel_rfl) rfl #[.int .i64 (wrap64 ((n : Int) - 1))] (by rfl) rfl rfl (by simp only [List.map_toArray, List.map_cons, List.map_nil]; rfl) ?_
 refine (HVN.out _).mono ?_
 rintro e W8 ⟨vv, rfl, hr, hb0⟩
 refine ⟨_, rfl, ?_⟩
 have hb := hb0
 replace HB := Lib.hid (below_step HB.out hb)
 replace HXb := Lib.hid (blk_below HXb.out hb)
 clear hb hb0
 obtain ⟨Av, cv, rfl⟩ := Kd.R_slice hr
 have hcv := (Kd.R_reads' hr).2.1
 have HVv := Lib.hid (Kd.R_reads' hr).2.2
 clear hr
 refine hK.out _ _ ⟨(cell_of_blk HXb.out rfl), (cell_of_blk HXb.out rfl), (cell_of_blk HXb.out rfl)⟩ (fun hHeld => ?_)
 clear hK K
 refine norm_ (a' := ?_) ?_ ?_
 rotate_left
 ·show Act.put _ (some 64) _ = _
  simp only [Act.put, List.setIfInBounds_toArray, List.set_cons_zero, List.set_cons_succ, i64_w, i32_w]
  rfl
 refine one_ (i := 6) (N := some 67) #[true, true, true, true, true, true, true, false, false, false, false, false] rfl rfl (one_of HT_.out (by kernel_rfl)) (by decide) (fun K hK => ?_)
 refine goes_ Tryd.func14 (by kernel_rfl) rfl #[.agg #[.int .i64 (x : Int), .string sl, .string sg], .slice Av vn.length cv, .string st, .int .i64 (x : Int), .string ⟨#[97, 110, 110, 97, 47, 110, 111, 116, 101, 115]⟩] (by rfl) rfl rfl (by simp only [List.map_toArray, List.map_cons, List.map_nil]; rfl) ?_
 refine (HO1.out _ _ _ hcv HVv.out).mono ?_
 rintro e W9 ⟨rfl, hb0⟩
 refine ⟨_, rfl, ?_⟩
 have hb := hb0
 replace HB := Lib.hid (below_step HB.out hb)
 replace HXb := Lib.hid (blk_below HXb.out hb)
 replace HVv := Lib.hid (Kd.C_below HVv.out hb)
 clear hb hb0
 refine hK.out _ _ ⟨(cell_of_blk HXb.out rfl), (cell_of_blk HXb.out rfl), (cell_of_blk HXb.out rfl)⟩ (fun hHeld => ?_)
 clear hK K
 refine norm_ (a' := ?_) ?_ ?_
 rotate_left
 ·show Act.put _ (some 67) _ = _
  simp only [Act.put, List.setIfInBounds_toArray, List.set_cons_zero, List.set_cons_succ, i64_w, i32_w]
  rfl
 refine pure_ (i := 7) (N := some 60) (v := ?_) (a' := ?_) #[true, true, true, true, true, true, true, true, false, false, false, false] rfl rfl (any_of HT_.out (by kernel_rfl)) (fun _ _ _ h => h) (Or.inl ⟨by rfl, ?_⟩) ?_ ?_
 rotate_left
 ·intro w'
  go_simp
  with_reducible rfl
 rotate_left
 ·simp only [Act.put, List.setIfInBounds_toArray, List.set_cons_zero, List.set_cons_succ, i64_w, i32_w]
  rfl
 refine pure_ (i := 8) (N := some 68) (v := ?_) (a' := ?_) #[true, true, true, true, true, true, true, true, true, false, false, false] rfl rfl (any_of HT_.out (by kernel_rfl)) (fun _ _ _ h => h) (Or.inl ⟨by rfl, ?_⟩) ?_ ?_
 rotate_left
 ·intro w'
  go_simp
  with_reducible rfl
 rotate_left
 ·simp only [Act.put, List.setIfInBounds_toArray, List.set_cons_zero, List.set_cons_succ, i64_w, i32_w]
  rfl
 refine pure_ (i := 9) (N := some 69) (v := ?_) (a' := ?_) #[true, true, true, true, true, true, true, true, true, true, false, false] rfl rfl (any_of HT_.out (by kernel_rfl)) (fun _ _ _ h => h) (Or.inl ⟨by rfl, ?_⟩) ?_ ?_
 rotate_left
 ·intro w'
  go_simp
  with_reducible rfl
 rotate_left
 ·simp only [Act.put, List.setIfInBounds_toArray, List.set_cons_zero, List.set_cons_succ, i64_w, i32_w]
  rfl
 refine pure_ (i := 10) (N := some 18) (v := ?_) (a' := ?_) #[true, true, true, true, true, true, true, true, true, true, true, false] rfl rfl (any_of HT_.out (by kernel_rfl)) (fun _ _ _ h => h) (Or.inl ⟨by rfl, ?_⟩) ?_ ?_
 rotate_left
 ·intro w'
  go_simp
  with_reducible rfl
 rotate_left
 ·simp only [Act.put, List.setIfInBounds_toArray, List.set_cons_zero, List.set_cons_succ, i64_w, i32_w]
  rfl
 refine pure_ (i := 11) (N := some 19) (v := ?_) (a' := ?_) #[true, true, true, true, true, true, true, true, true, true, true, true] rfl rfl (any_of HT_.out (by kernel_rfl)) (fun _ _ _ h => h) (Or.inl ⟨by rfl, ?_⟩) ?_ ?_
 rotate_left
 ·intro w'
  go_simp
  with_reducible rfl
 rotate_left
 ·simp only [Act.put, List.setIfInBounds_toArray, List.set_cons_zero, List.set_cons_succ, i64_w, i32_w]
  rfl
 refine done_ (done_of HT_.out (by kernel_rfl)) ?_
 clear HT_
 go_wp2_with fail
 refine (HSG.out _).mono ?_
 rintro e W10 ⟨rfl, hb0⟩
 have hb := hb0
 replace HB := Lib.hid (below_step HB.out hb)
 replace HXb := Lib.hid (blk_below HXb.out hb)
 replace HVv := Lib.hid (Kd.C_below HVv.out hb)
 clear hb hb0
 go_wp2_with fail
 refine (HB2.out _ HB.out).mono ?_
 rintro e W11 ⟨rfl, hb0⟩
 have hb := hb0
 replace HB := Lib.hid (below_step HB.out hb)
 replace HXb := Lib.hid (blk_below HXb.out hb)
 replace HVv := Lib.hid (Kd.C_below HVv.out hb)
 clear hb hb0
 go_wp2_with fail
 have hb0 : Below (W11.alloc (.cells #[.int .i64 R2.1.e, .string R2.1.s, .string R2.1.g] 29)).heap.size (W11.alloc (.cells #[.int .i64 R2.1.e, .string R2.1.s, .string R2.1.g] 29)) (W11.alloc (.cells #[.int .i64 R2.1.e, .string R2.1.s, .string R2.1.g] 29)).drew := below_drew (Below.refl _ _)
 have hb := below_step (below_alloc (Below.refl _ _) _) hb0
 replace HB := Lib.hid (below_step HB.out hb)
 replace HXb := Lib.hid (blk_below HXb.out hb)
 replace HVv := Lib.hid (Kd.C_below HVv.out hb)
 have HXg := Lib.hid (blk_below (blk_new W11 (.cells #[.int .i64 R2.1.e, .string R2.1.s, .string R2.1.g] 29)) hb0)
 clear hb hb0
 refine start_ (n := 11) (S := fun w' => w'.cell? ⟨W6.heap.size, 0, none⟩ = some (.int .i64 (x : Int)) ∧ w'.cell? ⟨W6.heap.size, 1, none⟩ = some (.string sl) ∧ w'.cell? ⟨W6.heap.size, 2, none⟩ = some (.string sg)) (ds := []) #[false, false, false, false, false, false, false, false, false, false, false] (by kernel_rfl) rfl rfl ⟨(cell_of_blk HXb.out rfl), (cell_of_blk HXb.out rfl), (cell_of_blk HXb.out rfl)⟩ (fun hHeld => ?_)
 refine with_tabW ag9.tab10 ag9.bits10 (fun HT_ HW_ => ?_)
 refine pure_ (i := 1) (N := some 80) (v := ?_) (a' := ?_) #[false, true, false, false, false, false, false, false, false, false, false] rfl rfl (any_of HT_.out (by kernel_rfl)) (fun _ _ _ h => h) (Or.inl ⟨by rfl, ?_⟩) ?_ ?_
 rotate_left
 ·intro w'
  go_simp
  with_reducible rfl
 rotate_left
 ·simp only [Act.put, List.setIfInBounds_toArray, List.set_cons_zero, List.set_cons_succ, i64_w, i32_w]
  rfl
 refine pure_ (i := 3) (N := some 82) (v := ?_) (a' := ?_) #[false, true, false, true, false, false, false, false, false, false, false] rfl rfl (any_of HT_.out (by kernel_rfl)) (fun _ _ _ h => h) (Or.inl ⟨by rfl, ?_⟩) ?_ ?_
 rotate_left
 ·intro w'
  go_simp
  with_reducible rfl
 rotate_left
 ·simp only [Act.put, List.setIfInBounds_toArray, List.set_cons_zero, List.set_cons_succ, i64_w, i32_w]
  rfl
 refine pure_ (i := 4) (N := some 83) (v := ?_) (a' := ?_) #[false, true, false, true, true, false, false, false, false, false, false] rfl rfl (any_of HT_.out (by kernel_rfl)) (fun _ _ _ h => h) (Or.inl ⟨by rfl, ?_⟩) ?_ ?_
 rotate_left
 ·intro w'
  go_simp
  with_reducible rfl
 rotate_left
 ·simp only [Act.put, List.setIfInBounds_toArray, List.set_cons_zero, List.set_cons_succ, i64_w, i32_w]
  rfl
 refine take_ (i := 0) (N := some 79) (v := ?_) (a' := ?_) #[true, true, false, true, true, false, false, false, false, false, false] rfl rfl (take_ofW HT_.out HW_.out (by kernel_rfl)) (fun _ _ _ h => h) (Or.inl ⟨by rfl, ?_⟩) hHeld ?_ ?_
 rotate_left
 ·rintro w' ⟨s0, s1, s2⟩
  go_simp
  with_reducible rfl
 rotate_left
 ·simp only [Act.put, List.setIfInBounds_toArray, List.set_cons_zero, List.set_cons_succ, i64_w, i32_w]
  rfl
 refine one_ (i := 2) (N := some 81) #[true, true, true, true, true, false, false, false, false, false, false] rfl rfl (one_of HT_.out (by kernel_rfl)) (by decide) (fun K hK => ?_)
 refine goes_ Tryd.func15 (by kernel_rfl) rfl #[.int .i64 (x : Int)] (by rfl) rfl rfl (by simp only [List.map_toArray, List.map_cons, List.map_nil]; rfl) ?_
 refine (HVX.out _).mono ?_
 rintro e W12 ⟨vv, rfl, hr, hb0⟩
 refine ⟨_, rfl, ?_⟩
 have hb := hb0
 replace HB := Lib.hid (below_step HB.out hb)
 replace HXb := Lib.hid (blk_below HXb.out hb)
 replace HXg := Lib.hid (blk_below HXg.out hb)
 replace HVv := Lib.hid (Kd.C_below HVv.out hb)
 clear hb hb0
 obtain ⟨Ap, cp, rfl⟩ := Kd.R_slice hr
 have hcp := (Kd.R_reads' hr).2.1
 have HVp := Lib.hid (Kd.R_reads' hr).2.2
 clear hr
 refine hK.out _ _ ⟨(cell_of_blk HXb.out rfl), (cell_of_blk HXb.out rfl), (cell_of_blk HXb.out rfl)⟩ (fun hHeld => ?_)
 clear hK K
 refine norm_ (a' := ?_) ?_ ?_
 rotate_left
 ·show Act.put _ (some 81) _ = _
  simp only [Act.put, List.setIfInBounds_toArray, List.set_cons_zero, List.set_cons_succ, i64_w, i32_w]
  rfl
 refine one_ (i := 5) (N := some 84) #[true, true, true, true, true, true, false, false, false, false, false] rfl rfl (one_of HT_.out (by kernel_rfl)) (by decide) (fun K hK => ?_)
 refine goes_ Tryd.func14 (by kernel_rfl) rfl #[.agg #[.int .i64 (x : Int), .string sl, .string sg], .slice Ap vx.length cp, .string st, .int .i64 epoch, .string ⟨#[97, 110, 110, 97, 47, 110, 111, 116, 101, 115]⟩] (by rfl) rfl rfl (by simp only [List.map_toArray, List.map_cons, List.map_nil]; rfl) ?_
 refine (HO3.out _ _ _ hcp HVp.out).mono ?_
 rintro e W13 ⟨rfl, hb0⟩
 refine ⟨_, rfl, ?_⟩
 have hb := hb0
 replace HB := Lib.hid (below_step HB.out hb)
 replace HXb := Lib.hid (blk_below HXb.out hb)
 replace HXg := Lib.hid (blk_below HXg.out hb)
 replace HVv := Lib.hid (Kd.C_below HVv.out hb)
 replace HVp := Lib.hid (Kd.C_below HVp.out hb)
 clear hb hb0
 refine hK.out _ _ ⟨(cell_of_blk HXb.out rfl), (cell_of_blk HXb.out rfl), (cell_of_blk HXb.out rfl)⟩ (fun hHeld => ?_)
 clear hK K
 refine norm_ (a' := ?_) ?_ ?_
 rotate_left
 ·show Act.put _ (some 84) _ = _
  simp only [Act.put, List.setIfInBounds_toArray, List.set_cons_zero, List.set_cons_succ, i64_w, i32_w]
  rfl
 refine pure_ (i := 6) (N := some 78) (v := ?_) (a' := ?_) #[true, true, true, true, true, true, true, false, false, false, false] rfl rfl (any_of HT_.out (by kernel_rfl)) (fun _ _ _ h => h) (Or.inl ⟨by rfl, ?_⟩) ?_ ?_
 rotate_left
 ·intro w'
  go_simp
  with_reducible rfl
 rotate_left
 ·simp only [Act.put, List.setIfInBounds_toArray, List.set_cons_zero, List.set_cons_succ, i64_w, i32_w]
  rfl
 refine pure_ (i := 7) (N := some 85) (v := ?_) (a' := ?_) #[true, true, true, true, true, true, true, true, false, false, false] rfl rfl (any_of HT_.out (by kernel_rfl)) (fun _ _ _ h => h) (Or.inl ⟨by rfl, ?_⟩) ?_ ?_
 rotate_left
 ·intro w'
  go_simp
  with_reducible rfl
 rotate_left
 ·simp only [Act.put, List.setIfInBounds_toArray, List.set_cons_zero, List.set_cons_succ, i64_w, i32_w]
  rfl
 refine pure_ (i := 8) (N := some 86) (v := ?_) (a' := ?_) #[true, true, true, true, true, true, true, true, true, false, false] rfl rfl (any_of HT_.out (by kernel_rfl)) (fun _ _ _ h => h) (Or.inl ⟨by rfl, ?_⟩) ?_ ?_
 rotate_left
 ·intro w'
  go_simp
  with_reducible rfl
 rotate_left
 ·simp only [Act.put, List.setIfInBounds_toArray, List.set_cons_zero, List.set_cons_succ, i64_w, i32_w]
  rfl
 refine pure_ (i := 9) (N := some 22) (v := ?_) (a' := ?_) #[true, true, true, true, true, true, true, true, true, true, false] rfl rfl (any_of HT_.out (by kernel_rfl)) (fun _ _ _ h => h) (Or.inl ⟨by rfl, ?_⟩) ?_ ?_
 rotate_left
 ·intro w'
  go_simp
  with_reducible rfl
 rotate_left
 ·simp only [Act.put, List.setIfInBounds_toArray, List.set_cons_zero, List.set_cons_succ, i64_w, i32_w]
  rfl
 refine pure_ (i := 10) (N := some 23) (v := ?_) (a' := ?_) #[true, true, true, true, true, true, true, true, true, true, true] rfl rfl (any_of HT_.out (by kernel_rfl)) (fun _ _ _ h => h) (Or.inl ⟨by rfl, ?_⟩) ?_ ?_
 rotate_left
 ·intro w'
  go_simp
  with_reducible rfl
 rotate_left
 ·simp only [Act.put, List.setIfInBounds_toArray, List.set_cons_zero, List.set_cons_succ, i64_w, i32_w]
  rfl
 refine done_ (done_of HT_.out (by kernel_rfl)) ?_
 clear HT_
 obtain ⟨B1, hB1⟩ : ∃ B1, decide (n ≠ x + 1) = B1 := ⟨_, rfl⟩
 have f1 : (R1.2 == 1) = B1 := by
  rw [HC.out.1, ← hB1]
  by_cases h : n = x + 1
  ·rw [if_pos h, decide_eq_false (fun hh => hh h)]; rfl
  ·rw [if_neg h, decide_eq_true h]; rfl
 have f2 : ((n : Int) != wrap64 ((x : Int) + 1)) = B1 := by
  have hl := HL.out
  rw [w64 (by omega) (by omega), ← hB1]
  by_cases h : n = x + 1
  ·rw [h, decide_eq_false (fun hh => hh rfl)]; simp
  ·rw [decide_eq_true h, bne_iff_ne]; omega
 have f3 : (B1 != B1) = false := by cases B1 <;> rfl
 clear hB1
 by_cases qe : 0 ≤ epoch ∧ epoch ≤ 7
 rotate_left
 ·skip
  have g1 : (R2.2 == 1) = true := by rw [HC.out.2.1, if_neg qe]; rfl
  have hne : epoch ≠ (x : Int) := fun h => qe (by have := HL.out.2.1; omega)
  have g3 : (R3.2 == 1) = true := by rw [HC.out.2.2, if_neg hne]; rfl
  have g4 : (epoch != (x : Int)) = true := by rw [bne_iff_ne]; exact hne
  clear hne
  by_cases q0 : epoch < 0
  ·skip
   have d1 : decide (epoch < 0) = true := decide_eq_true q0
   clear qe q0
   by_cases hS : kindF s = 0
   rotate_left
   ·skip
    have t5 : (kindF s != 0) = true := by rw [bne_iff_ne]; exact hS
    go_wp2_with fail
    refine (HK.out hz _).mono ?_
    rintro e W14 ⟨rfl, hb0⟩
    have hb := hb0
    replace HB := Lib.hid (below_step HB.out hb)
    replace HXb := Lib.hid (blk_below HXb.out hb)
    replace HXg := Lib.hid (blk_below HXg.out hb)
    replace HVv := Lib.hid (Kd.C_below HVv.out hb)
    replace HVp := Lib.hid (Kd.C_below HVp.out hb)
    clear hb hb0
    go_wp2
    go_ret
    exact ⟨rfl, HB.out⟩
   have t5 : (kindF s != 0) = false := by rw [hS]; rfl
   go_wp2_with fail
   refine (HK.out hz _).mono ?_
   rintro e W14 ⟨rfl, hb0⟩
   have hb := hb0
   replace HB := Lib.hid (below_step HB.out hb)
   replace HXb := Lib.hid (blk_below HXb.out hb)
   replace HXg := Lib.hid (blk_below HXg.out hb)
   replace HVv := Lib.hid (Kd.C_below HVv.out hb)
   replace HVp := Lib.hid (Kd.C_below HVp.out hb)
   clear hb hb0
   go_wp2_with fail
   refine (HSG.out _).mono ?_
   rintro e W15 ⟨rfl, hb0⟩
   have hb := hb0
   replace HB := Lib.hid (below_step HB.out hb)
   replace HXb := Lib.hid (blk_below HXb.out hb)
   replace HXg := Lib.hid (blk_below HXg.out hb)
   replace HVv := Lib.hid (Kd.C_below HVv.out hb)
   replace HVp := Lib.hid (Kd.C_below HVp.out hb)
   clear hb hb0
   go_wp2_with fail
   refine (HC1.out hz hS _ HB.out).mono ?_
   rintro e W16 ⟨rfl, hb0⟩
   have hb := hb0
   replace HB := Lib.hid (below_step HB.out hb)
   replace HXb := Lib.hid (blk_below HXb.out hb)
   replace HXg := Lib.hid (blk_below HXg.out hb)
   replace HVv := Lib.hid (Kd.C_below HVv.out hb)
   replace HVp := Lib.hid (Kd.C_below HVp.out hb)
   clear hb hb0
   go_wp2_with fail
   refine (HC2.out hz hS _ (below_alloc HB.out _)).mono ?_
   rintro e W17 ⟨rfl, hb0⟩
   have hb := below_step (below_alloc (Below.refl _ _) _) hb0
   replace HB := Lib.hid (below_step HB.out hb)
   replace HXb := Lib.hid (blk_below HXb.out hb)
   replace HXg := Lib.hid (blk_below HXg.out hb)
   replace HVv := Lib.hid (Kd.C_below HVv.out hb)
   replace HVp := Lib.hid (Kd.C_below HVp.out hb)
   have HXk1 := Lib.hid (blk_below (blk_new W16 (.cells #[.int .i64 0, .string ⟨#[]⟩, .string ⟨#[]⟩] 29)) hb0)
   clear hb hb0
   go_wp2_with fail
   refine (HSG.out _).mono ?_
   rintro e W18 ⟨rfl, hb0⟩
   have hb := below_step (below_alloc (Below.refl _ _) _) hb0
   replace HB := Lib.hid (below_step HB.out hb)
   replace HXb := Lib.hid (blk_below HXb.out hb)
   replace HXg := Lib.hid (blk_below HXg.out hb)
   replace HXk1 := Lib.hid (blk_below HXk1.out hb)
   replace HVv := Lib.hid (Kd.C_below HVv.out hb)
   replace HVp := Lib.hid (Kd.C_below HVp.out hb)
   have HXk2 := Lib.hid (blk_below (blk_new W17 (.cells #[.int .i64 0, .string ⟨#[]⟩, .string ⟨#[]⟩] 29)) hb0)
   clear hb hb0
   go_wp2_with fail
   refine (HC3.out _ HB.out).mono ?_
   rintro e W19 ⟨rfl, hb0⟩
   have hb := hb0
   replace HB := Lib.hid (below_step HB.out hb)
   replace HXb := Lib.hid (blk_below HXb.out hb)
   replace HXg := Lib.hid (blk_below HXg.out hb)
   replace HXk1 := Lib.hid (blk_below HXk1.out hb)
   replace HXk2 := Lib.hid (blk_below HXk2.out hb)
   replace HVv := Lib.hid (Kd.C_below HVv.out hb)
   replace HVp := Lib.hid (Kd.C_below HVp.out hb)
   clear hb hb0
   go_wp2_with fail
   have hb0 : Below (W19.alloc (.cells #[.int .i64 0, .string ⟨#[]⟩, .string ⟨#[]⟩] 29)).heap.size (W19.alloc (.cells #[.int .i64 0, .string ⟨#[]⟩, .string ⟨#[]⟩] 29)) (W19.alloc (.cells #[.int .i64 0, .string ⟨#[]⟩, .string ⟨#[]⟩] 29)).drew := below_drew (Below.refl _ _)
   have hb := below_step (below_alloc (Below.refl _ _) _) hb0
   replace HB := Lib.hid (below_step HB.out hb)
   replace HXb := Lib.hid (blk_below HXb.out hb)
   replace HXg := Lib.hid (blk_below HXg.out hb)
   replace HXk1 := Lib.hid (blk_below HXk1.out hb)
   replace HXk2 := Lib.hid (blk_below HXk2.out hb)
   replace HVv := Lib.hid (Kd.C_below HVv.out hb)
   replace HVp := Lib.hid (Kd.C_below HVp.out hb)
   have HXk3 := Lib.hid (blk_below (blk_new W19 (.cells #[.int .i64 0, .string ⟨#[]⟩, .string ⟨#[]⟩] 29)) hb0)
   clear hb hb0
   refine start_ (n := 11) (S := fun w' => w'.cell? ⟨W6.heap.size, 0, none⟩ = some (.int .i64 (x : Int)) ∧ w'.cell? ⟨W6.heap.size, 1, none⟩ = some (.string sl) ∧ w'.cell? ⟨W6.heap.size, 2, none⟩ = some (.string sg)) (ds := []) #[false, false, false, false, false, false, false, false, false, false, false] (by kernel_rfl) rfl rfl ⟨(cell_of_blk HXb.out rfl), (cell_of_blk HXb.out rfl), (cell_of_blk HXb.out rfl)⟩ (fun hHeld => ?_)
   refine with_tabW ag9.tab18 ag9.bits18 (fun HT_ HW_ => ?_)
   refine pure_ (i := 1) (N := some 145) (v := ?_) (a' := ?_) #[false, true, false, false, false, false, false, false, false, false, false] rfl rfl (any_of HT_.out (by kernel_rfl)) (fun _ _ _ h => h) (Or.inl ⟨by rfl, ?_⟩) ?_ ?_
   rotate_left
   ·intro w'
    go_simp
    with_reducible rfl
   rotate_left
   ·simp only [Act.put, List.setIfInBounds_toArray, List.set_cons_zero, List.set_cons_succ, i64_w, i32_w]
    rfl
   refine pure_ (i := 3) (N := some 147) (v := ?_) (a' := ?_) #[false, true, false, true, false, false, false, false, false, false, false] rfl rfl (any_of HT_.out (by kernel_rfl)) (fun _ _ _ h => h) (Or.inl ⟨by rfl, ?_⟩) ?_ ?_
   rotate_left
   ·intro w'
    go_simp
    with_reducible rfl
   rotate_left
   ·simp only [Act.put, List.setIfInBounds_toArray, List.set_cons_zero, List.set_cons_succ, i64_w, i32_w]
    rfl
   refine pure_ (i := 4) (N := some 148) (v := ?_) (a' := ?_) #[false, true, false, true, true, false, false, false, false, false, false] rfl rfl (any_of HT_.out (by kernel_rfl)) (fun _ _ _ h => h) (Or.inl ⟨by rfl, ?_⟩) ?_ ?_
   rotate_left
   ·intro w'
    go_simp
    with_reducible rfl
   rotate_left
   ·simp only [Act.put, List.setIfInBounds_toArray, List.set_cons_zero, List.set_cons_succ, i64_w, i32_w]
    rfl
   refine take_ (i := 0) (N := some 144) (v := ?_) (a' := ?_) #[true, true, false, true, true, false, false, false, false, false, false] rfl rfl (take_ofW HT_.out HW_.out (by kernel_rfl)) (fun _ _ _ h => h) (Or.inl ⟨by rfl, ?_⟩) hHeld ?_ ?_
   rotate_left
   ·rintro w' ⟨s0, s1, s2⟩
    go_simp
    with_reducible rfl
   rotate_left
   ·simp only [Act.put, List.setIfInBounds_toArray, List.set_cons_zero, List.set_cons_succ, i64_w, i32_w]
    rfl
   refine one_ (i := 2) (N := some 146) #[true, true, true, true, true, false, false, false, false, false, false] rfl rfl (one_of HT_.out (by kernel_rfl)) (by decide) (fun K hK => ?_)
   refine goes_ Tryd.func15 (by kernel_rfl) rfl #[.int .i64 (x : Int)] (by rfl) rfl rfl (by simp only [List.map_toArray, List.map_cons, List.map_nil]; rfl) ?_
   refine (HVX.out _).mono ?_
   rintro e W20 ⟨vv, rfl, hr, hb0⟩
   refine ⟨_, rfl, ?_⟩
   have hb := hb0
   replace HB := Lib.hid (below_step HB.out hb)
   replace HXb := Lib.hid (blk_below HXb.out hb)
   replace HXg := Lib.hid (blk_below HXg.out hb)
   replace HXk1 := Lib.hid (blk_below HXk1.out hb)
   replace HXk2 := Lib.hid (blk_below HXk2.out hb)
   replace HXk3 := Lib.hid (blk_below HXk3.out hb)
   replace HVv := Lib.hid (Kd.C_below HVv.out hb)
   replace HVp := Lib.hid (Kd.C_below HVp.out hb)
   clear hb hb0
   obtain ⟨Aq, cq, rfl⟩ := Kd.R_slice hr
   have hcq := (Kd.R_reads' hr).2.1
   have HVq := Lib.hid (Kd.R_reads' hr).2.2
   clear hr
   refine hK.out _ _ ⟨(cell_of_blk HXb.out rfl), (cell_of_blk HXb.out rfl), (cell_of_blk HXb.out rfl)⟩ (fun hHeld => ?_)
   clear hK K
   refine norm_ (a' := ?_) ?_ ?_
   rotate_left
   ·show Act.put _ (some 146) _ = _
    simp only [Act.put, List.setIfInBounds_toArray, List.set_cons_zero, List.set_cons_succ, i64_w, i32_w]
    rfl
   refine one_ (i := 5) (N := some 149) #[true, true, true, true, true, true, false, false, false, false, false] rfl rfl (one_of HT_.out (by kernel_rfl)) (by decide) (fun K hK => ?_)
   refine goes_ Tryd.func14 (by kernel_rfl) rfl #[.agg #[.int .i64 (x : Int), .string sl, .string sg], .slice Aq vx.length cq, .string s, .int .i64 (x : Int), .string ⟨#[97, 110, 110, 97, 47, 110, 111, 116, 101, 115]⟩] (by rfl) rfl rfl (by simp only [List.map_toArray, List.map_cons, List.map_nil]; rfl) ?_
   refine (HC4.out hz hS _ _ _ hcq HVq.out).mono ?_
   rintro e W21 ⟨rfl, hb0⟩
   refine ⟨_, rfl, ?_⟩
   have hb := hb0
   replace HB := Lib.hid (below_step HB.out hb)
   replace HXb := Lib.hid (blk_below HXb.out hb)
   replace HXg := Lib.hid (blk_below HXg.out hb)
   replace HXk1 := Lib.hid (blk_below HXk1.out hb)
   replace HXk2 := Lib.hid (blk_below HXk2.out hb)
   replace HXk3 := Lib.hid (blk_below HXk3.out hb)
   replace HVv := Lib.hid (Kd.C_below HVv.out hb)
   replace HVp := Lib.hid (Kd.C_below HVp.out hb)
   replace HVq := Lib.hid (Kd.C_below HVq.out hb)
   clear hb hb0
   refine hK.out _ _ ⟨(cell_of_blk HXb.out rfl), (cell_of_blk HXb.out rfl), (cell_of_blk HXb.out rfl)⟩ (fun hHeld => ?_)
   clear hK K
   refine norm_ (a' := ?_) ?_ ?_
   rotate_left
   ·show Act.put _ (some 149) _ = _
    simp only [Act.put, List.setIfInBounds_toArray, List.set_cons_zero, List.set_cons_succ, i64_w, i32_w]
    rfl
   refine pure_ (i := 6) (N := some 143) (v := ?_) (a' := ?_) #[true, true, true, true, true, true, true, false, false, false, false] rfl rfl (any_of HT_.out (by kernel_rfl)) (fun _ _ _ h => h) (Or.inl ⟨by rfl, ?_⟩) ?_ ?_
   rotate_left
   ·intro w'
    go_simp
    with_reducible rfl
   rotate_left
   ·simp only [Act.put, List.setIfInBounds_toArray, List.set_cons_zero, List.set_cons_succ, i64_w, i32_w]
    rfl
   refine pure_ (i := 7) (N := some 150) (v := ?_) (a' := ?_) #[true, true, true, true, true, true, true, true, false, false, false] rfl rfl (any_of HT_.out (by kernel_rfl)) (fun _ _ _ h => h) (Or.inl ⟨by rfl, ?_⟩) ?_ ?_
   rotate_left
   ·intro w'
    go_simp
    with_reducible rfl
   rotate_left
   ·simp only [Act.put, List.setIfInBounds_toArray, List.set_cons_zero, List.set_cons_succ, i64_w, i32_w]
    rfl
   refine pure_ (i := 8) (N := some 151) (v := ?_) (a' := ?_) #[true, true, true, true, true, true, true, true, true, false, false] rfl rfl (any_of HT_.out (by kernel_rfl)) (fun _ _ _ h => h) (Or.inl ⟨by rfl, ?_⟩) ?_ ?_
   rotate_left
   ·intro w'
    go_simp
    with_reducible rfl
   rotate_left
   ·simp only [Act.put, List.setIfInBounds_toArray, List.set_cons_zero, List.set_cons_succ, i64_w, i32_w]
    rfl
   refine pure_ (i := 9) (N := some 30) (v := ?_) (a' := ?_) #[true, true, true, true, true, true, true, true, true, true, false] rfl rfl (any_of HT_.out (by kernel_rfl)) (fun _ _ _ h => h) (Or.inl ⟨by rfl, ?_⟩) ?_ ?_
   rotate_left
   ·intro w'
    go_simp
    with_reducible rfl
   rotate_left
   ·simp only [Act.put, List.setIfInBounds_toArray, List.set_cons_zero, List.set_cons_succ, i64_w, i32_w]
    rfl
   refine pure_ (i := 10) (N := some 31) (v := ?_) (a' := ?_) #[true, true, true, true, true, true, true, true, true, true, true] rfl rfl (any_of HT_.out (by kernel_rfl)) (fun _ _ _ h => h) (Or.inl ⟨by rfl, ?_⟩) ?_ ?_
   rotate_left
   ·intro w'
    go_simp
    with_reducible rfl
   rotate_left
   ·simp only [Act.put, List.setIfInBounds_toArray, List.set_cons_zero, List.set_cons_succ, i64_w, i32_w]
    rfl
   refine done_ (done_of HT_.out (by kernel_rfl)) ?_
   clear HT_
   go_wp2
   go_ret
   exact ⟨rfl, HB.out⟩
  ·skip
   have d1 : decide (epoch < 0) = false := decide_eq_false q0
   have d2 : decide (7 < epoch) = true := decide_eq_true (by omega)
   clear qe q0
   by_cases hS : kindF s = 0
   rotate_left
   ·skip
    have t5 : (kindF s != 0) = true := by rw [bne_iff_ne]; exact hS
    go_wp2_with fail
    refine (HK.out hz _).mono ?_
    rintro e W14 ⟨rfl, hb0⟩
    have hb := hb0
    replace HB := Lib.hid (below_step HB.out hb)
    replace HXb := Lib.hid (blk_below HXb.out hb)
    replace HXg := Lib.hid (blk_below HXg.out hb)
    replace HVv := Lib.hid (Kd.C_below HVv.out hb)
    replace HVp := Lib.hid (Kd.C_below HVp.out hb)
    clear hb hb0
    go_wp2
    go_ret
    exact ⟨rfl, HB.out⟩
   have t5 : (kindF s != 0) = false := by rw [hS]; rfl
   go_wp2_with fail
   refine (HK.out hz _).mono ?_
   rintro e W14 ⟨rfl, hb0⟩
   have hb := hb0
   replace HB := Lib.hid (below_step HB.out hb)
   replace HXb := Lib.hid (blk_below HXb.out hb)
   replace HXg := Lib.hid (blk_below HXg.out hb)
   replace HVv := Lib.hid (Kd.C_below HVv.out hb)
   replace HVp := Lib.hid (Kd.C_below HVp.out hb)
   clear hb hb0
   go_wp2_with fail
   refine (HSG.out _).mono ?_
   rintro e W15 ⟨rfl, hb0⟩
   have hb := hb0
   replace HB := Lib.hid (below_step HB.out hb)
   replace HXb := Lib.hid (blk_below HXb.out hb)
   replace HXg := Lib.hid (blk_below HXg.out hb)
   replace HVv := Lib.hid (Kd.C_below HVv.out hb)
   replace HVp := Lib.hid (Kd.C_below HVp.out hb)
   clear hb hb0
   go_wp2_with fail
   refine (HC1.out hz hS _ HB.out).mono ?_
   rintro e W16 ⟨rfl, hb0⟩
   have hb := hb0
   replace HB := Lib.hid (below_step HB.out hb)
   replace HXb := Lib.hid (blk_below HXb.out hb)
   replace HXg := Lib.hid (blk_below HXg.out hb)
   replace HVv := Lib.hid (Kd.C_below HVv.out hb)
   replace HVp := Lib.hid (Kd.C_below HVp.out hb)
   clear hb hb0
   go_wp2_with fail
   refine (HC2.out hz hS _ (below_alloc HB.out _)).mono ?_
   rintro e W17 ⟨rfl, hb0⟩
   have hb := below_step (below_alloc (Below.refl _ _) _) hb0
   replace HB := Lib.hid (below_step HB.out hb)
   replace HXb := Lib.hid (blk_below HXb.out hb)
   replace HXg := Lib.hid (blk_below HXg.out hb)
   replace HVv := Lib.hid (Kd.C_below HVv.out hb)
   replace HVp := Lib.hid (Kd.C_below HVp.out hb)
   have HXk1 := Lib.hid (blk_below (blk_new W16 (.cells #[.int .i64 0, .string ⟨#[]⟩, .string ⟨#[]⟩] 29)) hb0)
   clear hb hb0
   go_wp2_with fail
   refine (HSG.out _).mono ?_
   rintro e W18 ⟨rfl, hb0⟩
   have hb := below_step (below_alloc (Below.refl _ _) _) hb0
   replace HB := Lib.hid (below_step HB.out hb)
   replace HXb := Lib.hid (blk_below HXb.out hb)
   replace HXg := Lib.hid (blk_below HXg.out hb)
   replace HXk1 := Lib.hid (blk_below HXk1.out hb)
   replace HVv := Lib.hid (Kd.C_below HVv.out hb)
   replace HVp := Lib.hid (Kd.C_below HVp.out hb)
   have HXk2 := Lib.hid (blk_below (blk_new W17 (.cells #[.int .i64 0, .string ⟨#[]⟩, .string ⟨#[]⟩] 29)) hb0)
   clear hb hb0
   go_wp2_with fail
   refine (HC3.out _ HB.out).mono ?_
   rintro e W19 ⟨rfl, hb0⟩
   have hb := hb0
   replace HB := Lib.hid (below_step HB.out hb)
   replace HXb := Lib.hid (blk_below HXb.out hb)
   replace HXg := Lib.hid (blk_below HXg.out hb)
   replace HXk1 := Lib.hid (blk_below HXk1.out hb)
   replace HXk2 := Lib.hid (blk_below HXk2.out hb)
   replace HVv := Lib.hid (Kd.C_below HVv.out hb)
   replace HVp := Lib.hid (Kd.C_below HVp.out hb)
   clear hb hb0
   go_wp2_with fail
   have hb0 : Below (W19.alloc (.cells #[.int .i64 0, .string ⟨#[]⟩, .string ⟨#[]⟩] 29)).heap.size (W19.alloc (.cells #[.int .i64 0, .string ⟨#[]⟩, .string ⟨#[]⟩] 29)) (W19.alloc (.cells #[.int .i64 0, .string ⟨#[]⟩, .string ⟨#[]⟩] 29)).drew := below_drew (Below.refl _ _)
   have hb := below_step (below_alloc (Below.refl _ _) _) hb0
   replace HB := Lib.hid (below_step HB.out hb)
   replace HXb := Lib.hid (blk_below HXb.out hb)
   replace HXg := Lib.hid (blk_below HXg.out hb)
   replace HXk1 := Lib.hid (blk_below HXk1.out hb)
   replace HXk2 := Lib.hid (blk_below HXk2.out hb)
   replace HVv := Lib.hid (Kd.C_below HVv.out hb)
   replace HVp := Lib.hid (Kd.C_below HVp.out hb)
   have HXk3 := Lib.hid (blk_below (blk_new W19 (.cells #[.int .i64 0, .string ⟨#[]⟩, .string ⟨#[]⟩] 29)) hb0)
   clear hb hb0
   refine start_ (n := 11) (S := fun w' => w'.cell? ⟨W6.heap.size, 0, none⟩ = some (.int .i64 (x : Int)) ∧ w'.cell? ⟨W6.heap.size, 1, none⟩ = some (.string sl) ∧ w'.cell? ⟨W6.heap.size, 2, none⟩ = some (.string sg)) (ds := []) #[false, false, false, false, false, false, false, false, false, false, false] (by kernel_rfl) rfl rfl ⟨(cell_of_blk HXb.out rfl), (cell_of_blk HXb.out rfl), (cell_of_blk HXb.out rfl)⟩ (fun hHeld => ?_)
   refine with_tabW ag9.tab18 ag9.bits18 (fun HT_ HW_ => ?_)
   refine pure_ (i := 1) (N := some 145) (v := ?_) (a' := ?_) #[false, true, false, false, false, false, false, false, false, false, false] rfl rfl (any_of HT_.out (by kernel_rfl)) (fun _ _ _ h => h) (Or.inl ⟨by rfl, ?_⟩) ?_ ?_
   rotate_left
   ·intro w'
    go_simp
    with_reducible rfl
   rotate_left
   ·simp only [Act.put, List.setIfInBounds_toArray, List.set_cons_zero, List.set_cons_succ, i64_w, i32_w]
    rfl
   refine pure_ (i := 3) (N := some 147) (v := ?_) (a' := ?_) #[false, true, false, true, false, false, false, false, false, false, false] rfl rfl (any_of HT_.out (by kernel_rfl)) (fun _ _ _ h => h) (Or.inl ⟨by rfl, ?_⟩) ?_ ?_
   rotate_left
   ·intro w'
    go_simp
    with_reducible rfl
   rotate_left
   ·simp only [Act.put, List.setIfInBounds_toArray, List.set_cons_zero, List.set_cons_succ, i64_w, i32_w]
    rfl
   refine pure_ (i := 4) (N := some 148) (v := ?_) (a' := ?_) #[false, true, false, true, true, false, false, false, false, false, false] rfl rfl (any_of HT_.out (by kernel_rfl)) (fun _ _ _ h => h) (Or.inl ⟨by rfl, ?_⟩) ?_ ?_
   rotate_left
   ·intro w'
    go_simp
    with_reducible rfl
   rotate_left
   ·simp only [Act.put, List.setIfInBounds_toArray, List.set_cons_zero, List.set_cons_succ, i64_w, i32_w]
    rfl
   refine take_ (i := 0) (N := some 144) (v := ?_) (a' := ?_) #[true, true, false, true, true, false, false, false, false, false, false] rfl rfl (take_ofW HT_.out HW_.out (by kernel_rfl)) (fun _ _ _ h => h) (Or.inl ⟨by rfl, ?_⟩) hHeld ?_ ?_
   rotate_left
   ·rintro w' ⟨s0, s1, s2⟩
    go_simp
    with_reducible rfl
   rotate_left
   ·simp only [Act.put, List.setIfInBounds_toArray, List.set_cons_zero, List.set_cons_succ, i64_w, i32_w]
    rfl
   refine one_ (i := 2) (N := some 146) #[true, true, true, true, true, false, false, false, false, false, false] rfl rfl (one_of HT_.out (by kernel_rfl)) (by decide) (fun K hK => ?_)
   refine goes_ Tryd.func15 (by kernel_rfl) rfl #[.int .i64 (x : Int)] (by rfl) rfl rfl (by simp only [List.map_toArray, List.map_cons, List.map_nil]; rfl) ?_
   refine (HVX.out _).mono ?_
   rintro e W20 ⟨vv, rfl, hr, hb0⟩
   refine ⟨_, rfl, ?_⟩
   have hb := hb0
   replace HB := Lib.hid (below_step HB.out hb)
   replace HXb := Lib.hid (blk_below HXb.out hb)
   replace HXg := Lib.hid (blk_below HXg.out hb)
   replace HXk1 := Lib.hid (blk_below HXk1.out hb)
   replace HXk2 := Lib.hid (blk_below HXk2.out hb)
   replace HXk3 := Lib.hid (blk_below HXk3.out hb)
   replace HVv := Lib.hid (Kd.C_below HVv.out hb)
   replace HVp := Lib.hid (Kd.C_below HVp.out hb)
   clear hb hb0
   obtain ⟨Aq, cq, rfl⟩ := Kd.R_slice hr
   have hcq := (Kd.R_reads' hr).2.1
   have HVq := Lib.hid (Kd.R_reads' hr).2.2
   clear hr
   refine hK.out _ _ ⟨(cell_of_blk HXb.out rfl), (cell_of_blk HXb.out rfl), (cell_of_blk HXb.out rfl)⟩ (fun hHeld => ?_)
   clear hK K
   refine norm_ (a' := ?_) ?_ ?_
   rotate_left
   ·show Act.put _ (some 146) _ = _
    simp only [Act.put, List.setIfInBounds_toArray, List.set_cons_zero, List.set_cons_succ, i64_w, i32_w]
    rfl
   refine one_ (i := 5) (N := some 149) #[true, true, true, true, true, true, false, false, false, false, false] rfl rfl (one_of HT_.out (by kernel_rfl)) (by decide) (fun K hK => ?_)
   refine goes_ Tryd.func14 (by kernel_rfl) rfl #[.agg #[.int .i64 (x : Int), .string sl, .string sg], .slice Aq vx.length cq, .string s, .int .i64 (x : Int), .string ⟨#[97, 110, 110, 97, 47, 110, 111, 116, 101, 115]⟩] (by rfl) rfl rfl (by simp only [List.map_toArray, List.map_cons, List.map_nil]; rfl) ?_
   refine (HC4.out hz hS _ _ _ hcq HVq.out).mono ?_
   rintro e W21 ⟨rfl, hb0⟩
   refine ⟨_, rfl, ?_⟩
   have hb := hb0
   replace HB := Lib.hid (below_step HB.out hb)
   replace HXb := Lib.hid (blk_below HXb.out hb)
   replace HXg := Lib.hid (blk_below HXg.out hb)
   replace HXk1 := Lib.hid (blk_below HXk1.out hb)
   replace HXk2 := Lib.hid (blk_below HXk2.out hb)
   replace HXk3 := Lib.hid (blk_below HXk3.out hb)
   replace HVv := Lib.hid (Kd.C_below HVv.out hb)
   replace HVp := Lib.hid (Kd.C_below HVp.out hb)
   replace HVq := Lib.hid (Kd.C_below HVq.out hb)
   clear hb hb0
   refine hK.out _ _ ⟨(cell_of_blk HXb.out rfl), (cell_of_blk HXb.out rfl), (cell_of_blk HXb.out rfl)⟩ (fun hHeld => ?_)
   clear hK K
   refine norm_ (a' := ?_) ?_ ?_
   rotate_left
   ·show Act.put _ (some 149) _ = _
    simp only [Act.put, List.setIfInBounds_toArray, List.set_cons_zero, List.set_cons_succ, i64_w, i32_w]
    rfl
   refine pure_ (i := 6) (N := some 143) (v := ?_) (a' := ?_) #[true, true, true, true, true, true, true, false, false, false, false] rfl rfl (any_of HT_.out (by kernel_rfl)) (fun _ _ _ h => h) (Or.inl ⟨by rfl, ?_⟩) ?_ ?_
   rotate_left
   ·intro w'
    go_simp
    with_reducible rfl
   rotate_left
   ·simp only [Act.put, List.setIfInBounds_toArray, List.set_cons_zero, List.set_cons_succ, i64_w, i32_w]
    rfl
   refine pure_ (i := 7) (N := some 150) (v := ?_) (a' := ?_) #[true, true, true, true, true, true, true, true, false, false, false] rfl rfl (any_of HT_.out (by kernel_rfl)) (fun _ _ _ h => h) (Or.inl ⟨by rfl, ?_⟩) ?_ ?_
   rotate_left
   ·intro w'
    go_simp
    with_reducible rfl
   rotate_left
   ·simp only [Act.put, List.setIfInBounds_toArray, List.set_cons_zero, List.set_cons_succ, i64_w, i32_w]
    rfl
   refine pure_ (i := 8) (N := some 151) (v := ?_) (a' := ?_) #[true, true, true, true, true, true, true, true, true, false, false] rfl rfl (any_of HT_.out (by kernel_rfl)) (fun _ _ _ h => h) (Or.inl ⟨by rfl, ?_⟩) ?_ ?_
   rotate_left
   ·intro w'
    go_simp
    with_reducible rfl
   rotate_left
   ·simp only [Act.put, List.setIfInBounds_toArray, List.set_cons_zero, List.set_cons_succ, i64_w, i32_w]
    rfl
   refine pure_ (i := 9) (N := some 30) (v := ?_) (a' := ?_) #[true, true, true, true, true, true, true, true, true, true, false] rfl rfl (any_of HT_.out (by kernel_rfl)) (fun _ _ _ h => h) (Or.inl ⟨by rfl, ?_⟩) ?_ ?_
   rotate_left
   ·intro w'
    go_simp
    with_reducible rfl
   rotate_left
   ·simp only [Act.put, List.setIfInBounds_toArray, List.set_cons_zero, List.set_cons_succ, i64_w, i32_w]
    rfl
   refine pure_ (i := 10) (N := some 31) (v := ?_) (a' := ?_) #[true, true, true, true, true, true, true, true, true, true, true] rfl rfl (any_of HT_.out (by kernel_rfl)) (fun _ _ _ h => h) (Or.inl ⟨by rfl, ?_⟩) ?_ ?_
   rotate_left
   ·intro w'
    go_simp
    with_reducible rfl
   rotate_left
   ·simp only [Act.put, List.setIfInBounds_toArray, List.set_cons_zero, List.set_cons_succ, i64_w, i32_w]
    rfl
   refine done_ (done_of HT_.out (by kernel_rfl)) ?_
   clear HT_
   go_wp2
   go_ret
   exact ⟨rfl, HB.out⟩
 have g1 : (R2.2 == 1) = false := by rw [HC.out.2.1, if_pos qe]; rfl
 have d1 : decide (epoch < 0) = false := decide_eq_false (by omega)
 have d2 : decide (7 < epoch) = false := decide_eq_false (by omega)
 obtain ⟨B2, hB2⟩ : ∃ B2, decide (epoch ≠ (x : Int)) = B2 := ⟨_, rfl⟩
 have g3 : (R3.2 == 1) = B2 := by
  rw [HC.out.2.2, ← hB2]
  by_cases h : epoch = (x : Int)
  ·rw [if_pos h, decide_eq_false (fun hh => hh h)]; rfl
  ·rw [if_neg h, decide_eq_true h]; rfl
 have g4 : (epoch != (x : Int)) = B2 := by
  rw [← hB2]
  by_cases h : epoch = (x : Int)
  ·rw [decide_eq_false (fun hh => hh h), h]; simp
  ·rw [decide_eq_true h, bne_iff_ne]; exact h
 have g5 : (B2 != B2) = false := by cases B2 <;> rfl
 clear hB2 qe
 by_cases hS : kindF s = 0
 rotate_left
 ·skip
  have t5 : (kindF s != 0) = true := by rw [bne_iff_ne]; exact hS
  go_wp2_with fail
  refine (HK.out hz _).mono ?_
  rintro e W14 ⟨rfl, hb0⟩
  have hb := hb0
  replace HB := Lib.hid (below_step HB.out hb)
  replace HXb := Lib.hid (blk_below HXb.out hb)
  replace HXg := Lib.hid (blk_below HXg.out hb)
  replace HVv := Lib.hid (Kd.C_below HVv.out hb)
  replace HVp := Lib.hid (Kd.C_below HVp.out hb)
  clear hb hb0
  go_wp2
  go_ret
  exact ⟨rfl, HB.out⟩
 have t5 : (kindF s != 0) = false := by rw [hS]; rfl
 go_wp2_with fail
 refine (HK.out hz _).mono ?_
 rintro e W14 ⟨rfl, hb0⟩
 have hb := hb0
 replace HB := Lib.hid (below_step HB.out hb)
 replace HXb := Lib.hid (blk_below HXb.out hb)
 replace HXg := Lib.hid (blk_below HXg.out hb)
 replace HVv := Lib.hid (Kd.C_below HVv.out hb)
 replace HVp := Lib.hid (Kd.C_below HVp.out hb)
 clear hb hb0
 go_wp2_with fail
 refine (HSG.out _).mono ?_
 rintro e W15 ⟨rfl, hb0⟩
 have hb := hb0
 replace HB := Lib.hid (below_step HB.out hb)
 replace HXb := Lib.hid (blk_below HXb.out hb)
 replace HXg := Lib.hid (blk_below HXg.out hb)
 replace HVv := Lib.hid (Kd.C_below HVv.out hb)
 replace HVp := Lib.hid (Kd.C_below HVp.out hb)
 clear hb hb0
 go_wp2_with fail
 refine (HC1.out hz hS _ HB.out).mono ?_
 rintro e W16 ⟨rfl, hb0⟩
 have hb := hb0
 replace HB := Lib.hid (below_step HB.out hb)
 replace HXb := Lib.hid (blk_below HXb.out hb)
 replace HXg := Lib.hid (blk_below HXg.out hb)
 replace HVv := Lib.hid (Kd.C_below HVv.out hb)
 replace HVp := Lib.hid (Kd.C_below HVp.out hb)
 clear hb hb0
 go_wp2_with fail
 refine (HC2.out hz hS _ (below_alloc HB.out _)).mono ?_
 rintro e W17 ⟨rfl, hb0⟩
 have hb := below_step (below_alloc (Below.refl _ _) _) hb0
 replace HB := Lib.hid (below_step HB.out hb)
 replace HXb := Lib.hid (blk_below HXb.out hb)
 replace HXg := Lib.hid (blk_below HXg.out hb)
 replace HVv := Lib.hid (Kd.C_below HVv.out hb)
 replace HVp := Lib.hid (Kd.C_below HVp.out hb)
 have HXk1 := Lib.hid (blk_below (blk_new W16 (.cells #[.int .i64 0, .string ⟨#[]⟩, .string ⟨#[]⟩] 29)) hb0)
 clear hb hb0
 go_wp2_with fail
 refine (HSG.out _).mono ?_
 rintro e W18 ⟨rfl, hb0⟩
 have hb := below_step (below_alloc (Below.refl _ _) _) hb0
 replace HB := Lib.hid (below_step HB.out hb)
 replace HXb := Lib.hid (blk_below HXb.out hb)
 replace HXg := Lib.hid (blk_below HXg.out hb)
 replace HXk1 := Lib.hid (blk_below HXk1.out hb)
 replace HVv := Lib.hid (Kd.C_below HVv.out hb)
 replace HVp := Lib.hid (Kd.C_below HVp.out hb)
 have HXk2 := Lib.hid (blk_below (blk_new W17 (.cells #[.int .i64 0, .string ⟨#[]⟩, .string ⟨#[]⟩] 29)) hb0)
 clear hb hb0
 go_wp2_with fail
 refine (HC3.out _ HB.out).mono ?_
 rintro e W19 ⟨rfl, hb0⟩
 have hb := hb0
 replace HB := Lib.hid (below_step HB.out hb)
 replace HXb := Lib.hid (blk_below HXb.out hb)
 replace HXg := Lib.hid (blk_below HXg.out hb)
 replace HXk1 := Lib.hid (blk_below HXk1.out hb)
 replace HXk2 := Lib.hid (blk_below HXk2.out hb)
 replace HVv := Lib.hid (Kd.C_below HVv.out hb)
 replace HVp := Lib.hid (Kd.C_below HVp.out hb)
 clear hb hb0
 go_wp2_with fail
 have hb0 : Below (W19.alloc (.cells #[.int .i64 0, .string ⟨#[]⟩, .string ⟨#[]⟩] 29)).heap.size (W19.alloc (.cells #[.int .i64 0, .string ⟨#[]⟩, .string ⟨#[]⟩] 29)) (W19.alloc (.cells #[.int .i64 0, .string ⟨#[]⟩, .string ⟨#[]⟩] 29)).drew := below_drew (Below.refl _ _)
 have hb := below_step (below_alloc (Below.refl _ _) _) hb0
 replace HB := Lib.hid (below_step HB.out hb)
 replace HXb := Lib.hid (blk_below HXb.out hb)
 replace HXg := Lib.hid (blk_below HXg.out hb)
 replace HXk1 := Lib.hid (blk_below HXk1.out hb)
 replace HXk2 := Lib.hid (blk_below HXk2.out hb)
 replace HVv := Lib.hid (Kd.C_below HVv.out hb)
 replace HVp := Lib.hid (Kd.C_below HVp.out hb)
 have HXk3 := Lib.hid (blk_below (blk_new W19 (.cells #[.int .i64 0, .string ⟨#[]⟩, .string ⟨#[]⟩] 29)) hb0)
 clear hb hb0
 refine start_ (n := 11) (S := fun w' => w'.cell? ⟨W6.heap.size, 0, none⟩ = some (.int .i64 (x : Int)) ∧ w'.cell? ⟨W6.heap.size, 1, none⟩ = some (.string sl) ∧ w'.cell? ⟨W6.heap.size, 2, none⟩ = some (.string sg)) (ds := []) #[false, false, false, false, false, false, false, false, false, false, false] (by kernel_rfl) rfl rfl ⟨(cell_of_blk HXb.out rfl), (cell_of_blk HXb.out rfl), (cell_of_blk HXb.out rfl)⟩ (fun hHeld => ?_)
 refine with_tabW ag9.tab18 ag9.bits18 (fun HT_ HW_ => ?_)
 refine pure_ (i := 1) (N := some 145) (v := ?_) (a' := ?_) #[false, true, false, false, false, false, false, false, false, false, false] rfl rfl (any_of HT_.out (by kernel_rfl)) (fun _ _ _ h => h) (Or.inl ⟨by rfl, ?_⟩) ?_ ?_
 rotate_left
 ·intro w'
  go_simp
  with_reducible rfl
 rotate_left
 ·simp only [Act.put, List.setIfInBounds_toArray, List.set_cons_zero, List.set_cons_succ, i64_w, i32_w]
  rfl
 refine pure_ (i := 3) (N := some 147) (v := ?_) (a' := ?_) #[false, true, false, true, false, false, false, false, false, false, false] rfl rfl (any_of HT_.out (by kernel_rfl)) (fun _ _ _ h => h) (Or.inl ⟨by rfl, ?_⟩) ?_ ?_
 rotate_left
 ·intro w'
  go_simp
  with_reducible rfl
 rotate_left
 ·simp only [Act.put, List.setIfInBounds_toArray, List.set_cons_zero, List.set_cons_succ, i64_w, i32_w]
  rfl
 refine pure_ (i := 4) (N := some 148) (v := ?_) (a' := ?_) #[false, true, false, true, true, false, false, false, false, false, false] rfl rfl (any_of HT_.out (by kernel_rfl)) (fun _ _ _ h => h) (Or.inl ⟨by rfl, ?_⟩) ?_ ?_
 rotate_left
 ·intro w'
  go_simp
  with_reducible rfl
 rotate_left
 ·simp only [Act.put, List.setIfInBounds_toArray, List.set_cons_zero, List.set_cons_succ, i64_w, i32_w]
  rfl
 refine take_ (i := 0) (N := some 144) (v := ?_) (a' := ?_) #[true, true, false, true, true, false, false, false, false, false, false] rfl rfl (take_ofW HT_.out HW_.out (by kernel_rfl)) (fun _ _ _ h => h) (Or.inl ⟨by rfl, ?_⟩) hHeld ?_ ?_
 rotate_left
 ·rintro w' ⟨s0, s1, s2⟩
  go_simp
  with_reducible rfl
 rotate_left
 ·simp only [Act.put, List.setIfInBounds_toArray, List.set_cons_zero, List.set_cons_succ, i64_w, i32_w]
  rfl
 refine one_ (i := 2) (N := some 146) #[true, true, true, true, true, false, false, false, false, false, false] rfl rfl (one_of HT_.out (by kernel_rfl)) (by decide) (fun K hK => ?_)
 refine goes_ Tryd.func15 (by kernel_rfl) rfl #[.int .i64 (x : Int)] (by rfl) rfl rfl (by simp only [List.map_toArray, List.map_cons, List.map_nil]; rfl) ?_
 refine (HVX.out _).mono ?_
 rintro e W20 ⟨vv, rfl, hr, hb0⟩
 refine ⟨_, rfl, ?_⟩
 have hb := hb0
 replace HB := Lib.hid (below_step HB.out hb)
 replace HXb := Lib.hid (blk_below HXb.out hb)
 replace HXg := Lib.hid (blk_below HXg.out hb)
 replace HXk1 := Lib.hid (blk_below HXk1.out hb)
 replace HXk2 := Lib.hid (blk_below HXk2.out hb)
 replace HXk3 := Lib.hid (blk_below HXk3.out hb)
 replace HVv := Lib.hid (Kd.C_below HVv.out hb)
 replace HVp := Lib.hid (Kd.C_below HVp.out hb)
 clear hb hb0
 obtain ⟨Aq, cq, rfl⟩ := Kd.R_slice hr
 have hcq := (Kd.R_reads' hr).2.1
 have HVq := Lib.hid (Kd.R_reads' hr).2.2
 clear hr
 refine hK.out _ _ ⟨(cell_of_blk HXb.out rfl), (cell_of_blk HXb.out rfl), (cell_of_blk HXb.out rfl)⟩ (fun hHeld => ?_)
 clear hK K
 refine norm_ (a' := ?_) ?_ ?_
 rotate_left
 ·show Act.put _ (some 146) _ = _
  simp only [Act.put, List.setIfInBounds_toArray, List.set_cons_zero, List.set_cons_succ, i64_w, i32_w]
  rfl
 refine one_ (i := 5) (N := some 149) #[true, true, true, true, true, true, false, false, false, false, false] rfl rfl (one_of HT_.out (by kernel_rfl)) (by decide) (fun K hK => ?_)
 refine goes_ Tryd.func14 (by kernel_rfl) rfl #[.agg #[.int .i64 (x : Int), .string sl, .string sg], .slice Aq vx.length cq, .string s, .int .i64 (x : Int), .string ⟨#[97, 110, 110, 97, 47, 110, 111, 116, 101, 115]⟩] (by rfl) rfl rfl (by simp only [List.map_toArray, List.map_cons, List.map_nil]; rfl) ?_
 refine (HC4.out hz hS _ _ _ hcq HVq.out).mono ?_
 rintro e W21 ⟨rfl, hb0⟩
 refine ⟨_, rfl, ?_⟩
 have hb := hb0
 replace HB := Lib.hid (below_step HB.out hb)
 replace HXb := Lib.hid (blk_below HXb.out hb)
 replace HXg := Lib.hid (blk_below HXg.out hb)
 replace HXk1 := Lib.hid (blk_below HXk1.out hb)
 replace HXk2 := Lib.hid (blk_below HXk2.out hb)
 replace HXk3 := Lib.hid (blk_below HXk3.out hb)
 replace HVv := Lib.hid (Kd.C_below HVv.out hb)
 replace HVp := Lib.hid (Kd.C_below HVp.out hb)
 replace HVq := Lib.hid (Kd.C_below HVq.out hb)
 clear hb hb0
 refine hK.out _ _ ⟨(cell_of_blk HXb.out rfl), (cell_of_blk HXb.out rfl), (cell_of_blk HXb.out rfl)⟩ (fun hHeld => ?_)
 clear hK K
 refine norm_ (a' := ?_) ?_ ?_
 rotate_left
 ·show Act.put _ (some 149) _ = _
  simp only [Act.put, List.setIfInBounds_toArray, List.set_cons_zero, List.set_cons_succ, i64_w, i32_w]
  rfl
 refine pure_ (i := 6) (N := some 143) (v := ?_) (a' := ?_) #[true, true, true, true, true, true, true, false, false, false, false] rfl rfl (any_of HT_.out (by kernel_rfl)) (fun _ _ _ h => h) (Or.inl ⟨by rfl, ?_⟩) ?_ ?_
 rotate_left
 ·intro w'
  go_simp
  with_reducible rfl
 rotate_left
 ·simp only [Act.put, List.setIfInBounds_toArray, List.set_cons_zero, List.set_cons_succ, i64_w, i32_w]
  rfl
 refine pure_ (i := 7) (N := some 150) (v := ?_) (a' := ?_) #[true, true, true, true, true, true, true, true, false, false, false] rfl rfl (any_of HT_.out (by kernel_rfl)) (fun _ _ _ h => h) (Or.inl ⟨by rfl, ?_⟩) ?_ ?_
 rotate_left
 ·intro w'
  go_simp
  with_reducible rfl
 rotate_left
 ·simp only [Act.put, List.setIfInBounds_toArray, List.set_cons_zero, List.set_cons_succ, i64_w, i32_w]
  rfl
 refine pure_ (i := 8) (N := some 151) (v := ?_) (a' := ?_) #[true, true, true, true, true, true, true, true, true, false, false] rfl rfl (any_of HT_.out (by kernel_rfl)) (fun _ _ _ h => h) (Or.inl ⟨by rfl, ?_⟩) ?_ ?_
 rotate_left
 ·intro w'
  go_simp
  with_reducible rfl
 rotate_left
 ·simp only [Act.put, List.setIfInBounds_toArray, List.set_cons_zero, List.set_cons_succ, i64_w, i32_w]
  rfl
 refine pure_ (i := 9) (N := some 30) (v := ?_) (a' := ?_) #[true, true, true, true, true, true, true, true, true, true, false] rfl rfl (any_of HT_.out (by kernel_rfl)) (fun _ _ _ h => h) (Or.inl ⟨by rfl, ?_⟩) ?_ ?_
 rotate_left
 ·intro w'
  go_simp
  with_reducible rfl
 rotate_left
 ·simp only [Act.put, List.setIfInBounds_toArray, List.set_cons_zero, List.set_cons_succ, i64_w, i32_w]
  rfl
 refine pure_ (i := 10) (N := some 31) (v := ?_) (a' := ?_) #[true, true, true, true, true, true, true, true, true, true, true] rfl rfl (any_of HT_.out (by kernel_rfl)) (fun _ _ _ h => h) (Or.inl ⟨by rfl, ?_⟩) ?_ ?_
 rotate_left
 ·intro w'
  go_simp
  with_reducible rfl
 rotate_left
 ·simp only [Act.put, List.setIfInBounds_toArray, List.set_cons_zero, List.set_cons_succ, i64_w, i32_w]
  rfl
 refine done_ (done_of HT_.out (by kernel_rfl)) ?_
 clear HT_
 go_wp2
 go_ret
 exact ⟨rfl, HB.out⟩
end Go.Proofs.YtphehoidkmficaaDoor
end
