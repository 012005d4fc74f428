/- Contracts and laws that the statement of LawDataTells,LawWriterTells leans on (packed from this claim's own texts): part 18. -/
import Derived.Test.YtphehoidkmficaaGreatDoorQT6
import Derived.Test.YtphehoidkmficaaGreatDoorQT7
import Derived.Test.YtphehoidkmficaaGreatDoorQT16
import Derived.Test.YtphehoidkmficaaGreatDoorQT17
section

namespace Go.Proofs.YtphehoidkmficaaGreatDoor
open Go.RowKit Go.Proofs.YtphehoidkmficaaGreatDoorW.PrintWords Go.Proofs.YtphehoidkmficaaGreatDoorW.PrintLast Go.Proofs.YtphehoidkmficaaGreatDoorW.PrintMore Go.Proofs.YtphehoidkmficaaGreatDoor.Ref Go.Proofs.YtphehoidkmficaaGreatDoor.PA Go.Proofs.YtphehoidkmficaaGreatDoor.PB
set_option linter.unusedVariables false
set_option linter.unusedSimpArgs false
attribute [local go_sem] max2_int min2_int max_two min_two
theorem row_of_blk {w : World} {g : Nat} {l : List ByteArray} {t : TypeId} (hl : l.length ≤ 1000000) (h : w.heap[g]? = some (.cells (l.map Value.string).toArray t (0, 0))) : Kd.C Kd.string w (some ⟨g, 0, none⟩) l.length l := by
 refine ⟨rfl, by omega, fun _ => ⟨_, rfl, fun j p hj => ⟨[.string p], rfl, rfl, fun i u hi => ?_⟩⟩⟩
 have hi0 : i = 0 ∧ u = .string p := by
  cases i with
  | zero => simpa using hi.symm
  | succ i => simp at hi
 obtain ⟨rfl, rfl⟩ := hi0
 have e : Addr.add ⟨g, 0, none⟩ (j * Kd.string.sz + 0) = ⟨g, j, none⟩ := by simp [Addr.add, Kd.string, Kd.scalar]; exact fun h => h.symm
 rw [e]
 exact cell_of_blk h (by simp [hj])
theorem num_call {n : Nat} (h : n < 18446744073709551616) (W : World) : Calls Tryz.prog 37 #[.int .u64 n] W fun e w' => e = .returned (.string (numB n)) ∧ Below W.heap.size W w' := by
 obtain ⟨k, hk⟩ := ev_some (wirePut_ev n h)
 exact wire_Put.calls k n _ W hk
theorem all_val {l : List ByteArray} (hl : l.length ≤ 1000) (hs : ∀ s ∈ l, s.size ≤ 100000000000) : ∃ k, wire_PutAll.f k l = some (allB l) := ev_some (putAll_ev l hl hs)
theorem takeNum_call (s : ByteArray) (hs : s.size ≤ 1000000) (W : World) : Calls Tryz.prog 41 #[.string s] W fun e w' => e = .returned (.tuple #[.int .u64 (takeF s).1, .string (takeF s).2.1, .int .i64 (takeF s).2.2]) ∧ Below W.heap.size W w' :=
 wire_Take.calls s _ _ _ W (by unfold wire_Take.f; rw [if_pos (by omega)])
theorem takeAll_call (s : ByteArray) (hs : s.size ≤ 1000000) (W : World) : Calls Tryz.prog 40 #[.string s, .int .i64 3, .int .i64 4000] W fun e w' => ∃ v0 : Value, e = .returned (.tuple #[v0, .int .i64 (takeAllF 3 4000 s).2]) ∧ Kd.R Kd.string 9 w' W.heap.size (fun _ => True) v0 (takeAllF 3 4000 s).1 ∧ Below W.heap.size W w' := by
 obtain ⟨k, hk⟩ := ev_some (takeAll_ev 3 4000 s (by omega) (by omega) hs)
 exact wire_TakeAll.calls k s 3 4000 _ _ W hk
def dp3.T3 : Bool × List (List Nat × List Nat) := (true, [([], []), ([0], [0]), ([1], [1]), ([2], [2]), ([], []), ([4], [4]), ([], []), ([6], [6]), ([3, 5, 7], [3, 5, 7]), ([8, 3], [8]), ([9, 9, 0, 1, 2, 3, 4, 5, 6, 7, 8, 9], [9]), ([10, 0, 1, 2, 3, 4, 5, 6, 7, 8, 9, 10], [])])
def dp3.B3 : List Nat := [0, 1, 3, 7, 0, 16, 0, 64, 255, 511, 1023, 2047]
theorem dp3.tab3 : rtab .any (opsOf Tryz.f11 3) = dp3.T3 := by kernel_rfl
theorem dp3.bits3 : waitsOk dp3.T3.2 dp3.B3 = true := by kernel_rfl
def dt5.T5 : Bool × List (List Nat × List Nat) := (true, [([], []), ([0], [0]), ([1], [1]), ([], []), ([3], [3]), ([4], [4]), ([], []), ([6], [6]), ([7], [7]), ([2, 5, 8], [2, 5, 8]), ([], []), ([10, 9, 0, 1, 2, 3, 4, 5, 6, 7, 8, 9, 10], [9, 10])])
def dt5.B5 : List Nat := [0, 1, 3, 0, 8, 24, 0, 64, 192, 511, 0, 2047]
theorem dt5.tab5 : rtab .any (opsOf Tryz.f13 5) = dt5.T5 := by kernel_rfl
theorem dt5.bits5 : waitsOk dt5.T5.2 dt5.B5 = true := by kernel_rfl
set_option maxRecDepth 100000 in
set_option maxHeartbeats 2000000 in
theorem putBl_call (b : Bl) (hs : b.s.size ≤ 1000000) (hg : b.g.size ≤ 1000000) (w : World) :
  Calls Tryz.prog 11 #[.agg #[.int .i64 b.e, .string b.s, .string b.g]] w fun e w' => e = .returned (.tuple #[.string (putBl b).1, .int .i64 (putBl b).2]) ∧ Below w.heap.size w w' := by
 have HRT := Lib.hid (rightBl_call b hs hg)
 obtain ⟨R, hR⟩ : ∃ R, putBl b = R := ⟨_, rfl⟩
 have HV : Hid (R = putBl b) := Lib.hid hR.symm
 rw [hR]
 clear hR
 go_enter Tryz.func11, Tryz.ntmps11
 go_wp2_with fail
 refine (HRT.out _).mono ?_
 rintro e w1 ⟨rfl, hb⟩
 have HN : Hid (w1.heap[w.heap.size]? = some (.cells #[.int .i64 b.e, .string b.s, .string b.g] 23 (0, 0))) := Lib.hid (blk_below (blk_new _ _) hb)
 have HB : Hid (Below w.heap.size w w1) := Lib.hid (below_step (w := w) (by repeat' (first | exact Below.refl _ _ | apply below_alloc)) hb)
 clear hb HRT
 by_cases q0 : rightBl b = true
 rotate_left
 ·have q0' : rightBl b = false := by simpa using q0
  rw [q0']
  obtain rfl : R = (⟨#[]⟩, 1) := by rw [HV.out]; unfold putBl; rw [if_neg q0]
  go_wp2
  go_ret2
  exact ⟨rfl, HB.out⟩
 rw [q0]
 obtain ⟨hb1, hb2, hb3⟩ := rightBl_inv q0
 obtain ⟨be, s, g⟩ := b
 simp only at hb1 hb2 hb3 hs hg HN
 obtain ⟨k, rfl⟩ := Int.eq_ofNat_of_zero_le hb1.1
 have hk := u64_small (k := k) (by omega)
 have HPU := Lib.hid (num_call (n := k) (by omega))
 obtain ⟨kk, hq⟩ := all_val (l := [numB k, s, g]) (by simp) (by
  have := size_numB (n := k) (by omega)
  intro x hx
  simp at hx
  rcases hx with rfl | rfl | rfl <;> omega)
 have HPA : Hid (∀ W : World, Calls Tryz.prog 36 #[.slice (some ⟨W.heap.size, 0, none⟩) 3 3] (W.alloc (.cells #[.string (numB k), .string s, .string g] 9)) fun e w' => e = .returned (.string (allB [numB k, s, g])) ∧ Below (W.alloc (.cells #[.string (numB k), .string s, .string g] 9)).heap.size (W.alloc (.cells #[.string (numB k), .string s, .string g] 9)) w') :=
  Lib.hid (fun W => wire_PutAll.calls kk (some ⟨W.heap.size, 0, none⟩) 3 [numB k, s, g] _ _ (row_of_blk (by simp) (blk_new _ _)) (by simp) hq)
 obtain rfl : R = (allB [numB k, s, g], 0) := by rw [HV.out]; unfold putBl; rw [if_pos q0]; rfl
 clear hq hb1 hb2 hb3 q0 HV
 go_wp2_with fail
 have hb : Below w1.heap.size w1 w1.drew := below_drew (Below.refl _ _)
 replace HN := Lib.hid (blk_below HN.out hb)
 replace HB := Lib.hid (below_step HB.out hb)
 clear hb
 refine start_ (n := 12) (S := fun w' => w'.cell? ⟨w.heap.size, 0, none⟩ = some (.int .i64 (k : Int)) ∧ w'.cell? ⟨w.heap.size, 1, none⟩ = some (.string s) ∧ w'.cell? ⟨w.heap.size, 2, none⟩ = some (.string g)) (ds := []) #[false, false, false, false, false, false, false, false, false, false, false, false] (by kernel_rfl) rfl rfl ⟨(cell_of_blk HN.out rfl), (cell_of_blk HN.out rfl), (cell_of_blk HN.out rfl)⟩ (fun hHeld => ?_)
 refine with_tabW dp3.tab3 dp3.bits3 (fun HT_ HW_ => ?_)
 refine pure_ (i := 0) (N := some 7) (v := ?_) (a' := ?_) #[true, false, false, false, false, false, false, false, false, false, false, false] rfl rfl (any_of HT_.out (by kernel_rfl)) (fun _ _ _ h => h) (Or.inl ⟨by rfl, ?_⟩) ?_ ?_
 rotate_left
 ·intro w'
  go_simp
  with_reducible rfl
 rotate_left
 ·simp only [Act.put, List.setIfInBounds_toArray, List.set_cons_zero, List.set_cons_succ, i64_w, i32_w]
  rfl
 refine pure_ (i := 4) (N := some 11) (v := ?_) (a' := ?_) #[true, false, false, false, true, false, false, false, false, false, false, false] rfl rfl (any_of HT_.out (by kernel_rfl)) (fun _ _ _ h => h) (Or.inl ⟨by rfl, ?_⟩) ?_ ?_
 rotate_left
 ·intro w'
  go_simp
  with_reducible rfl
 rotate_left
 ·simp only [Act.put, List.setIfInBounds_toArray, List.set_cons_zero, List.set_cons_succ, i64_w, i32_w]
  rfl
 refine pure_ (i := 6) (N := some 13) (v := ?_) (a' := ?_) #[true, false, false, false, true, false, true, false, false, false, false, false] rfl rfl (any_of HT_.out (by kernel_rfl)) (fun _ _ _ h => h) (Or.inl ⟨by rfl, ?_⟩) ?_ ?_
 rotate_left
 ·intro w'
  go_simp
  with_reducible rfl
 rotate_left
 ·simp only [Act.put, List.setIfInBounds_toArray, List.set_cons_zero, List.set_cons_succ, i64_w, i32_w]
  rfl
 refine take_ (i := 1) (N := some 8) (v := ?_) (a' := ?_) #[true, true, false, false, true, false, true, false, false, false, false, false] rfl rfl (take_ofW HT_.out HW_.out (by kernel_rfl)) (fun _ _ _ h => h) (Or.inl ⟨by rfl, ?_⟩) hHeld ?_ ?_
 rotate_left
 ·rintro w' ⟨s0, s1, s2⟩
  go_simp
  with_reducible rfl
 rotate_left
 ·simp only [Act.put, List.setIfInBounds_toArray, List.set_cons_zero, List.set_cons_succ, i64_w, i32_w]
  rfl
 refine pure_ (i := 2) (N := some 9) (v := ?_) (a' := ?_) #[true, true, true, false, true, false, true, false, false, false, false, false] rfl rfl (any_of HT_.out (by kernel_rfl)) (fun _ _ _ h => h) (Or.inl ⟨by rfl, ?_⟩) ?_ ?_
 rotate_left
 ·intro w'
  go_simp
  with_reducible rfl
 rotate_left
 ·simp only [Act.put, List.setIfInBounds_toArray, List.set_cons_zero, List.set_cons_succ, i64_w, i32_w]
  rfl
 refine take_ (i := 5) (N := some 12) (v := ?_) (a' := ?_) #[true, true, true, false, true, true, true, false, false, false, false, false] rfl rfl (take_ofW HT_.out HW_.out (by kernel_rfl)) (fun _ _ _ h => h) (Or.inl ⟨by rfl, ?_⟩) hHeld ?_ ?_
 rotate_left
 ·rintro w' ⟨s0, s1, s2⟩
  go_simp
  with_reducible rfl
 rotate_left
 ·simp only [Act.put, List.setIfInBounds_toArray, List.set_cons_zero, List.set_cons_succ, i64_w, i32_w]
  rfl
 refine take_ (i := 7) (N := some 14) (v := ?_) (a' := ?_) #[true, true, true, false, true, true, true, true, false, false, false, false] rfl rfl (take_ofW HT_.out HW_.out (by kernel_rfl)) (fun _ _ _ h => h) (Or.inl ⟨by rfl, ?_⟩) hHeld ?_ ?_
 rotate_left
 ·rintro w' ⟨s0, s1, s2⟩
  go_simp
  with_reducible rfl
 rotate_left
 ·simp only [Act.put, List.setIfInBounds_toArray, List.set_cons_zero, List.set_cons_succ, i64_w, i32_w]
  rfl
 refine one_ (i := 3) (N := some 10) #[true, true, true, true, true, true, true, true, false, false, false, false] rfl rfl (one_of HT_.out (by kernel_rfl)) (by decide) (fun K hK => ?_)
 refine goes_ Tryz.func37 (by kernel_rfl) rfl #[.int .u64 (k : Int)] (by rfl) rfl rfl (by simp only [List.map_toArray, List.map_cons, List.map_nil]; rfl) ?_
 with_reducible refine (HPU.out _).mono ?_
 rintro e w2 ⟨rfl, hb⟩
 refine ⟨_, rfl, ?_⟩
 replace HN := Lib.hid (blk_below HN.out hb)
 replace HB := Lib.hid (below_step HB.out hb)
 clear hb
 refine hK.out _ _ ⟨(cell_of_blk HN.out rfl), (cell_of_blk HN.out rfl), (cell_of_blk HN.out rfl)⟩ (fun hHeld => ?_)
 clear hK K
 refine norm_ (a' := ?_) ?_ ?_
 rotate_left
 ·show Act.put _ (some 10) _ = _
  simp only [Act.put, List.setIfInBounds_toArray, List.set_cons_zero, List.set_cons_succ, i64_w, i32_w]
  rfl
 refine one_ (i := 8) (N := some 15) #[true, true, true, true, true, true, true, true, true, false, false, false] rfl rfl (one_of HT_.out (by kernel_rfl)) (by decide) (fun K hK => ?_)
 refine value_ (w1 := ?_) (v := ?_) (by rfl) rfl ?_ ?_
 rotate_left 2
 ·go_simp
  constructor
  ·rfl
  ·rfl
 refine hK.out _ _ ⟨(cell_of_blk (blk_alloc HN.out _) rfl), (cell_of_blk (blk_alloc HN.out _) rfl), (cell_of_blk (blk_alloc HN.out _) rfl)⟩ (fun hHeld => ?_)
 clear hK K
 refine norm_ (a' := ?_) ?_ ?_
 rotate_left
 ·show Act.put _ (some 15) _ = _
  simp only [Act.put, List.setIfInBounds_toArray, List.set_cons_zero, List.set_cons_succ, i64_w, i32_w]
  rfl
 refine one_ (i := 9) (N := some 16) #[true, true, true, true, true, true, true, true, true, true, false, false] rfl rfl (one_of HT_.out (by kernel_rfl)) (by decide) (fun K hK => ?_)
 refine goes_ Tryz.func36 (by kernel_rfl) rfl #[.slice (some ⟨w2.heap.size, 0, none⟩) 3 3] (by rfl) rfl rfl (by simp only [List.map_toArray, List.map_cons, List.map_nil]; rfl) ?_
 with_reducible refine (HPA.out w2).mono ?_
 rintro e w3 ⟨rfl, hb⟩
 refine ⟨_, rfl, ?_⟩
 replace HN := Lib.hid (blk_below (blk_alloc HN.out _) hb)
 replace HB := Lib.hid (below_step (below_alloc HB.out _) hb)
 clear hb
 refine hK.out _ _ ⟨(cell_of_blk HN.out rfl), (cell_of_blk HN.out rfl), (cell_of_blk HN.out rfl)⟩ (fun hHeld => ?_)
 clear hK K
 refine norm_ (a' := ?_) ?_ ?_
 rotate_left
 ·show Act.put _ (some 16) _ = _
  simp only [Act.put, List.setIfInBounds_toArray, List.set_cons_zero, List.set_cons_succ, i64_w, i32_w]
  rfl
 refine pure_ (i := 10) (N := some 2) (v := ?_) (a' := ?_) #[true, true, true, true, true, true, true, true, true, true, true, false] rfl rfl (any_of HT_.out (by kernel_rfl)) (fun _ _ _ h => h) (Or.inl ⟨by rfl, ?_⟩) ?_ ?_
 rotate_left
 ·intro w'
  go_simp
  with_reducible rfl
 rotate_left
 ·simp only [Act.put, List.setIfInBounds_toArray, List.set_cons_zero, List.set_cons_succ, i64_w, i32_w]
  rfl
 refine pure_ (i := 11) (N := some 3) (v := ?_) (a' := ?_) #[true, true, true, true, true, true, true, true, true, true, true, true] rfl rfl (any_of HT_.out (by kernel_rfl)) (fun _ _ _ h => h) (Or.inl ⟨by rfl, ?_⟩) ?_ ?_
 rotate_left
 ·intro w'
  go_simp
  with_reducible rfl
 rotate_left
 ·simp only [Act.put, List.setIfInBounds_toArray, List.set_cons_zero, List.set_cons_succ, i64_w, i32_w]
  rfl
 refine done_ (done_of HT_.out (by kernel_rfl)) ?_
 clear HT_
 go_wp2
 go_ret2
 exact ⟨rfl, HB.out⟩
set_option maxRecDepth 100000 in
set_option maxHeartbeats 4000000 in
theorem takeBl_call (s : ByteArray) (hs : s.size ≤ 1000000) (w : World) :
  Calls Tryz.prog 13 #[.string s] w (BlPost w (takeBl s)) := by
 have HTA := Lib.hid (takeAll_call s hs)
 obtain ⟨R, hR⟩ : ∃ R, takeBl s = R := ⟨_, rfl⟩
 have HV : Hid (R = takeBl s) := Lib.hid hR.symm
 rw [hR]
 clear hR
 have HSZ : Hid ((takeAllF 3 4000 s).2 = 0 → ∀ x ∈ (takeAllF 3 4000 s).1, x.size ≤ 4000) := Lib.hid (fun h => (takeAll_inv (Prod.ext rfl h : takeAllF 3 4000 s = ((takeAllF 3 4000 s).1, 0))).2.2)
 unfold takeBl at HV
 generalize takeAllF 3 4000 s = X at *
 go_enter Tryz.func13, Tryz.ntmps13
 go_wp2_with fail
 refine (HTA.out _).mono ?_
 rintro e w1 ⟨v0, rfl, hl, hb⟩
 obtain ⟨LA, lc, rfl⟩ := Kd.R_slice hl
 have HR : Hid (w1.heap[w.heap.size]? = some (.cells #[.int .i64 0, .string ⟨#[]⟩, .string ⟨#[]⟩] 23 (0, 0))) := Lib.hid (blk_below (blk_new _ _) hb)
 have HB : Hid (Below w.heap.size w w1) := Lib.hid (below_step (w := w) (by repeat' (first | exact Below.refl _ _ | apply below_alloc)) hb)
 clear hb HTA
 have HL := Lib.hid hl
 clear hl
 by_cases q1 : X.2 = 0
 rotate_left
 ·have t1 : (X.2 != 0) = true := by rw [bne_iff_ne]; exact q1
  obtain rfl : R = (noBl, 2) := by rw [HV.out]; rw [if_neg (fun h => q1 h.1)]
  have cR0 := cell_of_blk (j := 0) (v := .int .i64 0) HR.out rfl
  have cR1 := cell_of_blk (j := 1) (v := .string ⟨#[]⟩) HR.out rfl
  have cR2 := cell_of_blk (j := 2) (v := .string ⟨#[]⟩) HR.out rfl
  have zR0 := free_of_blk (j := 0) HR.out
  have zR1 := free_of_blk (j := 1) HR.out
  have zR2 := free_of_blk (j := 2) HR.out
  obtain ⟨hblk, hbe⟩ := put3 HB.out HR.out (by omega) (.int .i64 0) (.string ⟨#[]⟩) (.string ⟨#[]⟩)
  go_wp2
  refine bodyPost_ret (results_ct rfl _ _ w.heap.size 23 _ (0, 0) _ rfl hblk Tryz.underlying23 rfl (by kernel_rfl)) rfl ?_
  exact ⟨rfl, hbe⟩
 have t1 : (X.2 != 0) = false := by rw [q1]; rfl
 by_cases q2 : X.1.length = 3
 rotate_left
 ·have t2 : ((X.1.length : Int) != 3) = true := by rw [bne_iff_ne]; omega
  obtain rfl : R = (noBl, 2) := by rw [HV.out]; rw [if_neg (fun h => q2 h.2)]
  have cR0 := cell_of_blk (j := 0) (v := .int .i64 0) HR.out rfl
  have cR1 := cell_of_blk (j := 1) (v := .string ⟨#[]⟩) HR.out rfl
  have cR2 := cell_of_blk (j := 2) (v := .string ⟨#[]⟩) HR.out rfl
  have zR0 := free_of_blk (j := 0) HR.out
  have zR1 := free_of_blk (j := 1) HR.out
  have zR2 := free_of_blk (j := 2) HR.out
  obtain ⟨hblk, hbe⟩ := put3 HB.out HR.out (by omega) (.int .i64 0) (.string ⟨#[]⟩) (.string ⟨#[]⟩)
  go_wp2
  refine bodyPost_ret (results_ct rfl _ _ w.heap.size 23 _ (0, 0) _ rfl hblk Tryz.underlying23 rfl (by kernel_rfl)) rfl ?_
  exact ⟨rfl, hbe⟩
 obtain ⟨x, y, z, hxyz⟩ := three_of q2
 have hsz := HSZ.out q1
 rw [hxyz] at HL hsz
 have hv := HV.out
 rw [if_pos ⟨q1, q2⟩, hxyz] at hv
 simp only [List.getD_cons_zero, List.getD_cons_succ] at hv
 clear HV HSZ
 have HV := Lib.hid hv
 rw [hxyz]
 clear q2 hv hxyz
 have hx4 := hsz x (by simp)
 have hy4 := hsz y (by simp)
 have hz4 := hsz z (by simp)
 have hc3 := (Kd.R_reads' HL.out).2.2
 obtain ⟨ga, rfl⟩ : ∃ ga, LA = some ⟨ga, 0, none⟩ := by
  obtain ⟨_, xs, ho, _⟩ := HL.out
  obtain ⟨g, c, e, _⟩ := ho.form (by simp)
  exact ⟨g, by simpa using (Value.slice.inj e).1⟩
 have hcap3 := (Kd.R_reads' HL.out).2.1
 have hx0 : w1.cell? ⟨ga, 0, none⟩ = some (.string x) := by
  obtain ⟨ad, e, h0⟩ := readsC hc3 (k := 0) (by simp)
  obtain rfl := Option.some.inj e
  simpa [Addr.add] using h0
 have hx1 : w1.cell? ⟨ga, 1, none⟩ = some (.string y) := by
  obtain ⟨ad, e, h0⟩ := readsC hc3 (k := 1) (by simp)
  obtain rfl := Option.some.inj e
  simpa [Addr.add] using h0
 have hx2 : w1.cell? ⟨ga, 2, none⟩ = some (.string z) := by
  obtain ⟨ad, e, h0⟩ := readsC hc3 (k := 2) (by simp)
  obtain rfl := Option.some.inj e
  simpa [Addr.add] using h0
 have HX1 := Lib.hid hx1
 have HX2 := Lib.hid hx2
 have HTN := Lib.hid (takeNum_call x (by omega))
 clear hc3 hx1 hx2 HL
 simp only [List.length_cons, List.length_nil] at hcap3 ⊢
 go_wp2_with fail
 refine (HTN.out _).mono ?_
 rintro e w2 ⟨rfl, hb⟩
 replace HX1 := Lib.hid (pw_cell_below hb HX1.out)
 replace HX2 := Lib.hid (pw_cell_below hb HX2.out)
 replace HR := Lib.hid (blk_below HR.out hb)
 replace HB := Lib.hid (below_step HB.out hb)
 clear hb
 clear hx0 HTN
 have hn0 := (takeF_size x).2
 generalize takeF x = n at *
 obtain ⟨m, hm⟩ : ∃ m : Int, (if (8 : Int) < n.1 then 8 else n.1) = m := ⟨_, rfl⟩
 have hm8 : 0 ≤ m ∧ m ≤ 8 ∧ (m ≤ 7 ↔ n.1 ≤ 7) ∧ (n.1 ≤ 7 → m = n.1) := by
  rw [← hm]
  split <;> omega
 have hmw : IntKind.i64.wrap m = m := by
  rw [i64_w]
  exact w64 (by omega) (by omega)
 have HRT := Lib.hid (rightBl_call ⟨m, y, z⟩ (by show y.size ≤ _; omega) (by show z.size ≤ _; omega))
 go_wp2_with fail
 have HB0 := Lib.hid HB.out
 have HR0 := Lib.hid HR.out
 have hb : Below w2.heap.size w2 w2.drew := below_drew (Below.refl _ _)
 replace HX1 := Lib.hid (pw_cell_below hb HX1.out)
 replace HX2 := Lib.hid (pw_cell_below hb HX2.out)
 replace HR := Lib.hid (blk_below HR.out hb)
 replace HB := Lib.hid (below_step HB.out hb)
 clear hb
 refine start_ (n := 12) (S := fun w' => w'.cell? ⟨ga, 1, none⟩ = some (.string y) ∧ w'.cell? ⟨ga, 2, none⟩ = some (.string z)) (ds := [11]) #[false, false, false, false, false, false, false, false, false, false, false, false] (by kernel_rfl) rfl rfl ⟨HX1.out, HX2.out⟩ (fun hHeld => ?_)
 refine with_tabW dt5.tab5 dt5.bits5 (fun HT_ HW_ => ?_)
 refine pure_ (i := 0) (N := some 30) (v := ?_) (a' := ?_) #[true, false, false, false, false, false, false, false, false, false, false, false] rfl rfl (any_of HT_.out (by kernel_rfl)) (fun _ _ _ h => h) (Or.inl ⟨by rfl, ?_⟩) ?_ ?_
 rotate_left
 ·intro w'
  go_simp
  with_reducible rfl
 rotate_left
 ·simp only [Act.put, List.setIfInBounds_toArray, List.set_cons_zero, List.set_cons_succ, i64_w, i32_w]
  rfl
 refine pure_ (i := 1) (N := some 31) (v := ?_) (a' := ?_) #[true, true, false, false, false, false, false, false, false, false, false, false] rfl rfl (any_of HT_.out (by kernel_rfl)) (fun _ _ _ h => h) (Or.inl ⟨by rfl, ?_⟩) ?_ ?_
 rotate_left
 ·intro w'
  go_simp
  with_reducible rfl
 rotate_left
 ·simp only [Act.put, List.setIfInBounds_toArray, List.set_cons_zero, List.set_cons_succ, i64_w, i32_w]
  rfl
 refine pure_ (i := 2) (N := some 32) (v := ?_) (a' := ?_) #[true, true, true, false, false, false, false, false, false, false, false, false] rfl rfl (any_of HT_.out (by kernel_rfl)) (fun _ _ _ h => h) (Or.inl ⟨by rfl, ?_⟩) ?_ ?_
 rotate_left
 ·intro w'
  go_simp
  with_reducible rfl
 rotate_left
 ·simp only [Act.put, List.setIfInBounds_toArray, List.set_cons_zero, List.set_cons_succ, i64_w, i32_w]
  rfl
 refine pure_ (i := 3) (N := some 33) (v := ?_) (a' := ?_) #[true, true, true, true, false, false, false, false, false, false, false, false] rfl rfl (any_of HT_.out (by kernel_rfl)) (fun _ _ _ h => h) (Or.inl ⟨by rfl, ?_⟩) ?_ ?_
 rotate_left
 ·intro w'
  go_simp
  with_reducible rfl
 rotate_left
 ·simp only [Act.put, List.setIfInBounds_toArray, List.set_cons_zero, List.set_cons_succ, i64_w, i32_w]
  rfl
 refine pure_ (i := 4) (N := some 34) (v := ?_) (a' := ?_) #[true, true, true, true, true, false, false, false, false, false, false, false] rfl rfl (any_of HT_.out (by kernel_rfl)) (fun _ _ _ h => h) (Or.inl ⟨by rfl, ?_⟩) ?_ ?_
 rotate_left
 ·intro w'
  go_simp
  with_reducible rfl
 rotate_left
 ·simp only [Act.put, List.setIfInBounds_toArray, List.set_cons_zero, List.set_cons_succ, i64_w, i32_w]
  rfl
 refine pure_ (i := 6) (N := some 36) (v := ?_) (a' := ?_) #[true, true, true, true, true, false, true, false, false, false, false, false] rfl rfl (any_of HT_.out (by kernel_rfl)) (fun _ _ _ h => h) (Or.inl ⟨by rfl, ?_⟩) ?_ ?_
 rotate_left
 ·intro w'
  go_simp
  with_reducible rfl
 rotate_left
 ·simp only [Act.put, List.setIfInBounds_toArray, List.set_cons_zero, List.set_cons_succ, i64_w, i32_w]
  rfl
 refine pure_ (i := 7) (N := some 37) (v := ?_) (a' := ?_) #[true, true, true, true, true, false, true, true, false, false, false, false] rfl rfl (any_of HT_.out (by kernel_rfl)) (fun _ _ _ h => h) (Or.inl ⟨by rfl, ?_⟩) ?_ ?_
 rotate_left
 ·intro w'
  go_simp
  with_reducible rfl
 rotate_left
 ·simp only [Act.put, List.setIfInBounds_toArray, List.set_cons_zero, List.set_cons_succ, i64_w, i32_w]
  rfl
 refine take_ (i := 5) (N := some 35) (v := ?_) (a' := ?_) #[true, true, true, true, true, true, true, true, false, false, false, false] rfl rfl (take_ofW HT_.out HW_.out (by kernel_rfl)) (fun _ _ _ h => h) (Or.inl ⟨by rfl, ?_⟩) hHeld ?_ ?_
 rotate_left
 ·rintro w' ⟨s0, s1⟩
  go_simp
  with_reducible rfl
 rotate_left
 ·simp only [Act.put, List.setIfInBounds_toArray, List.set_cons_zero, List.set_cons_succ, i64_w, i32_w]
  rfl
 refine take_ (i := 8) (N := some 38) (v := ?_) (a' := ?_) #[true, true, true, true, true, true, true, true, true, false, false, false] rfl rfl (take_ofW HT_.out HW_.out (by kernel_rfl)) (fun _ _ _ h => h) (Or.inl ⟨by rfl, ?_⟩) hHeld ?_ ?_
 rotate_left
 ·rintro w' ⟨s0, s1⟩
  go_simp
  with_reducible rfl
 rotate_left
 ·simp only [Act.put, List.setIfInBounds_toArray, List.set_cons_zero, List.set_cons_succ, i64_w, i32_w]
  rfl
 refine pure_ (i := 9) (N := some 39) (v := ?_) (a' := ?_) #[true, true, true, true, true, true, true, true, true, true, false, false] rfl rfl (any_of HT_.out (by kernel_rfl)) (fun _ _ _ h => h) (Or.inl ⟨by rfl, ?_⟩) ?_ ?_
 rotate_left
 ·intro w'
  go_simp
  with_reducible rfl
 rotate_left
 ·simp only [Act.put, List.setIfInBounds_toArray, List.set_cons_zero, List.set_cons_succ, i64_w, i32_w]
  rfl
 refine one_ (i := 10) (N := some 8) #[true, true, true, true, true, true, true, true, true, true, true, false] rfl rfl (one_of HT_.out (by kernel_rfl)) (by decide) (fun K hK => ?_)
 refine value_ (w1 := ?_) (v := ?_) (by rfl) rfl ?_ ?_
 rotate_left 2
 ·go_simp
  constructor
  ·rfl
  ·rfl
 have c0 := cell_of_blk (j := 0) (v := .int .i64 0) (blk_new w2.drew (.cells #[.int .i64 0, .string ⟨#[]⟩, .string ⟨#[]⟩] 23)) rfl
 have c1 := cell_of_blk (j := 1) (v := .string ⟨#[]⟩) (blk_new w2.drew (.cells #[.int .i64 0, .string ⟨#[]⟩, .string ⟨#[]⟩] 23)) rfl
 have c2 := cell_of_blk (j := 2) (v := .string ⟨#[]⟩) (blk_new w2.drew (.cells #[.int .i64 0, .string ⟨#[]⟩, .string ⟨#[]⟩] 23)) rfl
 refine hK.out _ _ ⟨(pw_cell_below (below_alloc (Below.refl _ _) _) HX1.out), (pw_cell_below (below_alloc (Below.refl _ _) _) HX2.out)⟩ (fun hHeld => ?_)
 clear hK K
 refine norm_ (a' := ?_) ?_ ?_
 rotate_left
 ·show Act.put _ (some 8) _ = _
  simp only [Act.put, List.setIfInBounds_toArray, List.set_cons_zero, List.set_cons_succ, i64_w, i32_w]
  rfl
 refine last_ (i := 11) (N := none) #[true, true, true, true, true, true, true, true, true, true, true, true] rfl rfl (one_of HT_.out (by kernel_rfl)) (by decide) (fun K hK => ?_)
 refine skip_ (w1 := ?_) (by rfl) rfl ?_ ?_
 rotate_left
 ·go_simp
  rfl
 refine hK.out _ _ ?_
 clear hK K
 refine done_ (done_of HT_.out (by kernel_rfl)) ?_
 clear HT_
 have hH : Below (w2.alloc (.cells #[.int .i64 m, .string y, .string z] 23)).heap.size (w2.alloc (.cells #[.int .i64 m, .string y, .string z] 23)) (w2.alloc (.cells #[.int .i64 m, .string y, .string z] 23)).drew := below_drew (Below.refl _ _)
 replace HR := Lib.hid (blk_below (blk_alloc HR0.out (.cells #[.int .i64 m, .string y, .string z] 23)) hH)
 replace HB : Hid (Below w.heap.size w (w2.alloc (.cells #[.int .i64 m, .string y, .string z] 23)).drew) := Lib.hid (below_drew (below_alloc HB0.out _))
 have HN := Lib.hid (blk_below (blk_new w2 (.cells #[.int .i64 m, .string y, .string z] 23)) hH)
 clear hH HX1 HX2 HB0 HR0 c0 c1 c2 hHeld
 generalize (w2.alloc (.cells #[.int .i64 m, .string y, .string z] 23)).drew = W3 at HR HB HN ⊢
 generalize w2.heap.size = NB at HN ⊢
 have hev : epochB m = epochB n.1 := by unfold epochB; exact decide_eq_decide.2 (by omega)
 have HRE : Hid (rightBl ⟨m, y, z⟩ = rightBl ⟨n.1, y, z⟩) := Lib.hid (by unfold rightBl; simp only [hev])
 clear hev
 by_cases q3 : n.2.2 = 0
 rotate_left
 ·have t3 : (n.2.2 != 0) = true := by rw [bne_iff_ne]; exact q3
  obtain rfl : R = (noBl, 2) := by rw [HV.out]; unfold takenF; rw [if_neg (fun h => q3 h.1)]
  have cR0 := cell_of_blk (j := 0) (v := .int .i64 0) HR.out rfl
  have cR1 := cell_of_blk (j := 1) (v := .string ⟨#[]⟩) HR.out rfl
  have cR2 := cell_of_blk (j := 2) (v := .string ⟨#[]⟩) HR.out rfl
  have zR0 := free_of_blk (j := 0) HR.out
  have zR1 := free_of_blk (j := 1) HR.out
  have zR2 := free_of_blk (j := 2) HR.out
  obtain ⟨hblk, hbe⟩ := put3 HB.out HR.out (by omega) (.int .i64 0) (.string ⟨#[]⟩) (.string ⟨#[]⟩)
  go_wp2
  refine bodyPost_ret (results_ct rfl _ _ w.heap.size 23 _ (0, 0) _ rfl hblk Tryz.underlying23 rfl (by kernel_rfl)) rfl ?_
  exact ⟨rfl, hbe⟩
 have t3 : (n.2.2 != 0) = false := by rw [q3]; rfl
 by_cases q4 : n.2.1 = ⟨#[]⟩
 rotate_left
 ·have t4 : (n.2.1.toList == []) = false := by
   rw [beq_eq_false_iff_ne]
   intro e
   exact q4 ((toL _ _).1 (by rw [e, bytes_toList]; rfl))
  obtain rfl : R = (noBl, 2) := by rw [HV.out]; unfold takenF; rw [if_neg (fun h => q4 h.2.1)]
  have cR0 := cell_of_blk (j := 0) (v := .int .i64 0) HR.out rfl
  have cR1 := cell_of_blk (j := 1) (v := .string ⟨#[]⟩) HR.out rfl
  have cR2 := cell_of_blk (j := 2) (v := .string ⟨#[]⟩) HR.out rfl
  have zR0 := free_of_blk (j := 0) HR.out
  have zR1 := free_of_blk (j := 1) HR.out
  have zR2 := free_of_blk (j := 2) HR.out
  obtain ⟨hblk, hbe⟩ := put3 HB.out HR.out (by omega) (.int .i64 0) (.string ⟨#[]⟩) (.string ⟨#[]⟩)
  go_wp2
  refine bodyPost_ret (results_ct rfl _ _ w.heap.size 23 _ (0, 0) _ rfl hblk Tryz.underlying23 rfl (by kernel_rfl)) rfl ?_
  exact ⟨rfl, hbe⟩
 have t4 : (n.2.1.toList == []) = true := by rw [q4, bytes_toList]; rfl
 have cN0 := cell_of_blk (j := 0) (v := .int .i64 m) HN.out rfl
 have cN1 := cell_of_blk (j := 1) (v := .string y) HN.out rfl
 have cN2 := cell_of_blk (j := 2) (v := .string z) HN.out rfl
 go_wp2_with fail
 refine (HRT.out _).mono ?_
 rintro e w4 ⟨rfl, hb⟩
 replace HN := Lib.hid (blk_below HN.out hb)
 replace HR := Lib.hid (blk_below HR.out hb)
 replace HB := Lib.hid (below_step HB.out hb)
 clear hb
 clear cN0 cN1 cN2 HRT
 by_cases q5 : rightBl ⟨m, y, z⟩ = true
 rotate_left
 ·have q5' : rightBl ⟨m, y, z⟩ = false := by simpa using q5
  rw [q5']
  obtain rfl : R = (noBl, 2) := by rw [HV.out]; unfold takenF; rw [if_neg (fun h => q5 (by rw [HRE.out]; exact h.2.2))]
  have cR0 := cell_of_blk (j := 0) (v := .int .i64 0) HR.out rfl
  have cR1 := cell_of_blk (j := 1) (v := .string ⟨#[]⟩) HR.out rfl
  have cR2 := cell_of_blk (j := 2) (v := .string ⟨#[]⟩) HR.out rfl
  have zR0 := free_of_blk (j := 0) HR.out
  have zR1 := free_of_blk (j := 1) HR.out
  have zR2 := free_of_blk (j := 2) HR.out
  obtain ⟨hblk, hbe⟩ := put3 HB.out HR.out (by omega) (.int .i64 0) (.string ⟨#[]⟩) (.string ⟨#[]⟩)
  go_wp2
  refine bodyPost_ret (results_ct rfl _ _ w.heap.size 23 _ (0, 0) _ rfl hblk Tryz.underlying23 rfl (by kernel_rfl)) rfl ?_
  exact ⟨rfl, hbe⟩
 rw [q5]
 have hmn : m = n.1 := by
  have h := (rightBl_inv q5).1
  simp only at h
  omega
 obtain rfl : R = (⟨m, y, z⟩, 0) := by rw [HV.out]; unfold takenF; rw [if_pos ⟨q3, q4, by rw [← HRE.out]; exact q5⟩, hmn]
 have cN0 := cell_of_blk (j := 0) (v := .int .i64 m) HN.out rfl
 have cN1 := cell_of_blk (j := 1) (v := .string y) HN.out rfl
 have cN2 := cell_of_blk (j := 2) (v := .string z) HN.out rfl
 have cR0 := cell_of_blk (j := 0) (v := .int .i64 0) HR.out rfl
 have cR1 := cell_of_blk (j := 1) (v := .string ⟨#[]⟩) HR.out rfl
 have cR2 := cell_of_blk (j := 2) (v := .string ⟨#[]⟩) HR.out rfl
 have zR0 := free_of_blk (j := 0) HR.out
 have zR1 := free_of_blk (j := 1) HR.out
 have zR2 := free_of_blk (j := 2) HR.out
 obtain ⟨hblk, hbe⟩ := put3 HB.out HR.out (by omega) (.int .i64 m) (.string y) (.string z)
 clear hmn hm hm8
 go_wp2
 refine bodyPost_ret (results_ct rfl _ _ w.heap.size 23 _ (0, 0) _ rfl hblk Tryz.underlying23 rfl (by kernel_rfl)) rfl ?_
 exact ⟨rfl, hbe⟩
end Go.Proofs.YtphehoidkmficaaGreatDoor
end
section

namespace Go.Proofs.YtphehoidkmficaaGreatDoor.Ref
open Go.RowKit Go.Proofs.YtphehoidkmficaaGreatDoor Go.Proofs.YtphehoidkmficaaGreatDoor.PA Go.Proofs.YtphehoidkmficaaGreatDoorW.PrintWords Go.Proofs.YtphehoidkmficaaGreatDoorW.PrintLast
set_option linter.unusedVariables false
theorem ref5Secret_ev (a b : ByteArray) (n : Nat) (ha : a.size ≤ 1000000) (hb : b.size ≤ 1000000) (h : n < 18446744073709551616) :
  Ev (fun k => letterlockref5_Secret.f k a b (n : Int)) (secretF a b n) := by
 have hs := nameB_size a b
 unfold letterlockref5_Secret.f secretF
 refine Ev.pos (by omega) (Ev.pos (by rw [ByteArray.size_append, size_one]; omega) (Ev.bind (refText_ev (nameB a b) (by omega)) ?_))
 by_cases h0 : (textF (nameB a b)).2 = 0
 ·rw [if_pos h0]
  refine Ev.pos h0 (Ev.bind (refAtom_ev n h) (Ev.bind (refPair_ev (textF (nameB a b)).1 (atomB n)) ?_))
  by_cases h1 : (pairF (textF (nameB a b)).1 (atomB n)).2 = 0
  ·rw [if_pos h1]
   exact Ev.pos h1 (Ev.bind (refHash_ev _) (Ev.now _))
  ·rw [if_neg h1]
   exact Ev.neg h1 (Ev.now _)
 ·rw [if_neg h0]
  exact Ev.neg h0 (Ev.now _)
theorem ref6_loop (m : Nat) (s : ByteArray) (n : Int) (hm : n = m) (hn : n ≤ 9223372036854775807) : Ev (fun k => letterlockref6_Back.l0 k s n) (hashesF m s) := by
 induction m generalizing s n with
 | zero => exact Ev.step (fun _ => rfl) (Ev.neg (by omega) (Ev.now _))
 | succ m ih =>
  refine Ev.step (fun _ => rfl) (Ev.pos (by omega) (Ev.bind (refHash_ev s) ?_))
  unfold hashesF
  by_cases h0 : (hashF s).2 = 0
  ·rw [if_pos h0]
   refine Ev.pos h0 ?_
   rw [w64 (by omega) (by omega)]
   exact ih _ _ (by omega) (by omega)
  ·rw [if_neg h0]
   exact Ev.neg h0 (Ev.now _)
theorem ref6Back_ev (s : ByteArray) (n : Int) (hn : n ≤ 9223372036854775807) : Ev (fun k => letterlockref6_Back.f k s n) (backF s n) := by
 unfold letterlockref6_Back.f backF
 refine Ev.bind (refRight_ev s) ?_
 cases hr : right s with
 | false =>
  rw [if_neg (by simp)]
  exact Ev.neg (by simp) (Ev.step (fun _ => rfl) (Ev.now _))
 | true =>
  rw [if_pos rfl]
  refine Ev.pos rfl ?_
  by_cases h0 : n < 0
  ·rw [if_pos h0]
   exact Ev.step (fun _ => rfl) (Ev.pos (decide_eq_true h0) (Ev.now _))
  ·rw [if_neg h0]
   exact Ev.step (fun _ => rfl) (Ev.neg (by simpa using h0) (ref6_loop n.toNat s n (by omega) hn))
theorem ref6State_ev (s : ByteArray) (e : Int) : Ev (fun k => letterlockref6_State.f k s e) (stateF s e) := by
 unfold letterlockref6_State.f stateF
 refine Ev.bind (refRight_ev s) ?_
 cases hr : right s with
 | false =>
  rw [if_neg (by simp)]
  exact Ev.neg (by simp) (Ev.now _)
 | true =>
  rw [if_pos rfl]
  refine Ev.pos rfl ?_
  by_cases h0 : e < 0
  ·rw [if_pos h0]; exact Ev.pos h0 (Ev.now _)
  rw [if_neg h0]
  refine Ev.neg h0 ?_
  by_cases h1 : 7 < e
  ·rw [if_pos h1]; exact Ev.pos (by omega) (Ev.now _)
  rw [if_neg h1]
  refine Ev.neg (by omega) ?_
  rw [w64 (by omega) (by omega)]
  exact Ev.bind (ref6Back_ev s (7 - e) (by omega)) (Ev.now _)
end Go.Proofs.YtphehoidkmficaaGreatDoor.Ref
namespace Go.Proofs.YtphehoidkmficaaGreatDoor
open Go.RowKit Go.Proofs.YtphehoidkmficaaGreatDoorW.PrintWords Go.Proofs.YtphehoidkmficaaGreatDoorW.PrintLast Go.Proofs.YtphehoidkmficaaGreatDoor.Ref Go.Proofs.YtphehoidkmficaaGreatDoor.PA
set_option linter.unusedVariables false
def pickN (c : Int) (n : Nat) : Nat := if c < 0 then ((-(c + 1)).toNat) % n else c.toNat % n
theorem pick_lt (c : Int) {n : Nat} (h : 0 < n) : pickN c n < n := by unfold pickN; split <;> exact Nat.mod_lt _ h
abbrev I64 (c : Int) : Prop := -9223372036854775808 ≤ c ∧ c ≤ 9223372036854775807
theorem pick_val (c : Int) (n : Nat) (h0 : 0 < n) (hn : n ≤ 1000000) (hc : I64 c) : letterlocklaw9_pick.f c n = some ((pickN c n : Nat) : Int) := by
 unfold letterlocklaw9_pick.f pickN
 by_cases h : c < 0
 ·rw [if_pos h, if_neg (by omega), if_pos h]
  rw [w64 (n := c + 1) (by omega) (by omega), w64 (n := -(c + 1)) (by omega) (by omega)]
  refine congrArg some ?_
  rw [Int.tmod_eq_emod_of_nonneg (by omega)]
  have : ((-(c + 1)).toNat : Int) = -(c + 1) := by omega
  rw [Int.natCast_emod, this]
 ·rw [if_neg h, if_neg (by omega), if_neg h]
  refine congrArg some ?_
  rw [Int.tmod_eq_emod_of_nonneg (by omega)]
  have : (c.toNat : Int) = c := by omega
  rw [Int.natCast_emod, this]
theorem u64_of {n : Nat} (h : n < 18446744073709551616) : IntKind.u64.wrap (n : Int) = (n : Int) := by rw [IntKind.wrap_u64]; omega
theorem secret_root {n : Nat} (h : n < 1000) : secretF rootB xB n = (tm (rT n), 0) := secret_tm rootB xB n (by decide) (by omega)
theorem secret_sign {n : Nat} (h : n < 1000) : secretF signB xB n = (tm (sT n), 0) := secret_tm signB xB n (by decide) (by omega)
theorem root_call (c : Int) (hc : I64 c) (W : World) : Calls Tryz.prog 33 #[.int .i64 c] W fun e w' => e = .returned (.string (tm (rT (pickN c 5)))) ∧ Below W.heap.size W w' := by
 have h5 := pick_lt c (n := 5) (by omega)
 have h : Ev (fun k => letterlocklaw9_rootOf.f k c) (tm (rT (pickN c 5))) := by
  unfold letterlocklaw9_rootOf.f
  refine Ev.put (pick_val c 5 (by omega) (by omega) hc) ?_
  rw [u64_of (by omega)]
  have hs := ref5Secret_ev rootB xB (pickN c 5) (by decide) (by decide) (by omega)
  rw [secret_root (by omega)] at hs
  exact Ev.bind hs (Ev.now _)
 obtain ⟨k, hk⟩ := ev_some h
 exact letterlocklaw9_rootOf.calls k c _ W hk
theorem signer_ev {i : Nat} (hi : i < 1000) : Ev (fun k => letterlocklaw9_signerOf.f k (i : Int)) (tm (sT i)) := by
 unfold letterlocklaw9_signerOf.f
 rw [u64_of (by omega)]
 have hs := ref5Secret_ev signB xB i (by decide) (by decide) (by omega)
 rw [secret_sign hi] at hs
 exact Ev.bind hs (Ev.now _)
theorem signer_call {i : Nat} (hi : i < 1000) (W : World) : Calls Tryz.prog 34 #[.int .i64 i] W fun e w' => e = .returned (.string (tm (sT i))) ∧ Below W.heap.size W w' := by
 obtain ⟨k, hk⟩ := ev_some (signer_ev hi)
 exact letterlocklaw9_signerOf.calls k i _ W hk
theorem state_call {r e : Nat} (hr : r < 1000) (he : e ≤ 7) (W : World) : Calls Tryz.prog 32 #[.string (tm (rT r)), .int .i64 e] W fun e' w' => e' = .returned (.tuple #[.string (tm (hT (7 - e) (rT r))), .int .i64 0]) ∧ Below W.heap.size W w' := by
 have h := ref6State_ev (tm (rT r)) e
 rw [state_tm e 3 (rT r) he (rT_ok hr).1 (by omega) (by have := (rT_ok hr).2; omega)] at h
 obtain ⟨k, hk⟩ := ev_some h
 exact letterlockref6_State.calls k _ _ _ _ W hk
theorem pubs_succ (n : Nat) : pubs (n + 1) = pubs n ++ [tm (.one .u (sT n))] := by simp [pubs, List.range_succ]
theorem verifyOf_loop (n : Int) (hn : n ≤ 900) (m i : Nat) (hm : (i : Int) + m = n + 1) : Ev (fun k => letterlocklaw9_verifyOf.l0 k n (pubs i) (i : Int)) (pubs (i + m)) := by
 induction m generalizing i with
 | zero => exact Ev.step (fun _ => rfl) (Ev.neg (by omega) (Ev.now _))
 | succ m ih =>
  have hp := refPublic_ev (tm (sT i))
  rw [show ofF (⟨#[117]⟩ : ByteArray) [tm (sT i)] = _ from public_tm (pub_ok (i := i) (by omega))] at hp
  refine Ev.step (fun _ => rfl) (Ev.pos (by omega) (Ev.bind (signer_ev (by omega)) (Ev.bind hp (Ev.pos (by rw [pubs_len]; omega) ?_))))
  have := ih (i + 1) (by omega)
  rw [show i + 1 + m = i + (m + 1) from by omega, pubs_succ, show ((i + 1 : Nat) : Int) = (i : Int) + 1 from by omega] at this
  rw [w64 (by omega) (by omega)]
  exact this
theorem verifyOf_call {n : Int} (h0 : -1 ≤ n) (hn : n ≤ 900) {m : Nat} (hm : (m : Int) = n + 1) (W : World) : Calls Tryz.prog 35 #[.int .i64 n] W fun e w' => ∃ v0 : Value, e = .returned v0 ∧ Kd.R Kd.string 9 w' W.heap.size (fun _ => True) v0 (pubs m) ∧ Below W.heap.size W w' := by
 have h : Ev (fun k => letterlocklaw9_verifyOf.f k n) (pubs m) := by
  unfold letterlocklaw9_verifyOf.f
  have := verifyOf_loop n hn m 0 (by omega)
  rw [Nat.zero_add] at this
  exact this
 obtain ⟨k, hk⟩ := ev_some h
 exact letterlocklaw9_verifyOf.calls k n _ W hk
theorem take_empty : takeBl ⟨#[]⟩ = (noBl, 2) := by
 unfold takeBl
 rw [if_neg]
 intro h
 exact absurd h.1 (by decide +kernel)
def notes : ByteArray := ⟨#[97, 110, 110, 97, 47, 110, 111, 116, 101, 115]⟩
theorem anna_right : rightN [97, 110, 110, 97] = true := by decide +kernel
theorem notes_right : rightN [110, 111, 116, 101, 115] = true := by decide +kernel
theorem split_notes : (splitF notes).2.2 = 0 := by
 have h := split_path (a := ⟨#[97, 110, 110, 97]⟩) (b := ⟨#[110, 111, 116, 101, 115]⟩) anna_right notes_right
 rw [show ((⟨#[97, 110, 110, 97]⟩ ++ ⟨#[47]⟩) ++ ⟨#[110, 111, 116, 101, 115]⟩ : ByteArray) = notes from bs_inj (by rw [bytes_append, bytes_append]; rfl)] at h
 rw [h]
theorem pubs_small (n : Nat) (h : n ≤ 1000) : ∀ v ∈ pubs n, v.size ≤ 1000000 := by
 intro v hv
 simp only [pubs, List.mem_map, List.mem_range] at hv
 obtain ⟨i, hi, rfl⟩ := hv
 have := right_size (right_tm (pub_ok (i := i) (by omega)))
 omega
theorem tm_small {t : T} (h : Wf t) : (tm t).size ≤ 1000000 := by have := right_size (right_tm h); omega
end Go.Proofs.YtphehoidkmficaaGreatDoor
end
section

namespace Go.Proofs.YtphehoidkmficaaGreatDoor.Ref
open Go.RowKit Go.Proofs.YtphehoidkmficaaGreatDoor Go.Proofs.YtphehoidkmficaaGreatDoor.PA Go.Proofs.YtphehoidkmficaaGreatDoorW.PrintWords Go.Proofs.YtphehoidkmficaaGreatDoorW.PrintLast
set_option linter.unusedVariables false
set_option linter.unusedSimpArgs false
theorem bt_code (t : T) : bt (tm t) 0 = (t.code.toNat : Int) := by
 have h := bt_bytes (tm t) 0 (by rw [size_tm]; exact enc_pos t)
 obtain ⟨l, hl⟩ := enc_code t
 simp only [bytes_tm, hl] at h
 exact h
theorem tm_pos (t : T) : (0 : Int) < ((tm t).size : Int) := by have := enc_pos t; rw [size_tm]; omega
theorem size_enc {t : T} (h : ok 40 t) (r : Bs) : sizeF 40 (enc t ++ r) = ((enc t).length : Int) := by unfold sizeF; rw [parse_enc 40 t r h]
theorem many_code (t : T) : manyC t.code = (t.parts.length : Int) := by
 cases t with
 | atom n => rfl
 | text s => rfl
 | one k a => cases k <;> rfl
 | two k a b => cases k <;> rfl
theorem parts9_loop (t : T) (hw : Wf t) (m i : Nat) (hm : i + m = t.parts.length) (rest : ByteArray) (hz : rest.size ≤ 4000) (hr : i < t.parts.length → bytes rest = ((t.parts.drop i).map enc).flatten) :
  Ev (fun k => letterlockref3_Parts.l0 k (tm t) ((t.parts.take i).map tm) rest (i : Int)) (t.parts.map tm, 0) := by
 have hp2 : t.parts.length ≤ 2 := by cases t <;> simp [T.parts]
 induction m generalizing i rest with
 | zero =>
  refine Ev.step (fun _ => rfl) (Ev.pos (tm_pos t) ?_)
  rw [bt_code]
  refine Ev.bind (many_ev t.code) (ev_cast (Ev.neg (by rw [many_code]; omega) (Ev.now _)) ?_)
  rw [List.take_of_length_le (by omega)]
 | succ m ih =>
  have hi : i < t.parts.length := by omega
  have hr := hr hi
  rw [List.drop_eq_getElem_cons hi, List.map_cons, List.flatten_cons] at hr
  have hwa : Wf t.parts[i] := parts_wf hw (List.getElem_mem hi)
  have hsz := told 40 (by omega) rest hz
  rw [hr, size_enc hwa.1] at hsz
  have hlen := congrArg List.length hr
  rw [bytes_length, List.length_append] at hlen
  refine Ev.step (fun _ => rfl) (Ev.pos (tm_pos t) ?_)
  rw [bt_code]
  refine Ev.bind (many_ev t.code) (Ev.pos (by rw [many_code]; omega) (Ev.bind hsz (Ev.pos (by omega) (Ev.pos (by omega) (Ev.pos (by rw [List.length_map, List.length_take]; omega) ?_)))))
  rw [Int.toNat_natCast, w64 (n := (i : Int) + 1) (by omega) (by omega)]
  have e1 : rest.extract 0 (enc t.parts[i]).length = tm t.parts[i] := bs_inj (by rw [bytes_to, hr, bytes_tm, List.take_left])
  have e2 : bytes (rest.extract (enc t.parts[i]).length rest.size) = ((t.parts.drop (i + 1)).map enc).flatten := by rw [bytes_from, hr, List.drop_left]
  have e3 : (t.parts.take i).map tm ++ [tm t.parts[i]] = (t.parts.take (i + 1)).map tm := by rw [List.take_succ_eq_append_getElem hi, List.map_append]; rfl
  rw [e1, e3]
  refine ih (i + 1) (by omega) _ ?_ (fun _ => e2)
  have := congrArg List.length e2
  rw [bytes_length] at this
  rw [← bytes_length, bytes_from, List.length_drop, bytes_length]
  omega
theorem refParts_ev {t : T} (h : Wf t) : Ev (fun k => letterlockref3_Parts.f k (tm t)) (t.parts.map tm, 0) := by
 unfold letterlockref3_Parts.f
 have hp := enc_pos t
 refine Ev.bind (refRight_ev (tm t)) ?_
 rw [right_tm h]
 refine Ev.pos rfl (Ev.pos (by rw [size_tm]; omega) ?_)
 refine parts9_loop t h t.parts.length 0 (by omega) _ ?_ ?_
 ·rw [← bytes_length, bytes_from, List.length_drop, bytes_tm]; have := h.2; omega
 ·intro hi
  rw [bytes_from, bytes_tm, List.drop_zero]
  cases t with
  | atom n => exact absurd hi (by simp [T.parts])
  | text s => exact absurd hi (by simp [T.parts])
  | one k a => simp [enc, T.parts]
  | two k a b => simp [enc, T.parts]
theorem refKind_ev (s : ByteArray) : Ev (fun k => letterlockref3_Kind.f k s) (kindF s) := by
 unfold letterlockref3_Kind.f
 refine Ev.bind (refRight_ev s) ?_
 cases h : right s with
 | false =>
  have e : termOf (bytes s) = none := by unfold right at h; simpa using h
  refine ev_cast (Ev.neg (by simp) (Ev.now _)) ?_
  unfold kindF
  rw [e]
 | true =>
  obtain ⟨t, ht, rfl⟩ := right_tm_of h
  refine ev_cast (Ev.pos rfl (Ev.pos (tm_pos t) (Ev.now _))) ?_
  rw [bt_code, kind_tm ht]
theorem kind_zero {s : ByteArray} (h : right s = false) : kindF s = 0 := by
 have e : termOf (bytes s) = none := by unfold right at h; simpa using h
 unfold kindF
 rw [e]
theorem tl_eq (a b : ByteArray) : a.toList = b.toList ↔ a = b := ⟨fun h => bs_inj (by rwa [bytes_toList, bytes_toList] at h), fun h => by rw [h]⟩
theorem tm_tail {t : T} : ∀ {k : K1} {a : T}, t = .one k a → (tm t).extract 1 (tm t).size = tm a := by
 rintro k a rfl
 exact bs_inj (by rw [bytes_from, bytes_tm, bytes_tm]; rfl)
theorem refOpen_ev (k0 c : ByteArray) (hc : right c = true) : Ev (fun k => letterlockref3_Open.f k k0 c) (unsealF k0 c) := by
 unfold letterlockref3_Open.f unsealF
 refine Ev.bind (refRight_ev k0) ?_
 cases hk : right k0 with
 | false =>
  rw [if_neg (by simp)]
  exact Ev.neg (by simp) (Ev.now _)
 | true =>
  obtain ⟨t, ht, rfl⟩ := right_tm_of hc
  rw [if_pos rfl, term_tm ht]
  refine Ev.pos rfl (Ev.bind (refRight_ev (tm t)) ?_)
  rw [hc]
  refine Ev.pos rfl ?_
  suffices hs : Ev (fun k => letterlockref3_opens.f k 115 k0 (tm t)) (match (some t : Option T) with | none => (⟨#[]⟩, 1) | some (.two .s a b) => if tm a = k0 then (tm b, 0) else (⟨#[]⟩, 6) | some _ => (⟨#[]⟩, 2)) by
   refine Ev.bind hs (ev_cast (Ev.now _) ?_)
   rfl
  unfold letterlockref3_opens.f
  refine Ev.pos (tm_pos t) ?_
  rw [bt_code]
  have hno : t.code ≠ 115 → Ev (fun k => if (t.code.toNat : Int) = 115 then ((letterlockref3_Parts.f k (tm t)).bind fun bt231 => (if 0 < (bt231.1.length : Int) then (if (rdOf ByteArray.empty bt231.1 0).toList = k0.toList then (if 1 < (bt231.1.length : Int) then (some (rdOf ByteArray.empty bt231.1 1, (0 : Int))) else (none)) else (some ((⟨#[]⟩ : ByteArray), 6))) else (none))) else (some ((⟨#[]⟩ : ByteArray), 2))) (⟨#[]⟩, 2) :=
   fun hh => Ev.neg (fun e => hh (UInt8.toNat_inj.1 (by omega : t.code.toNat = 115))) (Ev.now _)
  cases t with
  | atom n => exact hno (by simp only [T.code, K1.code, K2.code]; decide)
  | text n => exact hno (by simp only [T.code, K1.code, K2.code]; decide)
  | one k a => exact hno (by cases k <;> (simp only [T.code, K1.code, K2.code]; decide))
  | two k a b =>
   cases k with
   | p => exact hno (by simp only [T.code, K1.code, K2.code]; decide)
   | g => exact hno (by simp only [T.code, K1.code, K2.code]; decide)
   | b => exact hno (by simp only [T.code, K1.code, K2.code]; decide)
   | s =>
    refine Ev.pos rfl (Ev.bind (refParts_ev ht) (Ev.pos (by simp [T.parts]) ?_))
    have e0 : rdOf ByteArray.empty ([a, b].map tm) 0 = tm a := rfl
    have e1 : rdOf ByteArray.empty ([a, b].map tm) 1 = tm b := rfl
    show Ev (fun k => if (rdOf ByteArray.empty ([a, b].map tm) 0).toList = k0.toList then _ else _) _
    rw [e0]
    by_cases h : tm a = k0
    ·simp only [if_pos h]
     exact ev_cast (Ev.pos ((tl_eq _ _).2 h) (Ev.pos (by simp [T.parts]) (Ev.now _))) (by rw [← e1]; rfl)
    ·simp only [if_neg h]
     exact Ev.neg (fun e => h ((tl_eq _ _).1 e)) (Ev.now _)
theorem refVerify_ev (p a s : ByteArray) : Ev (fun k => letterlockref3_Verify.f k p a s) (verifyF p a s) := by
 unfold letterlockref3_Verify.f verifyF
 refine Ev.bind (refRight_ev p) ?_
 cases hp : right p with
 | false =>
  rw [if_neg (by simp)]
  exact Ev.neg (by simp) (Ev.step (fun _ => rfl) (Ev.now _))
 | true =>
  refine Ev.pos rfl (Ev.bind (refRight_ev a) ?_)
  cases ha : right a with
  | false =>
   rw [if_neg (by simp)]
   exact Ev.neg (by simp) (Ev.step (fun _ => rfl) (Ev.now _))
  | true =>
   refine Ev.pos rfl (Ev.bind (refRight_ev s) ?_)
   cases hs : right s with
   | false =>
    rw [if_neg (by simp)]
    exact Ev.step (fun _ => rfl) (Ev.now _)
   | true =>
    obtain ⟨t, ht, rfl⟩ := right_tm_of hp
    have hz := right_size ha
    have hz2 := right_size hp
    rw [if_pos (by simp), term_tm ht]
    refine Ev.step (fun _ => rfl) (Ev.pos (tm_pos t) ?_)
    rw [bt_code]
    have h7 : t.code ≠ 117 → Ev (fun k => if (t.code.toNat : Int) = 117 then (if 1 ≤ ((tm t).size : Int) then (if 1 + ((tm t).extract 1 (tm t).size).size ≤ 9223372036854775807 then (if ((⟨#[103]⟩ : ByteArray) ++ ((tm t).extract 1 (tm t).size)).size + a.size ≤ 9223372036854775807 then (if s.toList = (((⟨#[103]⟩ : ByteArray) ++ ((tm t).extract 1 (tm t).size)) ++ a).toList then (some 0) else (some 7)) else (none)) else (none)) else (none)) else (some 7)) (7 : Int) :=
     fun hh => Ev.neg (fun e => hh (UInt8.toNat_inj.1 (by omega : t.code.toNat = 117))) (Ev.now _)
    cases t with
    | atom n => exact h7 (by simp only [T.code, K1.code, K2.code]; decide)
    | text n => exact h7 (by simp only [T.code, K1.code, K2.code]; decide)
    | two k x y => exact h7 (by cases k <;> (simp only [T.code, K1.code, K2.code]; decide))
    | one k x =>
     cases k with
     | h => exact h7 (by simp only [T.code, K1.code, K2.code]; decide)
     | u =>
      have ex := tm_tail (t := .one .u x) rfl
      have hzx : (tm x).size ≤ 4000 := by
       have h1 := congrArg ByteArray.size ex
       rw [← bytes_length, bytes_from, List.length_drop, bytes_length] at h1
       omega
      refine Ev.pos rfl (Ev.pos (by have := tm_pos (.one .u x); omega) ?_)
      rw [ex]
      refine Ev.pos (by omega) (Ev.pos (by rw [ByteArray.size_append, size_one]; omega) ?_)
      have he : s.toList = (((⟨#[103]⟩ : ByteArray) ++ tm x) ++ a).toList ↔ bytes s = 103 :: (enc x ++ bytes a) := by
       rw [bytes_toList, bytes_toList, bytes_append, bytes_append, bytes_tm, List.append_assoc]
       exact Iff.rfl
      by_cases h : bytes s = 103 :: (enc x ++ bytes a)
      ·simp only [if_pos h]
       exact Ev.pos (he.2 h) (Ev.now _)
      ·simp only [if_neg h]
       exact Ev.neg (fun e => h (he.1 e)) (Ev.now _)
theorem refWords_ev (s : ByteArray) : Ev (fun k => letterlockref3_Words.f k s) (wordsF s) := by
 unfold letterlockref3_Words.f
 refine Ev.bind (refRight_ev s) ?_
 cases h : right s with
 | false =>
  have e : termOf (bytes s) = none := by unfold right at h; simpa using h
  unfold wordsF
  rw [e]
  exact Ev.neg (by simp) (Ev.now _)
 | true =>
  obtain ⟨t, ht, rfl⟩ := right_tm_of h
  rw [words_tm ht]
  refine Ev.pos rfl (Ev.pos (tm_pos t) ?_)
  rw [bt_code]
  have h2 : t.code ≠ 116 → Ev (fun k => if (t.code.toNat : Int) = 116 then (if 1 ≤ ((tm t).size : Int) then ((letterlockref2_TakeText.f k ((tm t).extract 1 (tm t).size) 4000).bind fun bt245 => (some (bt245.1, bt245.2.2))) else (none)) else (some ((⟨#[]⟩ : ByteArray), (2 : Int)))) (⟨#[]⟩, 2) :=
   fun hh => Ev.neg (fun e => hh (UInt8.toNat_inj.1 (by omega : t.code.toNat = 116))) (Ev.now _)
  cases t with
  | atom n => exact h2 (by simp only [T.code, K1.code, K2.code]; decide)
  | one k a => exact h2 (by cases k <;> (simp only [T.code, K1.code, K2.code]; decide))
  | two k a b => exact h2 (by cases k <;> (simp only [T.code, K1.code, K2.code]; decide))
  | text l =>
   have hl := ht.2
   have hl2 : l.length ≤ 4000 := by
    simp only [enc, List.length_cons, putT, List.length_append] at hl
    omega
   have hb : bytes ((tm (.text l)).extract 1 (tm (.text l)).size) = putT l := by rw [bytes_from, bytes_tm]; rfl
   refine Ev.pos rfl (Ev.pos (by have := tm_pos (.text l); omega) (Ev.bind (refTakeText_ev _ (by rw [← bytes_length, hb]; simp only [enc, List.length_cons] at hl; omega)) (ev_cast (Ev.now _) ?_)))
   have e := takeT_put (most := 4000) hl2 (by omega) ([] : Bs)
   rw [List.append_nil] at e
   have e2 : takeTextF 4000 ((tm (.text l)).extract 1 (tm (.text l)).size) = (ofBytes l, ofBytes [], 0) := by
    unfold takeTextF
    unfold takeT at e
    rw [hb]
    cases ht2 : takeL (putT l) with
    | none => rw [ht2] at e; simp at e
    | some y =>
     obtain ⟨n, r⟩ := y
     rw [ht2] at e
     simp only at e ⊢
     by_cases h1 : 4000 < n
     ·rw [if_pos h1] at e; simp at e
     rw [if_neg h1] at e ⊢
     by_cases h2 : r.length < n
     ·rw [if_pos h2] at e; simp at e
     rw [if_neg h2] at e ⊢
     simp only [Option.some.injEq, Prod.mk.injEq] at e
     rw [e.1, e.2]
   rw [e2]
theorem ref6Key_ev (s : ByteArray) : Ev (fun k => letterlockref6_Key.f k s) (keyF s) := by
 unfold letterlockref6_Key.f keyF
 refine Ev.bind (refRight_ev s) ?_
 cases hr : right s with
 | false =>
  rw [if_neg (by simp)]
  exact Ev.neg (by simp) (Ev.now _)
 | true =>
  rw [if_pos rfl]
  have ht : textF (⟨#[107, 101, 121]⟩ : ByteArray) = (textB keyB, 0) := key_text
  refine Ev.pos rfl (Ev.bind (refText_ev _ (by decide)) ?_)
  rw [ht]
  refine Ev.bind (refPair_ev _ _) ?_
  by_cases h : (pairF (textB keyB) s).2 = 0
  ·rw [if_pos h]
   exact Ev.pos h (Ev.bind (refHash_ev _) (Ev.now _))
  ·rw [if_neg h]
   exact Ev.neg h (Ev.now _)
end Go.Proofs.YtphehoidkmficaaGreatDoor.Ref
end
section

namespace Go.Proofs.YtphehoidkmficaaGreatDoor.Ref
open Go.RowKit Go.Proofs.YtphehoidkmficaaGreatDoor Go.Proofs.YtphehoidkmficaaGreatDoor.PA Go.Proofs.YtphehoidkmficaaGreatDoor.PS Go.Proofs.YtphehoidkmficaaGreatDoorW.PrintWords Go.Proofs.YtphehoidkmficaaGreatDoorW.PrintLast
set_option linter.unusedVariables false
set_option linter.unusedSimpArgs false
theorem tl_nil (r : ByteArray) : r.toList = ([] : List UInt8) ↔ r = ⟨#[]⟩ := ⟨fun h => bs_inj (by rw [← bytes_toList, h]; rfl), fun h => by rw [h, bytes_toList]; rfl⟩
theorem u64_nat {e : Int} (h0 : 0 ≤ e) (h1 : e < 18446744073709551616) : IntKind.u64.wrap e = ((e.toNat : Nat) : Int) := by rw [IntKind.wrap_u64]; omega
theorem signed9_ev (e : Int) (s : ByteArray) (h0 : 0 ≤ e) (h1 : e < 18446744073709551616) : Ev (fun k => letterlockref9_signed.f k e s) (signedF e s) := by
 unfold letterlockref9_signed.f signedF
 rw [u64_nat h0 h1]
 exact Ev.bind (refAtom_ev e.toNat (by omega)) (Ev.bind (refPair_ev _ _) (Ev.now _))
theorem right9_ev (b : Bl) : Ev (fun k => letterlockref9_Right.f k b.e b.s b.g) (rightBl b) := by
 unfold letterlockref9_Right.f rightBl epochB
 by_cases h0 : 0 ≤ b.e
 ·by_cases h7 : b.e ≤ 7
  ·rw [decide_eq_true (And.intro h0 h7), Bool.true_and]
   refine Ev.pos h0 (Ev.pos h7 (Ev.bind (refKind_ev b.s) ?_))
   by_cases hs : kindF b.s = 115
   ·rw [decide_eq_true hs, Bool.true_and]
    exact Ev.pos hs (Ev.bind (refKind_ev b.g) (ev_cast (Ev.now _) (by rw [Bool.eq_iff_iff]; simp)))
   ·rw [decide_eq_false hs, Bool.false_and]
    exact Ev.neg hs (Ev.now _)
  ·rw [decide_eq_false (fun h => h7 h.2), Bool.false_and]
   exact Ev.pos h0 (Ev.neg h7 (Ev.now _))
 ·rw [decide_eq_false (fun h => h0 h.1), Bool.false_and]
  exact Ev.neg h0 (Ev.now _)
theorem put9_ev (b : Bl) : Ev (fun k => letterlockref9_Put.f k b.e b.s b.g) (putBl b) := by
 unfold letterlockref9_Put.f putBl
 refine Ev.bind (right9_ev b) ?_
 cases h : rightBl b with
 | false =>
  rw [if_neg (by simp)]
  exact Ev.neg (by simp) (Ev.now _)
 | true =>
  obtain ⟨h1, h2, h3⟩ := rightBl_inv h
  have h4 := right_kind h2 (by decide)
  have h5 := right_kind h3 (by decide)
  have h6 := size_numB (n := b.e.toNat) (by omega)
  rw [if_pos rfl, u64_nat h1.1 (by omega)]
  refine Ev.pos rfl (Ev.bind (refPut_ev b.e.toNat (by omega)) (Ev.bind (refPutAll_ev [numB b.e.toNat, b.s, b.g] (by simp) (fun s hs => ?_)) (Ev.now _)))
  simp only [List.mem_cons, List.not_mem_nil, or_false] at hs
  rcases hs with rfl | rfl | rfl <;> omega
theorem text_small {s : ByteArray} (h : s.size ≤ 300) : textF s = (textB s, 0) := by
 have h1 := size_numB (n := s.size) (by omega)
 rw [textF_right, right_textB, decide_eq_true, if_pos rfl]
 unfold textB
 rw [ByteArray.size_append, ByteArray.size_append, size_one]
 omega
def textsT : T → ByteArray × ByteArray × Bool
 | .two .p x y => ((wordsF (tm x)).1, (wordsF (tm y)).1, decide ((wordsF (tm x)).2 = 0) && decide ((wordsF (tm y)).2 = 0))
 | _ => (⟨#[]⟩, ⟨#[]⟩, false)
theorem textsT_p (x y : T) : textsT (.two .p x y) = ((wordsF (tm x)).1, (wordsF (tm y)).1, decide ((wordsF (tm x)).2 = 0) && decide ((wordsF (tm y)).2 = 0)) := rfl
theorem texts_none : Ev (fun k => letterlockref9_texts.f k ⟨#[]⟩) (⟨#[]⟩, ⟨#[]⟩, false) := by
 unfold letterlockref9_texts.f
 exact Ev.pos (by rw [bytes_toList]; rfl) (Ev.step (fun _ => rfl) (Ev.now _))
theorem texts_ev {b : T} (hb : Wf b) : Ev (fun k => letterlockref9_texts.f k (tm b)) (textsT b) := by
 unfold letterlockref9_texts.f
 refine Ev.neg (fun e => ?_) (Ev.pos (tm_pos b) ?_)
 ·have := tm_pos b
  have h := congrArg List.length e
  rw [bytes_toList, bytes_length] at h
  simp only [List.length_nil] at h
  omega
 rw [bt_code]
 have hno : b.code ≠ 112 → textsT b = (⟨#[]⟩, ⟨#[]⟩, false) → Ev (fun k => letterlockref9_texts.j0 k (tm b) ((b.code.toNat : Int) != 112)) (textsT b) := by
  intro hc he
  rw [he, show ((b.code.toNat : Int) != 112) = true from bne_iff_ne.2 (fun e => hc (UInt8.toNat_inj.1 (by omega : b.code.toNat = 112)))]
  exact Ev.step (fun _ => rfl) (Ev.now _)
 cases b with
 | atom n => exact hno (by simp only [T.code, K1.code, K2.code]; decide) rfl
 | text n => exact hno (by simp only [T.code, K1.code, K2.code]; decide) rfl
 | one k a => exact hno (by cases k <;> (simp only [T.code, K1.code, K2.code]; decide)) rfl
 | two k x y =>
  cases k with
  | s => exact hno (by simp only [T.code, K1.code, K2.code]; decide) rfl
  | b => exact hno (by simp only [T.code, K1.code, K2.code]; decide) rfl
  | g => exact hno (by simp only [T.code, K1.code, K2.code]; decide) rfl
  | p =>
   rw [show (((T.two .p x y).code.toNat : Int) != 112) = false from rfl]
   refine Ev.step (fun _ => rfl) ((Ev.bind (refParts_ev hb) (Ev.pos (by simp [T.parts]) ?_)))
   have e0 : rdOf ByteArray.empty ([x, y].map tm) 0 = tm x := rfl
   have e1 : rdOf ByteArray.empty ([x, y].map tm) 1 = tm y := rfl
   show Ev (fun k => (letterlockref3_Words.f k (rdOf ByteArray.empty ([x, y].map tm) 0)).bind _) _
   rw [e0]
   refine Ev.bind (refWords_ev (tm x)) (Ev.pos (by simp [T.parts]) ?_)
   show Ev (fun k => (letterlockref3_Words.f k (rdOf ByteArray.empty ([x, y].map tm) 1)).bind _) _
   rw [e1]
   refine Ev.bind (refWords_ev (tm y)) ?_
   rw [textsT_p]
   by_cases h : (wordsF (tm x)).2 = 0
   ·exact ev_cast (Ev.pos h (Ev.now _)) (by rw [decide_eq_true h, Bool.true_and]; rw [show ((wordsF (tm y)).2 == 0) = decide ((wordsF (tm y)).2 = 0) from by rw [Bool.eq_iff_iff]; simp])
   ·exact ev_cast (Ev.neg h (Ev.now _)) (by rw [decide_eq_false h, Bool.false_and])
def lastF (p : ByteArray × ByteArray × Bool) (pa : ByteArray) : ByteArray × Int := if p.2.2 = true then (if p.1 = pa then (if p.2.1.size ≤ 64 then (p.2.1, 0) else (⟨#[]⟩, 7)) else (⟨#[]⟩, 7)) else (⟨#[]⟩, 7)
theorem last_inside {a b : T} (hw : Wf (.two .s a b)) (k pa : ByteArray) (hk : tm a = k) : lastF (textsT b) pa = match insideF k (tm (.two .s a b)) pa with | some c => (c, 0) | none => (⟨#[]⟩, 7) := by
 have hb := wf_right hw
 unfold insideF
 rw [term_tm hw]
 cases b with
 | atom n => rfl
 | text l => rfl
 | one k x => rfl
 | two kk x y =>
  cases kk with
  | s => rfl
  | b => rfl
  | g => rfl
  | p =>
   have hx := wf_left hb
   have hy := wf_right hb
   cases x with
   | text l =>
    cases y with
    | text m =>
     have w1 := words_tm hx
     have w2 := words_tm hy
     simp only at w1 w2
     rw [textsT_p]
     unfold lastF
     rw [w1, w2]
     simp only [decide_true, Bool.and_self, if_true]
     have hz : (ofBytes m).size = m.length := by rw [← bytes_length, bytes_ofBytes]
     by_cases h2 : ofBytes l = pa
     ·by_cases h3 : m.length ≤ 64
      ·rw [if_pos h2, if_pos (by omega), if_pos ⟨hk, h2, h3⟩]
      ·rw [if_pos h2, if_neg (by omega), if_neg (fun h => h3 h.2.2)]
     ·rw [if_neg h2, if_neg (fun h => h2 h.2.1)]
    | atom n => rw [textsT_p]; unfold lastF; rw [words_tm hx, words_tm hy]; rfl
    | one k z => rw [textsT_p]; unfold lastF; rw [words_tm hx, words_tm hy]; rfl
    | two k z u => rw [textsT_p]; unfold lastF; rw [words_tm hx, words_tm hy]; rfl
   | atom n => rw [textsT_p]; unfold lastF; rw [words_tm hx]; rfl
   | one k z => rw [textsT_p]; unfold lastF; rw [words_tm hx]; rfl
   | two k z u => rw [textsT_p]; unfold lastF; rw [words_tm hx]; rfl
theorem inside_ne {a b : T} (hw : Wf (.two .s a b)) (k pa : ByteArray) (hk : tm a ≠ k) : insideF k (tm (.two .s a b)) pa = none := by
 unfold insideF
 rw [term_tm hw]
 cases b with
 | atom n => rfl
 | text l => rfl
 | one k x => rfl
 | two kk x y =>
  cases kk with
  | s => rfl
  | b => rfl
  | g => rfl
  | p =>
   cases x with
   | text l =>
    cases y with
    | text m => simp only; rw [if_neg (fun h => hk h.1)]
    | atom n => rfl
    | one k z => rfl
    | two k z u => rfl
   | atom n => rfl
   | one k z => rfl
   | two k z u => rfl
theorem refRight9_call (b : Bl) (w : World) : Calls Tryz.prog 20 #[.agg #[.int .i64 b.e, .string b.s, .string b.g]] w fun e w' => e = .returned (.bool (rightBl b)) ∧ Below w.heap.size w w' := by
 obtain ⟨k, hk⟩ := ev_some (right9_ev b)
 exact letterlockref9_Right.calls k _ _ _ _ w hk
theorem refPut9_call (b : Bl) (w : World) : Calls Tryz.prog 12 #[.agg #[.int .i64 b.e, .string b.s, .string b.g]] w fun e w' => e = .returned (.tuple #[.string (putBl b).1, .int .i64 (putBl b).2]) ∧ Below w.heap.size w w' := by
 obtain ⟨k, hk⟩ := ev_some (put9_ev b)
 exact letterlockref9_Put.calls k _ _ _ _ _ w hk
end Go.Proofs.YtphehoidkmficaaGreatDoor.Ref
end
section

namespace Go.Proofs.YtphehoidkmficaaGreatDoor
open Go.RowKit Go.Proofs.YtphehoidkmficaaGreatDoorW.PrintWords Go.Proofs.YtphehoidkmficaaGreatDoorW.PrintLast Go.Proofs.YtphehoidkmficaaGreatDoor.Ref
set_option linter.unusedVariables false
set_option linter.unusedSimpArgs false
def hi : ByteArray := ⟨#[104, 105]⟩
theorem bl_at {w : World} {st sg pa ct : ByteArray} {e0 : Int} (hst : st.size ≤ 1000000) (hsg : sg.size ≤ 1000000) (hpa : pa.size ≤ 1000000) (HTB : Aside0 (Tabs w)) {R : Bl × Int} (hR : buildF st e0 sg pa ct = R) :
  ∀ W : World, Below w.heap.size w W → Calls Tryz.prog 15 #[.string st, .int .i64 e0, .string sg, .string pa, .string ct] W fun e w' => e = .returned (.tuple #[.agg #[.int .i64 R.1.e, .string R.1.s, .string R.1.g], .int .i64 R.2]) ∧ Below W.heap.size W w' :=
 fun W hb => hR ▸ build_call hst hsg hpa W ⟨HTB.out.below hb⟩
theorem op_at {b : Bl} {vs : List ByteArray} {st pa : ByteArray} {e0 : Int} {R : ByteArray × Int} (hR : openBl b vs st e0 pa = R) (hbs : b.s.size ≤ 1000000) (hbg : b.g.size ≤ 1000000) (hst : st.size ≤ 1000000) (hvs : ∀ v ∈ vs, v.size ≤ 1000000) (hl : vs.length ≤ 1000000) :
  ∀ (W : World) (A : Option Addr) (cap : Nat), vs.length ≤ cap → Kd.C Kd.string W A vs.length vs → Calls Tryz.prog 17 #[.agg #[.int .i64 b.e, .string b.s, .string b.g], .slice A vs.length cap, .string st, .int .i64 e0, .string pa] W fun e w' => e = .returned (.tuple #[.string R.1, .int .i64 R.2]) ∧ Below W.heap.size W w' :=
 fun W A cap hc h => hR ▸ open_bl_call A cap hbs hbg hst hvs hl hc W h
theorem st_small {r j : Nat} (hr : r < 1000) (hj : j ≤ 20) : (tm (hT j (rT r))).size ≤ 1000000 := by have := right_size (right_state hr hj); omega
theorem sg_small {i : Nat} (hi : i < 1000) : (tm (sT i)).size ≤ 1000000 := by have := right_size (right_sign hi); omega
theorem bl_small {i e r j : Nat} (hi : i < 1000) (he : e < 1000) (hr : r < 1000) (hj : j ≤ 7) {pa ct : Bs} (hp : pa.length ≤ 300) (hc : ct.length ≤ 64) : (tm (sealT r j pa ct)).size ≤ 1000000 ∧ (tm (sigT i e r j pa ct)).size ≤ 1000000 :=
 ⟨tm_small (wf_of (sealT_ok hr hj hp hc) (by omega) (by omega)), tm_small (wf_of (sigT_ok hi he hr hj hp hc) (by omega) (by omega))⟩
def sh9.T4 : Bool × List (List Nat × List Nat) := (true, [([], []), ([], []), ([], []), ([0, 1, 2, 1], [0, 1, 2]), ([3], [3]), ([4], [4]), ([4], [4]), ([5, 3, 0, 1, 2, 3, 4, 5], [5]), ([6, 7, 0, 1, 2, 3, 4, 5, 6, 7], [6])])
def sh9.B4 : List Nat := [0, 0, 0, 7, 15, 31, 31, 63, 255]
theorem sh9.tab4 : rtab .any (opsOf Tryz.f9 4) = sh9.T4 := by kernel_rfl
theorem sh9.bits4 : waitsOk sh9.T4.2 sh9.B4 = true := by kernel_rfl
set_option maxRecDepth 100000 in
set_option maxHeartbeats 4000000 in
theorem shown9_call (w : World) (HTB : Aside0 (Tabs w)) : Calls Tryz.prog 9 #[] w fun e w' => e = .returned (.bool true) ∧ Below w.heap.size w w' := by
 have hT0 := takeBl_call ⟨#[]⟩ (by decide)
 rw [take_empty] at hT0
 have HTK : Hid (∀ W : World, Calls Tryz.prog 13 #[.string ⟨#[]⟩] W fun e w' => e = .returned (.tuple #[.agg #[.int .i64 0, .string ⟨#[]⟩, .string ⟨#[]⟩], .int .i64 2]) ∧ Below W.heap.size W w') := Lib.hid hT0
 have hr0 := root_call 0 (by decide)
 rw [show pickN 0 5 = 0 from rfl] at hr0
 have HRT := Lib.hid hr0
 have HST := Lib.hid (fun W => state_call (r := 0) (e := 2) (by omega) (by omega) W)
 have HSG := Lib.hid (fun W => signer_call (i := 2) (by omega) W)
 have HBD := Lib.hid (bl_at (st_small (r := 0) (j := 7 - 2) (by omega) (by omega)) (sg_small (i := 2) (by omega)) (show notes.size ≤ 1000000 by decide) HTB (build_tm (i := 2) (e := 2) (r := 0) (j := 7 - 2) (pa := notes) (ct := hi) (by omega) (by omega) (by omega) (by omega) split_notes (by decide)))
 obtain ⟨z1, z2⟩ := bl_small (i := 2) (e := 2) (r := 0) (j := 7 - 2) (pa := bytes notes) (ct := bytes hi) (by omega) (by omega) (by omega) (by omega) (by decide) (by decide)
 have hop := open_tm (i := 2) (e := 2) (e' := 2) (i' := 2) (r := 0) (j := 7 - 2) (m := 7 - 2) (y := 2) (pa := bytes notes) (ct := bytes hi) (pa' := notes) (vs := pubs 3) (by omega) (by omega) (by omega) (by omega) (by omega) (by omega) (by omega) (by omega) (by decide) (by decide) (pubs_len 3) (pubs_getD (by omega))
 rw [if_pos ⟨by omega, rfl, rfl, by omega, ofBytes_bytes _⟩, ofBytes_bytes] at hop
 have HOP := Lib.hid (op_at hop z1 z2 (st_small (r := 0) (j := 7 - 2) (by omega) (by omega)) (pubs_small 3 (by omega)) (by rw [pubs_len]; omega))
 have HVR := Lib.hid (fun W => verifyOf_call (n := 2) (by omega) (by omega) (m := 3) (by omega) W)
 clear hT0 hr0 hop z1 z2 HTB
 unfold blT at HBD
 simp only at HBD HOP
 generalize tm (sealT 0 (7 - 2) (bytes notes) (bytes hi)) = sl at *
 generalize tm (sigT 2 2 0 (7 - 2) (bytes notes) (bytes hi)) = sg at *
 generalize tm (hT (7 - 2) (rT 0)) = st at *
 generalize tm (sT 2) = s2 at *
 generalize tm (rT 0) = rt at *
 generalize pubs 3 = vs at *
 have HB := Lib.hid (Below.refl w.heap.size w)
 go_enter Tryz.func9, Tryz.ntmps9
 go_wp2_with fail
 refine (HTK.out _).mono ?_
 rintro e W1 ⟨rfl, hb0⟩
 have hb := hb0
 replace HB := Lib.hid (below_step HB.out hb)
 clear hb hb0
 go_wp2_with fail
 refine (HRT.out _).mono ?_
 rintro e W2 ⟨rfl, hb0⟩
 have hb := below_step (below_alloc (Below.refl _ _) _) hb0
 replace HB := Lib.hid (below_step HB.out hb)
 have HXt := Lib.hid (blk_below (blk_new W1 (.cells #[.int .i64 0, .string ⟨#[]⟩, .string ⟨#[]⟩] 23)) hb0)
 clear hb hb0
 go_wp2_with fail
 refine (HST.out _).mono ?_
 rintro e W3 ⟨rfl, hb0⟩
 have hb := hb0
 replace HB := Lib.hid (below_step HB.out hb)
 replace HXt := Lib.hid (blk_below HXt.out hb)
 clear hb hb0
 go_wp2_with fail
 refine (HSG.out _).mono ?_
 rintro e W4 ⟨rfl, hb0⟩
 have hb := hb0
 replace HB := Lib.hid (below_step HB.out hb)
 replace HXt := Lib.hid (blk_below HXt.out hb)
 clear hb hb0
 go_wp2_with fail
 refine (HBD.out _ HB.out).mono ?_
 rintro e W5 ⟨rfl, hb0⟩
 have hb := hb0
 replace HB := Lib.hid (below_step HB.out hb)
 replace HXt := Lib.hid (blk_below HXt.out hb)
 clear hb hb0
 go_wp2_with fail
 have hb0 : Below (W5.alloc (.cells #[.int .i64 2, .string sl, .string sg] 23)).heap.size (W5.alloc (.cells #[.int .i64 2, .string sl, .string sg] 23)) (W5.alloc (.cells #[.int .i64 2, .string sl, .string sg] 23)).drew := below_drew (Below.refl _ _)
 have hb := below_step (below_alloc (Below.refl _ _) _) hb0
 replace HB := Lib.hid (below_step HB.out hb)
 replace HXt := Lib.hid (blk_below HXt.out hb)
 have HXb := Lib.hid (blk_below (blk_new W5 (.cells #[.int .i64 2, .string sl, .string sg] 23)) hb0)
 clear hb hb0
 refine start_ (n := 9) (S := fun w' => w'.cell? ⟨W5.heap.size, 0, none⟩ = some (.int .i64 2) ∧ w'.cell? ⟨W5.heap.size, 1, none⟩ = some (.string sl) ∧ w'.cell? ⟨W5.heap.size, 2, none⟩ = some (.string sg)) (ds := []) #[false, false, false, false, false, false, false, false, false] (by kernel_rfl) rfl rfl ⟨(cell_of_blk HXb.out rfl), (cell_of_blk HXb.out rfl), (cell_of_blk HXb.out rfl)⟩ (fun hHeld => ?_)
 refine with_tabW sh9.tab4 sh9.bits4 (fun HT_ HW_ => ?_)
 refine pure_ (i := 2) (N := some 27) (v := ?_) (a' := ?_) #[false, false, true, false, false, false, false, false, false] rfl rfl (any_of HT_.out (by kernel_rfl)) (fun _ _ _ h => h) (Or.inl ⟨by rfl, ?_⟩) ?_ ?_
 rotate_left
 ·intro w'
  go_simp
  with_reducible rfl
 rotate_left
 ·simp only [Act.put, List.setIfInBounds_toArray, List.set_cons_zero, List.set_cons_succ, i64_w, i32_w]
  rfl
 refine take_ (i := 0) (N := some 25) (v := ?_) (a' := ?_) #[true, false, true, false, false, false, false, false, false] rfl rfl (take_ofW HT_.out HW_.out (by kernel_rfl)) (fun _ _ _ h => h) (Or.inl ⟨by rfl, ?_⟩) hHeld ?_ ?_
 rotate_left
 ·rintro w' ⟨s0, s1, s2⟩
  go_simp
  with_reducible rfl
 rotate_left
 ·simp only [Act.put, List.setIfInBounds_toArray, List.set_cons_zero, List.set_cons_succ, i64_w, i32_w]
  rfl
 refine one_ (i := 1) (N := some 26) #[true, true, true, false, false, false, false, false, false] rfl rfl (one_of HT_.out (by kernel_rfl)) (by decide) (fun K hK => ?_)
 refine goes_ Tryz.func35 (by kernel_rfl) rfl #[.int .i64 2] (by rfl) rfl rfl (by simp only [List.map_toArray, List.map_cons, List.map_nil]; rfl) ?_
 refine (HVR.out _).mono ?_
 rintro e W6 ⟨vv, rfl, hr, hb0⟩
 refine ⟨_, rfl, ?_⟩
 have hb := hb0
 replace HB := Lib.hid (below_step HB.out hb)
 replace HXt := Lib.hid (blk_below HXt.out hb)
 replace HXb := Lib.hid (blk_below HXb.out hb)
 clear hb hb0
 obtain ⟨Av, cv, rfl⟩ := Kd.R_slice hr
 have hcv := (Kd.R_reads' hr).2.1
 have HVv := Lib.hid (Kd.R_reads' hr).2.2
 clear hr
 refine hK.out _ _ ⟨(cell_of_blk HXb.out rfl), (cell_of_blk HXb.out rfl), (cell_of_blk HXb.out rfl)⟩ (fun hHeld => ?_)
 clear hK K
 refine norm_ (a' := ?_) ?_ ?_
 rotate_left
 ·show Act.put _ (some 26) _ = _
  simp only [Act.put, List.setIfInBounds_toArray, List.set_cons_zero, List.set_cons_succ, i64_w, i32_w]
  rfl
 refine one_ (i := 3) (N := some 28) #[true, true, true, true, false, false, false, false, false] rfl rfl (one_of HT_.out (by kernel_rfl)) (by decide) (fun K hK => ?_)
 refine goes_ Tryz.func17 (by kernel_rfl) rfl #[.agg #[.int .i64 2, .string sl, .string sg], .slice Av vs.length cv, .string st, .int .i64 2, .string ⟨#[97, 110, 110, 97, 47, 110, 111, 116, 101, 115]⟩] (by rfl) rfl rfl (by simp only [List.map_toArray, List.map_cons, List.map_nil]; rfl) ?_
 refine (HOP.out _ _ _ hcv HVv.out).mono ?_
 rintro e W7 ⟨rfl, hb0⟩
 refine ⟨_, rfl, ?_⟩
 have hb := hb0
 replace HB := Lib.hid (below_step HB.out hb)
 replace HXt := Lib.hid (blk_below HXt.out hb)
 replace HXb := Lib.hid (blk_below HXb.out hb)
 replace HVv := Lib.hid (Kd.C_below HVv.out hb)
 clear hb hb0
 refine hK.out _ _ ⟨(cell_of_blk HXb.out rfl), (cell_of_blk HXb.out rfl), (cell_of_blk HXb.out rfl)⟩ (fun hHeld => ?_)
 clear hK K
 refine norm_ (a' := ?_) ?_ ?_
 rotate_left
 ·show Act.put _ (some 28) _ = _
  simp only [Act.put, List.setIfInBounds_toArray, List.set_cons_zero, List.set_cons_succ, i64_w, i32_w]
  rfl
 refine pure_ (i := 4) (N := some 24) (v := ?_) (a' := ?_) #[true, true, true, true, true, false, false, false, false] rfl rfl (any_of HT_.out (by kernel_rfl)) (fun _ _ _ h => h) (Or.inl ⟨by rfl, ?_⟩) ?_ ?_
 rotate_left
 ·intro w'
  go_simp
  with_reducible rfl
 rotate_left
 ·simp only [Act.put, List.setIfInBounds_toArray, List.set_cons_zero, List.set_cons_succ, i64_w, i32_w]
  rfl
 refine pure_ (i := 5) (N := some 29) (v := ?_) (a' := ?_) #[true, true, true, true, true, true, false, false, false] rfl rfl (any_of HT_.out (by kernel_rfl)) (fun _ _ _ h => h) (Or.inl ⟨by rfl, ?_⟩) ?_ ?_
 rotate_left
 ·intro w'
  go_simp
  with_reducible rfl
 rotate_left
 ·simp only [Act.put, List.setIfInBounds_toArray, List.set_cons_zero, List.set_cons_succ, i64_w, i32_w]
  rfl
 refine pure_ (i := 6) (N := some 30) (v := ?_) (a' := ?_) #[true, true, true, true, true, true, true, false, false] rfl rfl (any_of HT_.out (by kernel_rfl)) (fun _ _ _ h => h) (Or.inl ⟨by rfl, ?_⟩) ?_ ?_
 rotate_left
 ·intro w'
  go_simp
  with_reducible rfl
 rotate_left
 ·simp only [Act.put, List.setIfInBounds_toArray, List.set_cons_zero, List.set_cons_succ, i64_w, i32_w]
  rfl
 refine pure_ (i := 7) (N := some 7) (v := ?_) (a' := ?_) #[true, true, true, true, true, true, true, true, false] rfl rfl (any_of HT_.out (by kernel_rfl)) (fun _ _ _ h => h) (Or.inl ⟨by rfl, ?_⟩) ?_ ?_
 rotate_left
 ·intro w'
  go_simp
  with_reducible rfl
 rotate_left
 ·simp only [Act.put, List.setIfInBounds_toArray, List.set_cons_zero, List.set_cons_succ, i64_w, i32_w]
  rfl
 refine pure_ (i := 8) (N := some 8) (v := ?_) (a' := ?_) #[true, true, true, true, true, true, true, true, true] rfl rfl (any_of HT_.out (by kernel_rfl)) (fun _ _ _ h => h) (Or.inl ⟨by rfl, ?_⟩) ?_ ?_
 rotate_left
 ·intro w'
  go_simp
  with_reducible rfl
 rotate_left
 ·simp only [Act.put, List.setIfInBounds_toArray, List.set_cons_zero, List.set_cons_succ, i64_w, i32_w]
  rfl
 refine done_ (done_of HT_.out (by kernel_rfl)) ?_
 clear HT_
 go_wp2
 go_ret
 refine ⟨?_, HB.out⟩
 show Ending.returned (.bool (hi.toList == [104, 105])) = _
 rw [bytes_toList]
 rfl
end Go.Proofs.YtphehoidkmficaaGreatDoor
end
section

namespace Go.Proofs.YtphehoidkmficaaGreatDoor
open Go.RowKit Go.Proofs.YtphehoidkmficaaGreatDoorW.PrintWords Go.Proofs.YtphehoidkmficaaGreatDoorW.PrintLast Go.Proofs.YtphehoidkmficaaGreatDoor.Ref
set_option linter.unusedVariables false
set_option linter.unusedSimpArgs false
structure Ky where
 pa : ByteArray
 e : Int
 st : ByteArray
 sg : ByteArray
 vs : List ByteArray
def ropenF (k : Ky) (blob : ByteArray) : ByteArray × Int := if (takeBl blob).2 = 0 then openBl (takeBl blob).1 k.vs k.st k.e k.pa else (⟨#[]⟩, (takeBl blob).2)
def rsealF (k : Ky) (ct : ByteArray) : ByteArray × Int :=
 if k.sg = ⟨#[]⟩ then (⟨#[]⟩, 6) else if (buildF k.st k.e k.sg k.pa ct).2 = 0 then putBl (buildF k.st k.e k.sg k.pa ct).1 else (⟨#[]⟩, (buildF k.st k.e k.sg k.pa ct).2)
def behindF (k : Ky) (blob : ByteArray) : Bool := decide ((ropenF k blob).2 = 0) && decide ((takeBl blob).1.e < k.e)
theorem take_size (blob : ByteArray) : (takeBl blob).1.s.size ≤ 1000000 ∧ (takeBl blob).1.g.size ≤ 1000000 := by
 rcases take_bl_codes blob with h | h
 ·obtain ⟨_, h1, h2⟩ := rightBl_inv (take_bl_inv h).1
  have h3 := right_kind h1 (by decide)
  have h4 := right_kind h2 (by decide)
  omega
 ·rw [h]; exact ⟨by decide, by decide⟩
set_option maxRecDepth 100000 in
set_option maxHeartbeats 2000000 in
theorem ropen_call {k : Ky} (A : Option Addr) (c : Nat) (blob : ByteArray) (hz : blob.size ≤ 1000000) (hst : k.st.size ≤ 1000000) (hvs : ∀ v ∈ k.vs, v.size ≤ 1000000) (hl : k.vs.length ≤ 1000000) (hc : k.vs.length ≤ c) (w : World) (hC : Kd.C Kd.string w A k.vs.length k.vs) :
  Calls Tryz.prog 25 #[.agg #[.string k.pa, .int .i64 k.e, .string k.st, .string k.sg, .slice A k.vs.length c], .string blob] w fun e w' => e = .returned (.tuple #[.string (ropenF k blob).1, .int .i64 (ropenF k blob).2]) ∧ Below w.heap.size w w' := by
 obtain ⟨z1, z2⟩ := take_size blob
 have HTK := Lib.hid (takeBl_call blob hz)
 obtain ⟨R, hR⟩ : ∃ R, ropenF k blob = R := ⟨_, rfl⟩
 have HV := Lib.hid hR
 rw [hR]
 clear hR
 unfold ropenF at HV
 have HOP : Hid (∀ W : World, Kd.C Kd.string W A k.vs.length k.vs → Calls Tryz.prog 17 #[.agg #[.int .i64 (takeBl blob).1.e, .string (takeBl blob).1.s, .string (takeBl blob).1.g], .slice A k.vs.length c, .string k.st, .int .i64 k.e, .string k.pa] W fun e w' => e = .returned (.tuple #[.string (openBl (takeBl blob).1 k.vs k.st k.e k.pa).1, .int .i64 (openBl (takeBl blob).1 k.vs k.st k.e k.pa).2]) ∧ Below W.heap.size W w') :=
  Lib.hid (fun W h => open_bl_call A c z1 z2 hst hvs hl hc W h)
 have HCC := Lib.hid hC
 generalize takeBl blob = B at *
 clear z1 z2 hvs hC
 go_enter Tryz.func25, Tryz.ntmps25
 go_wp2_with fail
 refine (HTK.out _).mono ?_
 rintro e w1 ⟨rfl, hb⟩
 have HK : Hid (w1.heap[w.heap.size]? = some (.cells #[.string k.pa, .int .i64 k.e, .string k.st, .string k.sg, .slice A k.vs.length c] 45 (0, 0))) := Lib.hid (blk_below (blk_new _ _) hb)
 have HB : Hid (Below w.heap.size w w1) := Lib.hid (below_step (w := w) (below_alloc (Below.refl _ _) _) hb)
 clear hb HTK
 by_cases q : B.2 = 0
 rotate_left
 ·have t : (B.2 != 0) = true := by rw [bne_iff_ne]; exact q
  obtain rfl : R = (⟨#[]⟩, B.2) := by rw [← HV.out, if_neg q]
  go_wp2
  go_ret2
  exact ⟨rfl, below_alloc HB.out _⟩
 have t : (B.2 != 0) = false := by rw [q]; rfl
 obtain rfl : R = openBl B.1 k.vs k.st k.e k.pa := by rw [← HV.out, if_pos q]
 have x0 := cell_of_blk (j := 0) (v := .string k.pa) (blk_alloc HK.out (.cells #[.int .i64 B.1.e, .string B.1.s, .string B.1.g] 23)) rfl
 have x1 := cell_of_blk (j := 1) (v := .int .i64 k.e) (blk_alloc HK.out (.cells #[.int .i64 B.1.e, .string B.1.s, .string B.1.g] 23)) rfl
 have x2 := cell_of_blk (j := 2) (v := .string k.st) (blk_alloc HK.out (.cells #[.int .i64 B.1.e, .string B.1.s, .string B.1.g] 23)) rfl
 have x4 := cell_of_blk (j := 4) (v := .slice A k.vs.length c) (blk_alloc HK.out (.cells #[.int .i64 B.1.e, .string B.1.s, .string B.1.g] 23)) rfl
 go_wp2_with fail
 refine (HOP.out _ (Kd.C_below HCC.out (below_alloc HB.out _))).mono ?_
 rintro e w2 ⟨rfl, hb⟩
 have HB2 := Lib.hid (below_step (below_alloc HB.out _) hb)
 clear hb x0 x1 x2 x4
 go_wp2
 go_ret2
 exact ⟨rfl, HB2.out⟩
theorem ofF_le (k : ByteArray) (l : List ByteArray) : (ofF k l).1.size ≤ 4000 := ofF_size _ _
theorem build_le (st sg pa ct : ByteArray) (e : Int) : (buildF st e sg pa ct).1.s.size ≤ 1000000 ∧ (buildF st e sg pa ct).1.g.size ≤ 1000000 := by
 have h0 : noBl.s.size ≤ 1000000 ∧ noBl.g.size ≤ 1000000 := ⟨by decide, by decide⟩
 unfold buildF
 split
 ·split
  ·unfold builtF
   split
   ·split
    ·split
     ·split
      ·have h1 := ofF_le (⟨#[115]⟩ : ByteArray) [(keyF st).1, bodyF pa ct]
       have h2 := ofF_le (⟨#[103]⟩ : ByteArray) [sg, (signedF e (sealF (keyF st).1 (bodyF pa ct)).1).1]
       unfold sealF signF at *
       simp only
       omega
      ·exact h0
     ·exact h0
    ·exact h0
   ·exact h0
  ·exact h0
 ·exact h0
theorem tl_empty (s : ByteArray) : (s.toList == []) = decide (s = ⟨#[]⟩) := by
 rw [bytes_toList]
 by_cases h : s = ⟨#[]⟩
 ·subst h; rfl
 ·rw [decide_eq_false h, beq_eq_false_iff_ne]
  intro hh
  exact h (bs_inj (by rw [hh]; rfl))
set_option maxRecDepth 100000 in
set_option maxHeartbeats 2000000 in
theorem sealed_call {k : Ky} (A : Option Addr) (n c : Nat) (ct : ByteArray) (hst : k.st.size ≤ 1000000) (hsg : k.sg.size ≤ 1000000) (hpa : k.pa.size ≤ 1000000) (w : World) (HTB : Aside0 (Tabs w)) :
  Calls Tryz.prog 80 #[.agg #[.string k.pa, .int .i64 k.e, .string k.st, .string k.sg, .slice A n c], .string ct] w fun e w' => e = .returned (.agg #[.string (rsealF k ct).1, .int .i64 (rsealF k ct).2]) ∧ Below w.heap.size w w' := by
 obtain ⟨pa, e0, st, sg, vs⟩ := k
 simp only at hst hsg hpa
 obtain ⟨R, hR⟩ : ∃ R, rsealF ⟨pa, e0, st, sg, vs⟩ ct = R := ⟨_, rfl⟩
 have HV := Lib.hid hR
 rw [hR]
 clear hR
 unfold rsealF at HV
 simp only at HV ⊢
 obtain ⟨z1, z2⟩ := build_le st sg pa ct e0
 have HBD : Hid (∀ W : World, Below w.heap.size w W → Calls Tryz.prog 15 #[.string st, .int .i64 e0, .string sg, .string pa, .string ct] W fun e w' => e = .returned (.tuple #[.agg #[.int .i64 (buildF st e0 sg pa ct).1.e, .string (buildF st e0 sg pa ct).1.s, .string (buildF st e0 sg pa ct).1.g], .int .i64 (buildF st e0 sg pa ct).2]) ∧ Below W.heap.size W w') := Lib.hid (fun W hb => build_call hst hsg hpa W ⟨HTB.out.below hb⟩)
 have HPT : Hid _ := Lib.hid (putBl_call (buildF st e0 sg pa ct).1 z1 z2)
 generalize buildF st e0 sg pa ct = D at *
 clear z1 z2 hst hsg hpa HTB
 have HK : Hid (((w.alloc (.cells #[.string pa, .int .i64 e0, .string st, .string sg, .slice A n c] 45)).alloc (.cells #[.string ⟨#[]⟩, .int .i64 0] 90)).heap[w.heap.size]? = some (.cells #[.string pa, .int .i64 e0, .string st, .string sg, .slice A n c] 45 (0, 0))) := Lib.hid (wkeep (wnew w _) _)
 have hr := wnew (w.alloc (.cells #[.string pa, .int .i64 e0, .string st, .string sg, .slice A n c] 45)) (.cells #[.string ⟨#[]⟩, .int .i64 0] 90)
 rw [show (w.alloc (.cells #[.string pa, .int .i64 e0, .string st, .string sg, .slice A n c] 45)).heap.size = w.heap.size + 1 from by simp] at hr
 have HR := Lib.hid hr
 have HB : Hid (Below w.heap.size w ((w.alloc (.cells #[.string pa, .int .i64 e0, .string st, .string sg, .slice A n c] 45)).alloc (.cells #[.string ⟨#[]⟩, .int .i64 0] 90))) := Lib.hid (below_alloc (below_alloc (Below.refl _ _) _) _)
 clear hr
 have t0 := tl_empty sg
 by_cases q : sg = ⟨#[]⟩
 ·skip
  rw [decide_eq_true q] at t0
  obtain rfl : R = (⟨#[]⟩, 6) := by rw [← HV.out, if_pos q]
  subst q
  have x0 := cell_of_blk (j := 0) (v := .string pa) (HK.out) rfl
  have x1 := cell_of_blk (j := 1) (v := .int .i64 e0) (HK.out) rfl
  have x2 := cell_of_blk (j := 2) (v := .string st) (HK.out) rfl
  have x3 := cell_of_blk (j := 3) (v := .string ⟨#[]⟩) (HK.out) rfl
  have x4 := cell_of_blk (j := 4) (v := .slice A n c) (HK.out) rfl
  go_enter Tryz.func80, Tryz.ntmps80
  go_wp2_with fail
  refine (ofS_call _ _ _).mono ?_
  rintro e w1 ⟨rfl, hb⟩
  replace HR := Lib.hid (blk_below HR.out hb)
  replace HB := Lib.hid (below_step HB.out hb)
  clear hb
  clear x0 x1 x2 x3 x4
  have c0 := cell_of_blk (j := 0) (v := .string ⟨#[]⟩) HR.out rfl
  have c1 := cell_of_blk (j := 1) (v := .int .i64 0) HR.out rfl
  have z0 := free_of_blk (j := 0) HR.out
  have z1 := free_of_blk (j := 1) HR.out
  obtain ⟨hblk, hbe⟩ := put2 HB.out HR.out (by omega) (.string ⟨#[]⟩) (.int .i64 6)
  go_wp2
  refine bodyPost_ret (results_cell_row rfl _ _ (w.heap.size + 1) 90 _ (0, 0) _ rfl hblk Tryz.underlying90 rfl (by kernel_rfl)) rfl ?_
  exact ⟨rfl, hbe⟩
 ·skip
  rw [decide_eq_false q] at t0
  rw [if_neg q] at HV
  have x0 := cell_of_blk (j := 0) (v := .string pa) (HK.out) rfl
  have x1 := cell_of_blk (j := 1) (v := .int .i64 e0) (HK.out) rfl
  have x2 := cell_of_blk (j := 2) (v := .string st) (HK.out) rfl
  have x3 := cell_of_blk (j := 3) (v := .string sg) (HK.out) rfl
  have x4 := cell_of_blk (j := 4) (v := .slice A n c) (HK.out) rfl
  go_enter Tryz.func80, Tryz.ntmps80
  go_wp2_with fail
  refine (HBD.out _ HB.out).mono ?_
  rintro e w1 ⟨rfl, hb⟩
  replace HR := Lib.hid (blk_below HR.out hb)
  replace HB := Lib.hid (below_step HB.out hb)
  clear hb
  clear x0 x1 x2 x3 x4
  go_wp2_with fail
  refine (ofB_call _ _ _ _ _).mono ?_
  rintro e w2 ⟨rfl, hb⟩
  replace HR := Lib.hid (blk_below HR.out hb)
  replace HB := Lib.hid (below_step HB.out hb)
  clear hb
  go_wp2_with fail
  refine (thenBS_call _ _ _ _ (putBl D.1).1 (putBl D.1).2 _ (fun _ W _ => HPT.out W)).mono ?_
  rintro e w3 ⟨rfl, hb⟩
  replace HR := Lib.hid (blk_below HR.out hb)
  replace HB := Lib.hid (below_step HB.out hb)
  clear hb
  by_cases q2 : D.2 = 0
  ·rw [if_pos q2, if_pos q2]
   obtain rfl : R = putBl D.1 := by rw [← HV.out, if_pos q2]
   have c0 := cell_of_blk (j := 0) (v := .string ⟨#[]⟩) HR.out rfl
   have c1 := cell_of_blk (j := 1) (v := .int .i64 0) HR.out rfl
   have z0 := free_of_blk (j := 0) HR.out
   have z1 := free_of_blk (j := 1) HR.out
   obtain ⟨hblk, hbe⟩ := put2 HB.out HR.out (by omega) (.string (putBl D.1).1) (.int .i64 (putBl D.1).2)
   go_wp2
   refine bodyPost_ret (results_cell_row rfl _ _ (w.heap.size + 1) 90 _ (0, 0) _ rfl hblk Tryz.underlying90 rfl (by kernel_rfl)) rfl ?_
   exact ⟨rfl, hbe⟩
  ·rw [if_neg q2, if_neg q2]
   obtain rfl : R = (⟨#[]⟩, D.2) := by rw [← HV.out, if_neg q2]
   have c0 := cell_of_blk (j := 0) (v := .string ⟨#[]⟩) HR.out rfl
   have c1 := cell_of_blk (j := 1) (v := .int .i64 0) HR.out rfl
   have z0 := free_of_blk (j := 0) HR.out
   have z1 := free_of_blk (j := 1) HR.out
   obtain ⟨hblk, hbe⟩ := put2 HB.out HR.out (by omega) (.string ⟨#[]⟩) (.int .i64 D.2)
   go_wp2
   refine bodyPost_ret (results_cell_row rfl _ _ (w.heap.size + 1) 90 _ (0, 0) _ rfl hblk Tryz.underlying90 rfl (by kernel_rfl)) rfl ?_
   exact ⟨rfl, hbe⟩
def wsl.T2 : Bool × List (List Nat × List Nat) := (true, [([], []), ([0], [0]), ([], []), ([2], [2]), ([1, 0, 1], [1]), ([3, 4, 0, 1, 2, 3, 4], [3])])
def wsl.B2 : List Nat := [0, 1, 0, 4, 3, 31]
theorem wsl.tab2 : rtab .any (opsOf Tryz.f24 2) = wsl.T2 := by kernel_rfl
theorem wsl.bits2 : waitsOk wsl.T2.2 wsl.B2 = true := by kernel_rfl
set_option maxRecDepth 100000 in
set_option maxHeartbeats 2000000 in
theorem seal9_call {k : Ky} (A : Option Addr) (n c : Nat) (ct : ByteArray) (hst : k.st.size ≤ 1000000) (hsg : k.sg.size ≤ 1000000) (hpa : k.pa.size ≤ 1000000) (w : World) (HTB : Aside0 (Tabs w)) :
  Calls Tryz.prog 24 #[.agg #[.string k.pa, .int .i64 k.e, .string k.st, .string k.sg, .slice A n c], .string ct] w fun e w' => e = .returned (.tuple #[.string (rsealF k ct).1, .int .i64 (rsealF k ct).2]) ∧ Below w.heap.size w w' := by
 have HS := Lib.hid (fun (W : World) (hb : Below w.heap.size w W) => sealed_call A n c ct hst hsg hpa W ⟨HTB.out.below hb⟩)
 generalize rsealF k ct = R at *
 obtain ⟨pa, e0, st, sg, vs⟩ := k
 simp only at hst hsg hpa HS ⊢
 clear hst hsg hpa HTB
 have HB : Hid (Below w.heap.size w (w.alloc (.cells #[.string pa, .int .i64 e0, .string st, .string sg, .slice A n c] 45))) := Lib.hid (below_alloc (Below.refl _ _) _)
 have x0 := cell_of_blk (j := 0) (v := .string pa) (wnew w (.cells #[.string pa, .int .i64 e0, .string st, .string sg, .slice A n c] 45)) rfl
 have x1 := cell_of_blk (j := 1) (v := .int .i64 e0) (wnew w (.cells #[.string pa, .int .i64 e0, .string st, .string sg, .slice A n c] 45)) rfl
 have x2 := cell_of_blk (j := 2) (v := .string st) (wnew w (.cells #[.string pa, .int .i64 e0, .string st, .string sg, .slice A n c] 45)) rfl
 have x3 := cell_of_blk (j := 3) (v := .string sg) (wnew w (.cells #[.string pa, .int .i64 e0, .string st, .string sg, .slice A n c] 45)) rfl
 have x4 := cell_of_blk (j := 4) (v := .slice A n c) (wnew w (.cells #[.string pa, .int .i64 e0, .string st, .string sg, .slice A n c] 45)) rfl
 go_enter Tryz.func24, Tryz.ntmps24
 go_wp2_with fail
 refine (HS.out _ HB.out).mono ?_
 rintro e w1 ⟨rfl, hb⟩
 replace HB := Lib.hid (below_step HB.out hb)
 clear hb
 clear x0 x1 x2 x3 x4
 go_wp2_with fail
 have hb0 : Below (w1.alloc (.cells #[.string R.1, .int .i64 R.2] 90)).heap.size (w1.alloc (.cells #[.string R.1, .int .i64 R.2] 90)) (w1.alloc (.cells #[.string R.1, .int .i64 R.2] 90)).drew := below_drew (Below.refl _ _)
 have hb := below_step (below_alloc (Below.refl _ _) _) hb0
 replace HB := Lib.hid (below_step HB.out hb)
 have HXr := Lib.hid (blk_below (blk_new w1 (.cells #[.string R.1, .int .i64 R.2] 90)) hb0)
 clear hb hb0
 refine start_ (n := 6) (S := fun w' => w'.cell? ⟨w1.heap.size, 0, none⟩ = some (.string R.1) ∧ w'.cell? ⟨w1.heap.size, 1, none⟩ = some (.int .i64 R.2)) (ds := []) #[false, false, false, false, false, false] (by kernel_rfl) rfl rfl ⟨(cell_of_blk HXr.out rfl), (cell_of_blk HXr.out rfl)⟩ (fun hHeld => ?_)
 refine with_tabW wsl.tab2 wsl.bits2 (fun HT_ HW_ => ?_)
 refine pure_ (i := 0) (N := some 10) (v := ?_) (a' := ?_) #[true, false, false, false, false, false] rfl rfl (any_of HT_.out (by kernel_rfl)) (fun _ _ _ h => h) (Or.inl ⟨by rfl, ?_⟩) ?_ ?_
 rotate_left
 ·intro w'
  go_simp
  with_reducible rfl
 rotate_left
 ·simp only [Act.put, List.setIfInBounds_toArray, List.set_cons_zero, List.set_cons_succ, i64_w, i32_w]
  rfl
 refine pure_ (i := 2) (N := some 12) (v := ?_) (a' := ?_) #[true, false, true, false, false, false] rfl rfl (any_of HT_.out (by kernel_rfl)) (fun _ _ _ h => h) (Or.inl ⟨by rfl, ?_⟩) ?_ ?_
 rotate_left
 ·intro w'
  go_simp
  with_reducible rfl
 rotate_left
 ·simp only [Act.put, List.setIfInBounds_toArray, List.set_cons_zero, List.set_cons_succ, i64_w, i32_w]
  rfl
 refine take_ (i := 1) (N := some 11) (v := ?_) (a' := ?_) #[true, true, true, false, false, false] rfl rfl (take_ofW HT_.out HW_.out (by kernel_rfl)) (fun _ _ _ h => h) (Or.inl ⟨by rfl, ?_⟩) hHeld ?_ ?_
 rotate_left
 ·rintro w' ⟨s0, s1⟩
  go_simp
  with_reducible rfl
 rotate_left
 ·simp only [Act.put, List.setIfInBounds_toArray, List.set_cons_zero, List.set_cons_succ, i64_w, i32_w]
  rfl
 refine pure_ (i := 4) (N := some 4) (v := ?_) (a' := ?_) #[true, true, true, false, true, false] rfl rfl (any_of HT_.out (by kernel_rfl)) (fun _ _ _ h => h) (Or.inl ⟨by rfl, ?_⟩) ?_ ?_
 rotate_left
 ·intro w'
  go_simp
  with_reducible rfl
 rotate_left
 ·simp only [Act.put, List.setIfInBounds_toArray, List.set_cons_zero, List.set_cons_succ, i64_w, i32_w]
  rfl
 refine take_ (i := 3) (N := some 13) (v := ?_) (a' := ?_) #[true, true, true, true, true, false] rfl rfl (take_ofW HT_.out HW_.out (by kernel_rfl)) (fun _ _ _ h => h) (Or.inl ⟨by rfl, ?_⟩) hHeld ?_ ?_
 rotate_left
 ·rintro w' ⟨s0, s1⟩
  go_simp
  with_reducible rfl
 rotate_left
 ·simp only [Act.put, List.setIfInBounds_toArray, List.set_cons_zero, List.set_cons_succ, i64_w, i32_w]
  rfl
 refine pure_ (i := 5) (N := some 5) (v := ?_) (a' := ?_) #[true, true, true, true, true, true] rfl rfl (any_of HT_.out (by kernel_rfl)) (fun _ _ _ h => h) (Or.inl ⟨by rfl, ?_⟩) ?_ ?_
 rotate_left
 ·intro w'
  go_simp
  with_reducible rfl
 rotate_left
 ·simp only [Act.put, List.setIfInBounds_toArray, List.set_cons_zero, List.set_cons_succ, i64_w, i32_w]
  rfl
 refine done_ (done_of HT_.out (by kernel_rfl)) ?_
 clear HT_
 go_wp2
 go_ret2
 exact ⟨rfl, HB.out⟩
set_option maxRecDepth 100000 in
set_option maxHeartbeats 2000000 in
theorem behind1_call {k : Ky} (A : Option Addr) (n c : Nat) (s blob : ByteArray) (bb bk : Nat) (hz : blob.size ≤ 1000000) (w : World) (h1 : w.heap[bb]? = some (.cells #[.string blob] 9 (0, 0))) (h2 : w.heap[bk]? = some (.cells #[.string k.pa, .int .i64 k.e, .string k.st, .string k.sg, .slice A n c] 45 (0, 0))) :
  Calls Tryz.prog 83 #[.string s, .pointer (some ⟨bb, 0, none⟩), .pointer (some ⟨bk, 0, none⟩)] w fun e w' => e = .returned (.tuple #[.bool (decide ((takeBl blob).1.e < k.e)), .int .i64 (takeBl blob).2]) ∧ Below w.heap.size w w' := by
 have HTK := Lib.hid (takeBl_call blob hz)
 have HB := Lib.hid (Below.refl w.heap.size w)
 have HK := Lib.hid h2
 have x := cell_of_blk (j := 0) (v := .string blob) h1 rfl
 clear h1 h2 hz
 generalize takeBl blob = B at *
 go_enter Tryz.func83, Tryz.ntmps83
 go_wp2_with fail
 refine (HTK.out _).mono ?_
 rintro e w1 ⟨rfl, hb⟩
 replace HK := Lib.hid (blk_below HK.out hb)
 replace HB := Lib.hid (below_step HB.out hb)
 clear hb
 clear x
 have y := cell_of_blk (j := 1) (v := .int .i64 k.e) (blk_alloc HK.out (.cells #[.int .i64 B.1.e, .string B.1.s, .string B.1.g] 23)) rfl
 go_wp2
 go_ret2
 exact ⟨rfl, below_alloc HB.out _⟩
set_option maxRecDepth 100000 in
set_option maxHeartbeats 2000000 in
theorem renew1_call {k : Ky} (A : Option Addr) (n c : Nat) (ct : ByteArray) (bk : Nat) (hst : k.st.size ≤ 1000000) (hsg : k.sg.size ≤ 1000000) (hpa : k.pa.size ≤ 1000000) (w : World) (HTB : Aside0 (Tabs w)) (h2 : w.heap[bk]? = some (.cells #[.string k.pa, .int .i64 k.e, .string k.st, .string k.sg, .slice A n c] 45 (0, 0))) :
  Calls Tryz.prog 85 #[.string ct, .pointer (some ⟨bk, 0, none⟩)] w fun e w' => e = .returned (.tuple #[.string (rsealF k ct).1, .int .i64 (rsealF k ct).2]) ∧ Below w.heap.size w w' := by
 have HS := Lib.hid (seal9_call A n c ct hst hsg hpa w HTB)
 have HB := Lib.hid (Below.refl w.heap.size w)
 generalize rsealF k ct = R at *
 obtain ⟨pa, e0, st, sg, vs⟩ := k
 simp only at hst hsg hpa HS h2 ⊢
 have HK := Lib.hid h2
 clear hst hsg hpa HTB h2
 have x0 := cell_of_blk (j := 0) (v := .string pa) (HK.out) rfl
 have x1 := cell_of_blk (j := 1) (v := .int .i64 e0) (HK.out) rfl
 have x2 := cell_of_blk (j := 2) (v := .string st) (HK.out) rfl
 have x3 := cell_of_blk (j := 3) (v := .string sg) (HK.out) rfl
 have x4 := cell_of_blk (j := 4) (v := .slice A n c) (HK.out) rfl
 go_enter Tryz.func85, Tryz.ntmps85
 go_wp2_with fail
 refine (HS.out).mono ?_
 rintro e w1 ⟨rfl, hb⟩
 replace HB := Lib.hid (below_step HB.out hb)
 clear hb
 go_wp2
 go_ret2
 exact ⟨rfl, HB.out⟩
set_option maxRecDepth 100000 in
set_option maxHeartbeats 2000000 in
theorem behind_call {k : Ky} (A : Option Addr) (c : Nat) (blob : ByteArray) (hz : blob.size ≤ 1000000) (hst : k.st.size ≤ 1000000) (hvs : ∀ v ∈ k.vs, v.size ≤ 1000000) (hl : k.vs.length ≤ 1000000) (hc : k.vs.length ≤ c) (w : World) (hC : Kd.C Kd.string w A k.vs.length k.vs) :
  Calls Tryz.prog 26 #[.agg #[.string k.pa, .int .i64 k.e, .string k.st, .string k.sg, .slice A k.vs.length c], .string blob] w fun e w' => e = .returned (.bool (behindF k blob)) ∧ Below w.heap.size w w' := by
 have HOP : Hid (∀ W : World, Below w.heap.size w W → Calls Tryz.prog 25 #[.agg #[.string k.pa, .int .i64 k.e, .string k.st, .string k.sg, .slice A k.vs.length c], .string blob] W fun e w' => e = .returned (.tuple #[.string (ropenF k blob).1, .int .i64 (ropenF k blob).2]) ∧ Below W.heap.size W w') := Lib.hid (fun W hb => ropen_call A c blob hz hst hvs hl hc W (Kd.C_below hC hb))
 have HCL := Lib.hid (fun (s : ByteArray) (bb bk : Nat) (W : World) => behind1_call (k := k) A k.vs.length c s blob bb bk hz W)
 obtain ⟨R, hR⟩ : ∃ R, behindF k blob = R := ⟨_, rfl⟩
 have HV := Lib.hid hR
 rw [hR]
 clear hR hC
 unfold behindF at HV
 generalize ropenF k blob = O at *
 generalize takeBl blob = B at *
 obtain ⟨pa, e0, st, sg, vs⟩ := k
 simp only at hst hvs hl hc HOP HV HCL ⊢
 generalize vs.length = n at *
 clear hst hvs hl hc hz
 have hkb := wkeep (wnew w (.cells #[.string pa, .int .i64 e0, .string st, .string sg, .slice A n c] 45)) (.cells #[.string blob] 9)
 have hbb := wnew (w.alloc (.cells #[.string pa, .int .i64 e0, .string st, .string sg, .slice A n c] 45)) (.cells #[.string blob] 9)
 rw [show (w.alloc (.cells #[.string pa, .int .i64 e0, .string st, .string sg, .slice A n c] 45)).heap.size = w.heap.size + 1 from by simp] at hbb
 have HK := Lib.hid hkb
 have HL := Lib.hid hbb
 clear hkb hbb
 have HB : Hid (Below w.heap.size w ((w.alloc (.cells #[.string pa, .int .i64 e0, .string st, .string sg, .slice A n c] 45)).alloc (.cells #[.string blob] 9))) := Lib.hid (below_alloc (below_alloc (Below.refl _ _) _) _)
 have x0 := cell_of_blk (j := 0) (v := .string pa) (HK.out) rfl
 have x1 := cell_of_blk (j := 1) (v := .int .i64 e0) (HK.out) rfl
 have x2 := cell_of_blk (j := 2) (v := .string st) (HK.out) rfl
 have x3 := cell_of_blk (j := 3) (v := .string sg) (HK.out) rfl
 have x4 := cell_of_blk (j := 4) (v := .slice A n c) (HK.out) rfl
 have y0 := cell_of_blk (j := 0) (v := .string blob) (HL.out) rfl
 go_enter Tryz.func26, Tryz.ntmps26
 go_wp2_with fail
 refine (HOP.out _ HB.out).mono ?_
 rintro e w1 ⟨rfl, hb⟩
 replace HK := Lib.hid (blk_below HK.out hb)
 replace HL := Lib.hid (blk_below HL.out hb)
 replace HB := Lib.hid (below_step HB.out hb)
 clear hb
 clear x0 x1 x2 x3 x4
 clear y0
 go_wp2_with fail
 refine (ofS_call _ _ _).mono ?_
 rintro e w2 ⟨rfl, hb⟩
 replace HK := Lib.hid (blk_below HK.out hb)
 replace HL := Lib.hid (blk_below HL.out hb)
 replace HB := Lib.hid (below_step HB.out hb)
 clear hb
 replace HK := Lib.hid (wkeep HK.out (.cells #[.string O.1, .int .i64 O.2] 90))
 replace HL := Lib.hid (wkeep HL.out (.cells #[.string O.1, .int .i64 O.2] 90))
 replace HB := Lib.hid (below_alloc HB.out (.cells #[.string O.1, .int .i64 O.2] 90))
 have x0 := cell_of_blk (j := 0) (v := .string O.1) (wnew w2 (.cells #[.string O.1, .int .i64 O.2] 90)) rfl
 have x1 := cell_of_blk (j := 1) (v := .int .i64 O.2) (wnew w2 (.cells #[.string O.1, .int .i64 O.2] 90)) rfl
 go_wp2_with fail
 refine (thenST_call _ _ (decide (B.1.e < e0)) B.2 _ _ _ (fun _ W hb => HCL.out _ _ _ W (blk_below HL.out hb) (blk_below HK.out hb))).mono ?_
 rintro e w3 ⟨rfl, hb⟩
 replace HK := Lib.hid (blk_below HK.out hb)
 replace HL := Lib.hid (blk_below HL.out hb)
 replace HB := Lib.hid (below_step HB.out hb)
 clear hb
 clear x0 x1
 by_cases q : O.2 = 0
 ·rw [if_pos q, if_pos q]
  obtain rfl : R = decide (B.1.e < e0) := by rw [← HV.out, decide_eq_true q]; rfl
  go_wp2
  go_ret
  exact ⟨rfl, below_alloc HB.out _⟩
 ·rw [if_neg q, if_neg q]
  obtain rfl : R = false := by rw [← HV.out, decide_eq_false q]; rfl
  go_wp2
  go_ret
  exact ⟨rfl, below_alloc HB.out _⟩
def renewF (k : Ky) (blob : ByteArray) : ByteArray × Bool × Int :=
 if (ropenF k blob).2 = 0 then (if behindF k blob = true then ((rsealF k (ropenF k blob).1).1, decide ((rsealF k (ropenF k blob).1).2 = 0), (rsealF k (ropenF k blob).1).2) else (blob, false, 0)) else (⟨#[]⟩, false, (ropenF k blob).2)
def wrn.T5 : Bool × List (List Nat × List Nat) := (true, [([], []), ([0], [0]), ([], []), ([2], [2]), ([3], [3]), ([], []), ([5], [5]), ([1, 0, 1], [1]), ([4, 7, 0, 1, 2, 3, 4, 7], [4]), ([6, 8, 0, 1, 2, 3, 4, 5, 6, 7, 8], [6])])
def wrn.B5 : List Nat := [0, 1, 0, 4, 12, 0, 32, 3, 159, 511]
theorem wrn.tab5 : rtab .any (opsOf Tryz.f29 5) = wrn.T5 := by kernel_rfl
theorem wrn.bits5 : waitsOk wrn.T5.2 wrn.B5 = true := by kernel_rfl
set_option maxRecDepth 100000 in
set_option maxHeartbeats 2000000 in
theorem renew_call {k : Ky} (A : Option Addr) (c : Nat) (blob : ByteArray) (hz : blob.size ≤ 1000000) (hst : k.st.size ≤ 1000000) (hsg : k.sg.size ≤ 1000000) (hpa : k.pa.size ≤ 1000000) (hvs : ∀ v ∈ k.vs, v.size ≤ 1000000) (hl : k.vs.length ≤ 1000000) (hc : k.vs.length ≤ c) (w : World) (HTB : Aside0 (Tabs w)) (hC : Kd.C Kd.string w A k.vs.length k.vs) :
  Calls Tryz.prog 29 #[.agg #[.string k.pa, .int .i64 k.e, .string k.st, .string k.sg, .slice A k.vs.length c], .string blob] w fun e w' => e = .returned (.tuple #[.string (renewF k blob).1, .bool (renewF k blob).2.1, .int .i64 (renewF k blob).2.2]) ∧ Below w.heap.size w w' := by
 have HOP : Hid (∀ W : World, Below w.heap.size w W → Calls Tryz.prog 25 #[.agg #[.string k.pa, .int .i64 k.e, .string k.st, .string k.sg, .slice A k.vs.length c], .string blob] W fun e w' => e = .returned (.tuple #[.string (ropenF k blob).1, .int .i64 (ropenF k blob).2]) ∧ Below W.heap.size W w') := Lib.hid (fun W hb => ropen_call A c blob hz hst hvs hl hc W (Kd.C_below hC hb))
 have HBH : Hid (∀ W : World, Below w.heap.size w W → Calls Tryz.prog 26 #[.agg #[.string k.pa, .int .i64 k.e, .string k.st, .string k.sg, .slice A k.vs.length c], .string blob] W fun e w' => e = .returned (.bool (behindF k blob)) ∧ Below W.heap.size W w') := Lib.hid (fun W hb => behind_call A c blob hz hst hvs hl hc W (Kd.C_below hC hb))
 have HCL := Lib.hid (fun (ct : ByteArray) (bk : Nat) (W : World) (hb : Below w.heap.size w W) => renew1_call (k := k) A k.vs.length c ct bk hst hsg hpa W ⟨HTB.out.below hb⟩)
 obtain ⟨R, hR⟩ : ∃ R, renewF k blob = R := ⟨_, rfl⟩
 have HV := Lib.hid hR
 rw [hR]
 clear hR hC
 unfold renewF at HV
 generalize ropenF k blob = O at *
 obtain ⟨o1, o2⟩ := O
 simp only at HOP HV
 generalize behindF k blob = H at *
 have HSE : Hid (rsealF k o1 = rsealF k o1) := Lib.hid rfl
 obtain ⟨Z, hZ⟩ : ∃ Z, rsealF k o1 = Z := ⟨_, rfl⟩
 have HZ := Lib.hid hZ
 rw [hZ] at HV
 replace HCL := Lib.hid (fun (bk : Nat) (W : World) (hb : Below w.heap.size w W) => HCL.out o1 bk W hb)
 rw [hZ] at HCL
 clear hZ HZ HSE
 obtain ⟨pa, e0, st, sg, vs⟩ := k
 simp only at hst hvs hl hc hsg hpa HOP HBH HCL ⊢
 generalize vs.length = n at *
 clear hst hvs hl hc hz hsg hpa HTB
 have HK := Lib.hid (wnew w (.cells #[.string pa, .int .i64 e0, .string st, .string sg, .slice A n c] 45))
 have HB : Hid (Below w.heap.size w (w.alloc (.cells #[.string pa, .int .i64 e0, .string st, .string sg, .slice A n c] 45))) := Lib.hid (below_alloc (Below.refl _ _) _)
 have x0 := cell_of_blk (j := 0) (v := .string pa) (HK.out) rfl
 have x1 := cell_of_blk (j := 1) (v := .int .i64 e0) (HK.out) rfl
 have x2 := cell_of_blk (j := 2) (v := .string st) (HK.out) rfl
 have x3 := cell_of_blk (j := 3) (v := .string sg) (HK.out) rfl
 have x4 := cell_of_blk (j := 4) (v := .slice A n c) (HK.out) rfl
 go_enter Tryz.func29, Tryz.ntmps29
 go_wp2_with fail
 refine (HOP.out _ HB.out).mono ?_
 rintro e w1 ⟨rfl, hb⟩
 replace HK := Lib.hid (blk_below HK.out hb)
 replace HB := Lib.hid (below_step HB.out hb)
 clear hb
 clear x0 x1 x2 x3 x4
 go_wp2_with fail
 refine (ofS_call _ _ _).mono ?_
 rintro e w2 ⟨rfl, hb⟩
 replace HK := Lib.hid (blk_below HK.out hb)
 replace HB := Lib.hid (below_step HB.out hb)
 clear hb
 replace HK := Lib.hid (wkeep HK.out (.cells #[.string o1, .int .i64 o2] 90))
 have HO := Lib.hid (wnew w2 (.cells #[.string o1, .int .i64 o2] 90))
 replace HB := Lib.hid (below_alloc HB.out (.cells #[.string o1, .int .i64 o2] 90))
 by_cases q : o2 = 0
 rotate_left
 ·skip
  have t0 : (o2 == 0) = false := by rw [beq_eq_false_iff_ne]; exact q
  obtain rfl : R = (⟨#[]⟩, false, o2) := by rw [← HV.out, if_neg q]
  have y0 := cell_of_blk (j := 0) (v := .string o1) (HO.out) rfl
  have y1 := cell_of_blk (j := 1) (v := .int .i64 o2) (HO.out) rfl
  go_wp2_with fail
  refine (thenSS_call _ _ Z.1 Z.2 _ _ (fun _ W hb => HCL.out _ W (below_step HB.out hb) (blk_below HK.out hb))).mono ?_
  rintro e w4 ⟨rfl, hb⟩
  replace HB := Lib.hid (below_step HB.out hb)
  clear hb
  clear y0 y1
  rw [if_neg q, if_neg q]
  go_wp2_with fail
  have hb0 : Below (w4.alloc (.cells #[.string ⟨#[]⟩, .int .i64 o2] 90)).heap.size (w4.alloc (.cells #[.string ⟨#[]⟩, .int .i64 o2] 90)) (w4.alloc (.cells #[.string ⟨#[]⟩, .int .i64 o2] 90)).drew := below_drew (Below.refl _ _)
  have hb := below_step (below_alloc (Below.refl _ _) _) hb0
  replace HB := Lib.hid (below_step HB.out hb)
  have HXg := Lib.hid (blk_below (blk_new w4 (.cells #[.string ⟨#[]⟩, .int .i64 o2] 90)) hb0)
  clear hb hb0
  refine start_ (n := 10) (S := fun w' => w'.cell? ⟨w4.heap.size, 0, none⟩ = some (.string ⟨#[]⟩) ∧ w'.cell? ⟨w4.heap.size, 1, none⟩ = some (.int .i64 o2)) (ds := []) #[false, false, false, false, false, false, false, false, false, false] (by kernel_rfl) rfl rfl ⟨(cell_of_blk HXg.out rfl), (cell_of_blk HXg.out rfl)⟩ (fun hHeld => ?_)
  refine with_tabW wrn.tab5 wrn.bits5 (fun HT_ HW_ => ?_)
  refine pure_ (i := 0) (N := some 28) (v := ?_) (a' := ?_) #[true, false, false, false, false, false, false, false, false, false] rfl rfl (any_of HT_.out (by kernel_rfl)) (fun _ _ _ h => h) (Or.inl ⟨by rfl, ?_⟩) ?_ ?_
  rotate_left
  ·intro w'
   go_simp
   with_reducible rfl
  rotate_left
  ·simp only [Act.put, List.setIfInBounds_toArray, List.set_cons_zero, List.set_cons_succ, i64_w, i32_w]
   rfl
  refine pure_ (i := 2) (N := some 30) (v := ?_) (a' := ?_) #[true, false, true, false, false, false, false, false, false, false] rfl rfl (any_of HT_.out (by kernel_rfl)) (fun _ _ _ h => h) (Or.inl ⟨by rfl, ?_⟩) ?_ ?_
  rotate_left
  ·intro w'
   go_simp
   with_reducible rfl
  rotate_left
  ·simp only [Act.put, List.setIfInBounds_toArray, List.set_cons_zero, List.set_cons_succ, i64_w, i32_w]
   rfl
  refine pure_ (i := 5) (N := some 33) (v := ?_) (a' := ?_) #[true, false, true, false, false, true, false, false, false, false] rfl rfl (any_of HT_.out (by kernel_rfl)) (fun _ _ _ h => h) (Or.inl ⟨by rfl, ?_⟩) ?_ ?_
  rotate_left
  ·intro w'
   go_simp
   with_reducible rfl
  rotate_left
  ·simp only [Act.put, List.setIfInBounds_toArray, List.set_cons_zero, List.set_cons_succ, i64_w, i32_w]
   rfl
  refine take_ (i := 1) (N := some 29) (v := ?_) (a' := ?_) #[true, true, true, false, false, true, false, false, false, false] rfl rfl (take_ofW HT_.out HW_.out (by kernel_rfl)) (fun _ _ _ h => h) (Or.inl ⟨by rfl, ?_⟩) hHeld ?_ ?_
  rotate_left
  ·rintro w' ⟨s0, s1⟩
   go_simp
   with_reducible rfl
  rotate_left
  ·simp only [Act.put, List.setIfInBounds_toArray, List.set_cons_zero, List.set_cons_succ, i64_w, i32_w]
   rfl
  refine pure_ (i := 7) (N := some 4) (v := ?_) (a' := ?_) #[true, true, true, false, false, true, false, true, false, false] rfl rfl (any_of HT_.out (by kernel_rfl)) (fun _ _ _ h => h) (Or.inl ⟨by rfl, ?_⟩) ?_ ?_
  rotate_left
  ·intro w'
   go_simp
   with_reducible rfl
  rotate_left
  ·simp only [Act.put, List.setIfInBounds_toArray, List.set_cons_zero, List.set_cons_succ, i64_w, i32_w]
   rfl
  refine take_ (i := 3) (N := some 31) (v := ?_) (a' := ?_) #[true, true, true, true, false, true, false, true, false, false] rfl rfl (take_ofW HT_.out HW_.out (by kernel_rfl)) (fun _ _ _ h => h) (Or.inl ⟨by rfl, ?_⟩) hHeld ?_ ?_
  rotate_left
  ·rintro w' ⟨s0, s1⟩
   go_simp
   with_reducible rfl
  rotate_left
  ·simp only [Act.put, List.setIfInBounds_toArray, List.set_cons_zero, List.set_cons_succ, i64_w, i32_w]
   rfl
  refine pure_ (i := 4) (N := some 32) (v := ?_) (a' := ?_) #[true, true, true, true, true, true, false, true, false, false] rfl rfl (any_of HT_.out (by kernel_rfl)) (fun _ _ _ h => h) (Or.inl ⟨by rfl, ?_⟩) ?_ ?_
  rotate_left
  ·intro w'
   go_simp
   with_reducible rfl
  rotate_left
  ·simp only [Act.put, List.setIfInBounds_toArray, List.set_cons_zero, List.set_cons_succ, i64_w, i32_w]
   rfl
  refine pure_ (i := 8) (N := some 5) (v := ?_) (a' := ?_) #[true, true, true, true, true, true, false, true, true, false] rfl rfl (any_of HT_.out (by kernel_rfl)) (fun _ _ _ h => h) (Or.inl ⟨by rfl, ?_⟩) ?_ ?_
  rotate_left
  ·intro w'
   go_simp
   with_reducible rfl
  rotate_left
  ·simp only [Act.put, List.setIfInBounds_toArray, List.set_cons_zero, List.set_cons_succ, i64_w, i32_w]
   rfl
  refine take_ (i := 6) (N := some 34) (v := ?_) (a' := ?_) #[true, true, true, true, true, true, true, true, true, false] rfl rfl (take_ofW HT_.out HW_.out (by kernel_rfl)) (fun _ _ _ h => h) (Or.inl ⟨by rfl, ?_⟩) hHeld ?_ ?_
  rotate_left
  ·rintro w' ⟨s0, s1⟩
   go_simp
   with_reducible rfl
  rotate_left
  ·simp only [Act.put, List.setIfInBounds_toArray, List.set_cons_zero, List.set_cons_succ, i64_w, i32_w]
   rfl
  refine pure_ (i := 9) (N := some 6) (v := ?_) (a' := ?_) #[true, true, true, true, true, true, true, true, true, true] rfl rfl (any_of HT_.out (by kernel_rfl)) (fun _ _ _ h => h) (Or.inl ⟨by rfl, ?_⟩) ?_ ?_
  rotate_left
  ·intro w'
   go_simp
   with_reducible rfl
  rotate_left
  ·simp only [Act.put, List.setIfInBounds_toArray, List.set_cons_zero, List.set_cons_succ, i64_w, i32_w]
   rfl
  refine done_ (done_of HT_.out (by kernel_rfl)) ?_
  clear HT_
  go_wp2
  refine bodyPost_ret (results_tmp3 rfl _ _ _) rfl ?_
  exact ⟨rfl, HB.out⟩
 subst q
 have y0 := cell_of_blk (j := 0) (v := .string o1) (HO.out) rfl
 have y1 := cell_of_blk (j := 1) (v := .int .i64 0) (HO.out) rfl
 have x0 := cell_of_blk (j := 0) (v := .string pa) (HK.out) rfl
 have x1 := cell_of_blk (j := 1) (v := .int .i64 e0) (HK.out) rfl
 have x2 := cell_of_blk (j := 2) (v := .string st) (HK.out) rfl
 have x3 := cell_of_blk (j := 3) (v := .string sg) (HK.out) rfl
 have x4 := cell_of_blk (j := 4) (v := .slice A n c) (HK.out) rfl
 go_wp2_with fail
 refine (HBH.out _ HB.out).mono ?_
 rintro e w3 ⟨rfl, hb⟩
 replace HK := Lib.hid (blk_below HK.out hb)
 replace HO := Lib.hid (blk_below HO.out hb)
 replace HB := Lib.hid (below_step HB.out hb)
 clear hb
 clear x0 x1 x2 x3 x4
 clear y0 y1
 cases H with
 | false =>
  obtain rfl : R = (blob, false, 0) := by rw [← HV.out]; rfl
  go_wp2
  refine bodyPost_ret (results_tmp3 rfl _ _ _) rfl ?_
  exact ⟨rfl, HB.out⟩
 | true =>
  obtain rfl : R = (Z.1, (Z.2 == 0), Z.2) := by rw [← HV.out]; rfl
  have y0 := cell_of_blk (j := 0) (v := .string o1) (HO.out) rfl
  have y1 := cell_of_blk (j := 1) (v := .int .i64 0) (HO.out) rfl
  go_wp2_with fail
  refine (thenSS_call _ _ Z.1 Z.2 _ _ (fun _ W hb => HCL.out _ W (below_step HB.out hb) (blk_below HK.out hb))).mono ?_
  rintro e w4 ⟨rfl, hb⟩
  replace HB := Lib.hid (below_step HB.out hb)
  clear hb
  clear y0 y1
  rw [if_pos rfl, if_pos rfl]
  go_wp2_with fail
  have hb0 : Below (w4.alloc (.cells #[.string Z.1, .int .i64 Z.2] 90)).heap.size (w4.alloc (.cells #[.string Z.1, .int .i64 Z.2] 90)) (w4.alloc (.cells #[.string Z.1, .int .i64 Z.2] 90)).drew := below_drew (Below.refl _ _)
  have hb := below_step (below_alloc (Below.refl _ _) _) hb0
  replace HB := Lib.hid (below_step HB.out hb)
  have HXg := Lib.hid (blk_below (blk_new w4 (.cells #[.string Z.1, .int .i64 Z.2] 90)) hb0)
  clear hb hb0
  refine start_ (n := 10) (S := fun w' => w'.cell? ⟨w4.heap.size, 0, none⟩ = some (.string Z.1) ∧ w'.cell? ⟨w4.heap.size, 1, none⟩ = some (.int .i64 Z.2)) (ds := []) #[false, false, false, false, false, false, false, false, false, false] (by kernel_rfl) rfl rfl ⟨(cell_of_blk HXg.out rfl), (cell_of_blk HXg.out rfl)⟩ (fun hHeld => ?_)
  refine with_tabW wrn.tab5 wrn.bits5 (fun HT_ HW_ => ?_)
  refine pure_ (i := 0) (N := some 28) (v := ?_) (a' := ?_) #[true, false, false, false, false, false, false, false, false, false] rfl rfl (any_of HT_.out (by kernel_rfl)) (fun _ _ _ h => h) (Or.inl ⟨by rfl, ?_⟩) ?_ ?_
  rotate_left
  ·intro w'
   go_simp
   with_reducible rfl
  rotate_left
  ·simp only [Act.put, List.setIfInBounds_toArray, List.set_cons_zero, List.set_cons_succ, i64_w, i32_w]
   rfl
  refine pure_ (i := 2) (N := some 30) (v := ?_) (a' := ?_) #[true, false, true, false, false, false, false, false, false, false] rfl rfl (any_of HT_.out (by kernel_rfl)) (fun _ _ _ h => h) (Or.inl ⟨by rfl, ?_⟩) ?_ ?_
  rotate_left
  ·intro w'
   go_simp
   with_reducible rfl
  rotate_left
  ·simp only [Act.put, List.setIfInBounds_toArray, List.set_cons_zero, List.set_cons_succ, i64_w, i32_w]
   rfl
  refine pure_ (i := 5) (N := some 33) (v := ?_) (a' := ?_) #[true, false, true, false, false, true, false, false, false, false] rfl rfl (any_of HT_.out (by kernel_rfl)) (fun _ _ _ h => h) (Or.inl ⟨by rfl, ?_⟩) ?_ ?_
  rotate_left
  ·intro w'
   go_simp
   with_reducible rfl
  rotate_left
  ·simp only [Act.put, List.setIfInBounds_toArray, List.set_cons_zero, List.set_cons_succ, i64_w, i32_w]
   rfl
  refine take_ (i := 1) (N := some 29) (v := ?_) (a' := ?_) #[true, true, true, false, false, true, false, false, false, false] rfl rfl (take_ofW HT_.out HW_.out (by kernel_rfl)) (fun _ _ _ h => h) (Or.inl ⟨by rfl, ?_⟩) hHeld ?_ ?_
  rotate_left
  ·rintro w' ⟨s0, s1⟩
   go_simp
   with_reducible rfl
  rotate_left
  ·simp only [Act.put, List.setIfInBounds_toArray, List.set_cons_zero, List.set_cons_succ, i64_w, i32_w]
   rfl
  refine pure_ (i := 7) (N := some 4) (v := ?_) (a' := ?_) #[true, true, true, false, false, true, false, true, false, false] rfl rfl (any_of HT_.out (by kernel_rfl)) (fun _ _ _ h => h) (Or.inl ⟨by rfl, ?_⟩) ?_ ?_
  rotate_left
  ·intro w'
   go_simp
   with_reducible rfl
  rotate_left
  ·simp only [Act.put, List.setIfInBounds_toArray, List.set_cons_zero, List.set_cons_succ, i64_w, i32_w]
   rfl
  refine take_ (i := 3) (N := some 31) (v := ?_) (a' := ?_) #[true, true, true, true, false, true, false, true, false, false] rfl rfl (take_ofW HT_.out HW_.out (by kernel_rfl)) (fun _ _ _ h => h) (Or.inl ⟨by rfl, ?_⟩) hHeld ?_ ?_
  rotate_left
  ·rintro w' ⟨s0, s1⟩
   go_simp
   with_reducible rfl
  rotate_left
  ·simp only [Act.put, List.setIfInBounds_toArray, List.set_cons_zero, List.set_cons_succ, i64_w, i32_w]
   rfl
  refine pure_ (i := 4) (N := some 32) (v := ?_) (a' := ?_) #[true, true, true, true, true, true, false, true, false, false] rfl rfl (any_of HT_.out (by kernel_rfl)) (fun _ _ _ h => h) (Or.inl ⟨by rfl, ?_⟩) ?_ ?_
  rotate_left
  ·intro w'
   go_simp
   with_reducible rfl
  rotate_left
  ·simp only [Act.put, List.setIfInBounds_toArray, List.set_cons_zero, List.set_cons_succ, i64_w, i32_w]
   rfl
  refine pure_ (i := 8) (N := some 5) (v := ?_) (a' := ?_) #[true, true, true, true, true, true, false, true, true, false] rfl rfl (any_of HT_.out (by kernel_rfl)) (fun _ _ _ h => h) (Or.inl ⟨by rfl, ?_⟩) ?_ ?_
  rotate_left
  ·intro w'
   go_simp
   with_reducible rfl
  rotate_left
  ·simp only [Act.put, List.setIfInBounds_toArray, List.set_cons_zero, List.set_cons_succ, i64_w, i32_w]
   rfl
  refine take_ (i := 6) (N := some 34) (v := ?_) (a' := ?_) #[true, true, true, true, true, true, true, true, true, false] rfl rfl (take_ofW HT_.out HW_.out (by kernel_rfl)) (fun _ _ _ h => h) (Or.inl ⟨by rfl, ?_⟩) hHeld ?_ ?_
  rotate_left
  ·rintro w' ⟨s0, s1⟩
   go_simp
   with_reducible rfl
  rotate_left
  ·simp only [Act.put, List.setIfInBounds_toArray, List.set_cons_zero, List.set_cons_succ, i64_w, i32_w]
   rfl
  refine pure_ (i := 9) (N := some 6) (v := ?_) (a' := ?_) #[true, true, true, true, true, true, true, true, true, true] rfl rfl (any_of HT_.out (by kernel_rfl)) (fun _ _ _ h => h) (Or.inl ⟨by rfl, ?_⟩) ?_ ?_
  rotate_left
  ·intro w'
   go_simp
   with_reducible rfl
  rotate_left
  ·simp only [Act.put, List.setIfInBounds_toArray, List.set_cons_zero, List.set_cons_succ, i64_w, i32_w]
   rfl
  refine done_ (done_of HT_.out (by kernel_rfl)) ?_
  clear HT_
  go_wp2
  refine bodyPost_ret (results_tmp3 rfl _ _ _) rfl ?_
  exact ⟨rfl, HB.out⟩
end Go.Proofs.YtphehoidkmficaaGreatDoor
end
section

namespace Go.Proofs.YtphehoidkmficaaGreatDoor
open Go.ChangeShapes Go.WideShapes Go.RowKit Go.Deep Go.Proofs.YtphehoidkmficaaGreatDoorW.PrintWords Go.Proofs.YtphehoidkmficaaGreatDoor.Ref
set_option linter.unusedVariables false
theorem weigh {H : Type} {P : Program} {t : TypeId} {fs : Array Field} {parts : List (DataW H)} (ht : P.underlying t = some (.struct fs)) {j : Nat} {u : TypeId} {bytes : List UInt8} (hj : (fs.toList.map (·.type))[j]? = some u) (hd : parts[j]? = some (.lit (.string bytes)))
  (hw : ∀ n ∈ (DataW.agg parts : DataW H).weights P t, n ≤ reachBytes) : bytes.length ≤ reachBytes := by
 refine hw _ ?_
 have e : (DataW.agg parts : DataW H).weights P t = DataW.weightsEach P (fs.toList.map (·.type)) parts := by simp [DataW.weights, ht]
 rw [e]
 exact DataW.weights_mem_each hj hd _ (by simp [DataW.weights])
theorem array3 {α : Type} {cs : Array α} (h : cs.size = 3) : ∃ c0 c1 c2, cs = #[c0, c1, c2] := by
 obtain ⟨l⟩ := cs
 match l, h with
 | [c0, c1, c2], _ => exact ⟨c0, c1, c2, rfl⟩
theorem array5 {α : Type} {cs : Array α} (h : cs.size = 5) : ∃ c0 c1 c2 c3 c4, cs = #[c0, c1, c2, c3, c4] := by
 obtain ⟨l⟩ := cs
 match l, h with
 | [c0, c1, c2, c3, c4], _ => exact ⟨c0, c1, c2, c3, c4, rfl⟩
theorem strs_open : Opens Tryz.prog 24 (Kd.slice 9 Kd.string) (fun l => l.length ≤ 9223372036854775807 ∧ ∀ s ∈ l, s.size ≤ 9223372036854775807) := Opens.slice Tryz.underlying24 (by kernel_rfl) (Opens.string Tryz.underlying9) _
theorem row_open {H : Type} {enc : TypeId × Value → H} {W : World} {n : Nat} {c : Value} {x : DataW H × List MemPlace} (h : DataW.trod enc Tryz.prog W 0 (fun _ => true) true n 24 [c] = some x) : ∃ A k l, c = .slice A l.length k ∧ l.length ≤ k ∧ Kd.C Kd.string W A l.length l ∧ (l.length ≤ 9223372036854775807 ∧ ∀ s ∈ l, s.size ≤ 9223372036854775807) := by
 obtain ⟨xs, ⟨A', k, hcs, hl, hC⟩, hg⟩ := strs_open H enc W n _ _ h
 simp only [List.cons.injEq, and_true] at hcs
 exact ⟨A', k, xs, hcs, hl, hC, hg⟩
def blFields : Array Field := #[⟨"Epoch", 3, 0, false, "", "", 0⟩, ⟨"Sealed", 9, 1, false, "", "", 8⟩, ⟨"Sig", 9, 2, false, "", "", 24⟩]
theorem blUnder : Tryz.prog.underlying 23 = some (.struct blFields) := Tryz.underlying23
set_option maxRecDepth 100000 in
theorem bl_open {H : Type} {enc : TypeId × Value → H} {W : World} {v : Value} {d : DataW H} {ps : List MemPlace} {base : Nat} {r : Reach} (hv : Value.okWide Tryz.prog W r base 23 v) (h : DataW.Trod enc Tryz.prog W 0 (fun _ => true) true 23 v d ps)
  (hw : ∀ n ∈ d.weights Tryz.prog 23, n ≤ reachBytes) : ∃ b : Bl, v = .agg #[.int .i64 b.e, .string b.s, .string b.g] ∧ (b.s.size ≤ 140737488351232 ∧ b.g.size ≤ 140737488351232) := by
 obtain ⟨cs, rfl, hsz⟩ := okWide_struct blUnder hv
 have h5 : Tryz.prog.cellsOf 23 = 3 := by kernel_rfl
 obtain ⟨c0, c1, c2, rfl⟩ := array3 (hsz.trans h5)
 obtain ⟨fuel, hf⟩ := h
 obtain ⟨xs, n, _, hx, hl, hlen, hF⟩ := DataW.trod_struct blUnder hf
 simp only [Prod.mk.injEq] at hx
 obtain ⟨rfl, -⟩ := hx
 match xs, hlen with
 | [y0, y1, y2], _ =>
  have h0 : DataW.trod enc Tryz.prog W 0 (fun _ => true) true n 3 [c0] = some y0 := hF 0 _ rfl
  have h1 : DataW.trod enc Tryz.prog W 0 (fun _ => true) true n 9 [c1] = some y1 := hF 1 _ rfl
  have h2 : DataW.trod enc Tryz.prog W 0 (fun _ => true) true n 9 [c2] = some y2 := hF 2 _ rfl
  obtain ⟨z0, e0, rfl, hz⟩ := DataW.trod_int Tryz.underlying3 h0
  obtain ⟨s1, e1, rfl, _⟩ := DataW.trod_string Tryz.underlying9 h1
  obtain ⟨s2, e2, rfl, _⟩ := DataW.trod_string Tryz.underlying9 h2
  injection e0 with e0 _
  injection e1 with e1 _
  injection e2 with e2 _
  subst e0 e1 e2
  have b1 := weigh (j := 1) (u := 9) blUnder rfl rfl hw
  have b2 := weigh (j := 2) (u := 9) blUnder rfl rfl hw
  rw [Array.length_toList] at b1 b2
  exact ⟨⟨z0, s1, s2⟩, rfl, show s1.size ≤ reachBytes from b1, show s2.size ≤ reachBytes from b2⟩
def kyFields : Array Field := #[⟨"Path", 9, 0, false, "", "", 0⟩, ⟨"Epoch", 3, 1, false, "", "", 16⟩, ⟨"State", 9, 2, false, "", "", 24⟩, ⟨"Signer", 9, 3, false, "", "", 40⟩, ⟨"Verify", 24, 4, false, "", "", 56⟩]
theorem kyUnder : Tryz.prog.underlying 45 = some (.struct kyFields) := Tryz.underlying45
set_option maxRecDepth 100000 in
theorem ky_open {H : Type} {enc : TypeId × Value → H} {W : World} {v : Value} {d : DataW H} {ps : List MemPlace} {base : Nat} {r : Reach} (hv : Value.okWide Tryz.prog W r base 45 v) (h : DataW.Trod enc Tryz.prog W 0 (fun _ => true) true 45 v d ps)
  (hw : ∀ n ∈ d.weights Tryz.prog 45, n ≤ reachBytes) : ∃ (k : Ky) (A : Option Addr) (c : Nat), v = .agg #[.string k.pa, .int .i64 k.e, .string k.st, .string k.sg, .slice A k.vs.length c] ∧ (Kd.C Kd.string W A k.vs.length k.vs ∧ k.vs.length ≤ c) ∧ (k.pa.size ≤ 140737488351232 ∧ k.st.size ≤ 140737488351232 ∧ k.sg.size ≤ 140737488351232 ∧ (-9223372036854775808 ≤ k.e ∧ k.e ≤ 9223372036854775807) ∧ k.vs.length ≤ 9223372036854775807 ∧ ∀ s ∈ k.vs, s.size ≤ 9223372036854775807) := by
 obtain ⟨cs, rfl, hsz⟩ := okWide_struct kyUnder hv
 have h5 : Tryz.prog.cellsOf 45 = 5 := by kernel_rfl
 obtain ⟨c0, c1, c2, c3, c4, rfl⟩ := array5 (hsz.trans h5)
 obtain ⟨fuel, hf⟩ := h
 obtain ⟨xs, n, _, hx, hl, hlen, hF⟩ := DataW.trod_struct kyUnder hf
 simp only [Prod.mk.injEq] at hx
 obtain ⟨rfl, -⟩ := hx
 match xs, hlen with
 | [y0, y1, y2, y3, y4], _ =>
  have h0 : DataW.trod enc Tryz.prog W 0 (fun _ => true) true n 9 [c0] = some y0 := hF 0 _ rfl
  have h1 : DataW.trod enc Tryz.prog W 0 (fun _ => true) true n 3 [c1] = some y1 := hF 1 _ rfl
  have h2 : DataW.trod enc Tryz.prog W 0 (fun _ => true) true n 9 [c2] = some y2 := hF 2 _ rfl
  have h3 : DataW.trod enc Tryz.prog W 0 (fun _ => true) true n 9 [c3] = some y3 := hF 3 _ rfl
  have h4 : DataW.trod enc Tryz.prog W 0 (fun _ => true) true n 24 [c4] = some y4 := hF 4 _ rfl
  obtain ⟨s0, e0, rfl, _⟩ := DataW.trod_string Tryz.underlying9 h0
  obtain ⟨z1, e1, rfl, hz⟩ := DataW.trod_int Tryz.underlying3 h1
  obtain ⟨s2, e2, rfl, _⟩ := DataW.trod_string Tryz.underlying9 h2
  obtain ⟨s3, e3, rfl, _⟩ := DataW.trod_string Tryz.underlying9 h3
  obtain ⟨A, k, l, rfl, hlk, hC, hg⟩ := row_open h4
  injection e0 with e0 _
  injection e1 with e1 _
  injection e2 with e2 _
  injection e3 with e3 _
  subst e0 e1 e2 e3
  have b0 := weigh (j := 0) (u := 9) kyUnder rfl rfl hw
  have b2 := weigh (j := 2) (u := 9) kyUnder rfl rfl hw
  have b3 := weigh (j := 3) (u := 9) kyUnder rfl rfl hw
  rw [Array.length_toList] at b0 b2 b3
  exact ⟨⟨s0, z1, s2, s3, l⟩, A, k, rfl, ⟨hC, hlk⟩, show s0.size ≤ reachBytes from b0, show s2.size ≤ reachBytes from b2, show s3.size ≤ reachBytes from b3, by simpa [Lit.wf, IntKind.min, IntKind.max, IntKind.bits, IntKind.signed] using hz, hg⟩
end Go.Proofs.YtphehoidkmficaaGreatDoor
end
section

namespace Go.Proofs.YtphehoidkmficaaGreatDoor
open Go.RowKit Go.Proofs.YtphehoidkmficaaGreatDoorW.PrintWords Go.Proofs.YtphehoidkmficaaGreatDoorW.PrintLast Go.Proofs.YtphehoidkmficaaGreatDoor.Ref Go.Proofs.YtphehoidkmficaaGreatDoor.PA
set_option linter.unusedVariables false
set_option linter.unusedSimpArgs false
theorem pick17_val (c : Int) (n : Nat) (h0 : 0 < n) (hn : n ≤ 1000000) (hc : I64 c) : letterlocklaw17_pick.f c n = some ((pickN c n : Nat) : Int) := by
 unfold letterlocklaw17_pick.f pickN
 by_cases h : c < 0
 ·rw [if_pos h, if_neg (by omega), if_pos h]
  rw [w64 (n := c + 1) (by omega) (by omega), w64 (n := -(c + 1)) (by omega) (by omega)]
  refine congrArg some ?_
  rw [Int.tmod_eq_emod_of_nonneg (by omega)]
  have : ((-(c + 1)).toNat : Int) = -(c + 1) := by omega
  rw [Int.natCast_emod, this]
 ·rw [if_neg h, if_neg (by omega), if_neg h]
  refine congrArg some ?_
  rw [Int.tmod_eq_emod_of_nonneg (by omega)]
  have : (c.toNat : Int) = c := by omega
  rw [Int.natCast_emod, this]
theorem pick17_call (c : Int) (n : Nat) (h0 : 0 < n) (hn : n ≤ 1000000) (hc : I64 c) (w : World) :
  Calls Tryz.prog 22 #[.int .i64 c, .int .i64 n] w fun e w' => e = .returned (.int .i64 (pickN c n : Nat)) ∧ Below w.heap.size w w' :=
 (letterlocklaw17_pick.calls c n _ w (pick17_val c n h0 hn hc)).mono fun e w' h => ⟨h.1, h.2.below⟩
theorem rootS_call {n : Nat} (h : n < 1000) (W : World) : Calls Tryz.prog 78 #[.string ⟨#[114, 111, 111, 116]⟩, .string ⟨#[120]⟩, .int .u64 n] W fun e w' => e = .returned (.tuple #[.string (tm (rT n)), .int .i64 0]) ∧ Below W.heap.size W w' := by
 have hs := ref5Secret_ev rootB xB n (by decide) (by decide) (by omega)
 rw [secret_root h] at hs
 obtain ⟨k, hk⟩ := ev_some hs
 exact letterlockref5_Secret.calls k _ _ _ _ _ W hk
theorem signS_call {n : Nat} (h : n < 1000) (W : World) : Calls Tryz.prog 78 #[.string ⟨#[115, 105, 103, 110]⟩, .string ⟨#[120]⟩, .int .u64 n] W fun e w' => e = .returned (.tuple #[.string (tm (sT n)), .int .i64 0]) ∧ Below W.heap.size W w' := by
 have hs := ref5Secret_ev signB xB n (by decide) (by decide) (by omega)
 rw [secret_sign h] at hs
 obtain ⟨k, hk⟩ := ev_some hs
 exact letterlockref5_Secret.calls k _ _ _ _ _ W hk
theorem pubS_call {n : Nat} (h : n < 1000) (W : World) : Calls Tryz.prog 79 #[.string (tm (sT n))] W fun e w' => e = .returned (.tuple #[.string (tm (.one .u (sT n))), .int .i64 0]) ∧ Below W.heap.size W w' := by
 have hp := refPublic_ev (tm (sT n))
 rw [show ofF (⟨#[117]⟩ : ByteArray) [tm (sT n)] = _ from public_tm (pub_ok (i := n) h)] at hp
 obtain ⟨k, hk⟩ := ev_some hp
 exact letterlockref3_OfPublic.calls k _ _ _ W hk
def sgAt : Nat → ByteArray
 | 0 => ⟨#[]⟩
 | k + 1 => tm (sT k)
theorem put5 {w W : World} (hb : Below w.heap.size w W) {b : Nat} {x1 x2 x3 x4 x5 : Value} {t : TypeId} (h : W.heap[b]? = some (.cells #[x1, x2, x3, x4, x5] t (0, 0))) (hn : w.heap.size ≤ b) (y1 y2 y3 y4 y5 : Value) :
  (((((W.setCell ⟨b, 0, none⟩ y1).setCell ⟨b, 1, none⟩ y2).setCell ⟨b, 2, none⟩ y3).setCell ⟨b, 3, none⟩ y4).setCell ⟨b, 4, none⟩ y5).heap[b]? = some (.cells #[y1, y2, y3, y4, y5] t (0, 0)) ∧ Below w.heap.size w (((((W.setCell ⟨b, 0, none⟩ y1).setCell ⟨b, 1, none⟩ y2).setCell ⟨b, 2, none⟩ y3).setCell ⟨b, 3, none⟩ y4).setCell ⟨b, 4, none⟩ y5)
   ∧ Moved (· = b) W (((((W.setCell ⟨b, 0, none⟩ y1).setCell ⟨b, 1, none⟩ y2).setCell ⟨b, 2, none⟩ y3).setCell ⟨b, 3, none⟩ y4).setCell ⟨b, 4, none⟩ y5) := by
 have m : Moved (· = b) W (((((W.setCell ⟨b, 0, none⟩ y1).setCell ⟨b, 1, none⟩ y2).setCell ⟨b, 2, none⟩ y3).setCell ⟨b, 3, none⟩ y4).setCell ⟨b, 4, none⟩ y5) :=
  ((((Moved.setCell (S := (· = b)) W (a := ⟨b, 0, none⟩) rfl y1).trans (Moved.setCell (S := (· = b)) _ (a := ⟨b, 1, none⟩) rfl y2)).trans (Moved.setCell (S := (· = b)) _ (a := ⟨b, 2, none⟩) rfl y3)).trans (Moved.setCell (S := (· = b)) _ (a := ⟨b, 3, none⟩) rfl y4)).trans (Moved.setCell (S := (· = b)) _ (a := ⟨b, 4, none⟩) rfl y5)
 exact ⟨blk_setCell (j := 4) (blk_setCell (j := 3) (blk_setCell (j := 2) (blk_setCell (j := 1) (blk_setCell (j := 0) h)))), Moved.below hb m hb.size (fun k hk => by subst hk; exact hn), m⟩
set_option maxRecDepth 100000 in
set_option maxHeartbeats 4000000 in
theorem keysOf_call (c0 : Int) {x : Nat} (hc0 : I64 c0) (hx : x ≤ 7) (w : World) :
  Calls Tryz.prog 23 #[.int .i64 c0, .int .i64 x] w fun e w' => ∃ A c, e = .returned (.agg #[.string ⟨#[97, 110, 110, 97, 47, 110, 111, 116, 101, 115]⟩, .int .i64 (x : Int), .string (tm (hT (7 - x) (rT (pickN c0 5)))), .string (tm (sT x)), .slice A (pubs (x + 1)).length c]) ∧ (pubs (x + 1)).length ≤ c ∧ Kd.C Kd.string w' A (pubs (x + 1)).length (pubs (x + 1)) ∧ Below w.heap.size w w' := by
 have hr := pick_lt c0 (n := 5) (by omega)
 have HPK := Lib.hid (fun W => pick17_call c0 5 (by omega) (by omega) hc0 W)
 generalize pickN c0 5 = r at *
 have hur : IntKind.u64.wrap (r : Int) = (r : Int) := u64_of (by omega)
 have HRS := Lib.hid (fun W => rootS_call (n := r) (by omega) W)
 have HST := Lib.hid (fun W => state_call (r := r) (e := x) (by omega) hx W)
 generalize tm (hT (7 - x) (rT r)) = st at *
 generalize tm (rT r) = rt at *
 have HR0 := Lib.hid (wnew w (.cells #[.string ⟨#[]⟩, .int .i64 0, .string ⟨#[]⟩, .string ⟨#[]⟩, .slice none 0 0] 45))
 have HB := Lib.hid (below_alloc (Below.refl w.heap.size w) (.cells #[.string ⟨#[]⟩, .int .i64 0, .string ⟨#[]⟩, .string ⟨#[]⟩, .slice none 0 0] 45))
 have HSS := Lib.hid (fun (n : Nat) (h : n ≤ 7) (W : World) => signS_call (n := n) (by omega) W)
 have HPB := Lib.hid (fun (n : Nat) (h : n ≤ 7) (W : World) => pubS_call (n := n) (by omega) W)
 go_enter Tryz.func23, Tryz.ntmps23
 go_wp2_with fail
 refine (HPK.out _).mono ?_
 rintro e W1 ⟨rfl, hb⟩
 replace HR0 := Lib.hid (blk_below HR0.out hb)
 replace HB := Lib.hid (below_step HB.out hb)
 clear hb
 go_wp2_with fail
 refine (HRS.out _).mono ?_
 rintro e W2 ⟨rfl, hb⟩
 replace HR0 := Lib.hid (blk_below HR0.out hb)
 replace HB := Lib.hid (below_step HB.out hb)
 clear hb
 go_wp2_with fail
 refine (HST.out _).mono ?_
 rintro e W3 ⟨rfl, hb⟩
 replace HR0 := Lib.hid (blk_below HR0.out hb)
 replace HB := Lib.hid (below_step HB.out hb)
 clear hb
 have HQ0 : Hid (w.heap.size < W3.heap.size) := Lib.hid (lt_of_block HR0.out)
 replace HR0 := Lib.hid (wkeep HR0.out (.cells #[.string ⟨#[97, 110, 110, 97, 47, 110, 111, 116, 101, 115]⟩, .int .i64 (x : Int), .string st, .string ⟨#[]⟩, .slice none 0 0] 45))
 have HP := Lib.hid (wnew W3 (.cells #[.string ⟨#[97, 110, 110, 97, 47, 110, 111, 116, 101, 115]⟩, .int .i64 (x : Int), .string st, .string ⟨#[]⟩, .slice none 0 0] 45))
 replace HB := Lib.hid (below_alloc HB.out (.cells #[.string ⟨#[97, 110, 110, 97, 47, 110, 111, 116, 101, 115]⟩, .int .i64 (x : Int), .string st, .string ⟨#[]⟩, .slice none 0 0] 45))
 have HSZ : Hid (W3.heap.size < (W3.alloc (.cells #[.string ⟨#[97, 110, 110, 97, 47, 110, 111, 116, 101, 115]⟩, .int .i64 (x : Int), .string st, .string ⟨#[]⟩, .slice none 0 0] 45)).heap.size) := Lib.hid (by simp)
 have HX := Lib.hid (And.intro hx hr)
 clear HPK HRS HST hr hur hx hc0
 go_wp2_with fail
 go_loopw [10] (fun i wr => ∃ (k : Nat) (l : List ByteArray) (A : Option Addr) (c : Nat), k ≤ x + 1 ∧ i = .int .i64 k ∧ l = pubs k ∧ Below w.heap.size w wr ∧ W3.heap.size < wr.heap.size ∧ wr.heap[w.heap.size]? = some (.cells #[.string ⟨#[]⟩, .int .i64 0, .string ⟨#[]⟩, .string ⟨#[]⟩, .slice none 0 0] 45 (0, 0)) ∧ wr.heap[W3.heap.size]? = some (.cells #[.string ⟨#[97, 110, 110, 97, 47, 110, 111, 116, 101, 115]⟩, .int .i64 (x : Int), .string st, .string (sgAt k), .slice A l.length c] 45 (0, 0)) ∧ Kd.R Kd.string 9 wr w.heap.size (fun j => W3.heap.size < j) (.slice A l.length c) l) (fun i _ => 100 - (intOf i).toNat)
 case atStart => exact ⟨0, [], none, 0, by omega, rfl, rfl, HB.out, HSZ.out, HR0.out, HP.out, Kd.R_nil _ _ _ _ _⟩
 case round =>
  obtain ⟨k, l, A, c, hk, rfl, hl, hb0, hq0, h0, hp, ho⟩ := hrel
  clear HB HSZ HR0 HP
  have HB := Lib.hid hb0
  have HQ := Lib.hid hq0
  have HR0 := Lib.hid h0
  have HP := Lib.hid hp
  have HO := Lib.hid ho
  clear hb0 hq0 h0 hp ho
  by_cases hkx : k ≤ x
  ·skip
   have hd : decide ((k : Int) ≤ (x : Int)) = true := decide_eq_true (by omega)
   have hdn : decide (k ≤ x) = true := decide_eq_true hkx
   have hk7 : k ≤ 7 := by have := HX.out.1; omega
   have huk : IntKind.u64.wrap (k : Int) = (k : Int) := u64_of (by omega)
   have HS1 := Lib.hid (fun W => HSS.out k hk7 W)
   have HP1 := Lib.hid (fun W => HPB.out k hk7 W)
   have hap : l ++ [tm (.one .u (sT k))] = pubs (k + 1) := by rw [hl, pubs_succ]
   have hln : l.length ≤ 8 := by rw [hl, pubs_len]; omega
   have HAP := Lib.hid hap
   have HLN := Lib.hid hln
   have hsg : sgAt (k + 1) = tm (sT k) := rfl
   have HSG := Lib.hid hsg
   generalize tm (.one .u (sT k)) = uk at *
   generalize tm (sT k) = sk at *
   have HKX := Lib.hid (And.intro hk hkx)
   generalize sgAt k = s0 at *
   clear hap hln hsg hk hl
   go_wp2_with fail
   refine (HS1.out _).mono ?_
   rintro e V1 ⟨rfl, hb⟩
   replace HR0 := Lib.hid (blk_below HR0.out hb)
   replace HP := Lib.hid (blk_below HP.out hb)
   replace HB := Lib.hid (below_step HB.out hb)
   replace HQ := Lib.hid (Nat.lt_of_lt_of_le HQ.out hb.size)
   replace HO := Lib.hid (Kd.R_below HO.out hb)
   clear hb
   go_wp2_with fail
   refine (HP1.out _).mono ?_
   rintro e V2 ⟨rfl, hb⟩
   replace HR0 := Lib.hid (blk_below HR0.out hb)
   replace HP := Lib.hid (blk_below HP.out hb)
   replace HB := Lib.hid (below_step HB.out hb)
   replace HQ := Lib.hid (Nat.lt_of_lt_of_le HQ.out hb.size)
   replace HO := Lib.hid (Kd.R_below HO.out hb)
   clear hb
   have c3 := cell_of_blk (j := 3) (v := .string s0) HP.out rfl
   have z3 := free_of_blk (j := 3) HP.out
   have y4 := cell_of_blk (j := 4) (v := .slice A l.length c) (blk_setCell (j := 3) (u := .string sk) HP.out) rfl
   have hm := Moved.setCell (S := (· = W3.heap.size)) V2 (a := ⟨W3.heap.size, 3, none⟩) rfl (.string sk)
   have HQw : Hid (w.heap.size ≤ W3.heap.size) := Lib.hid (Nat.le_of_lt HQ0.out)
   replace HR0 := Lib.hid ((hm.block _ (lt_of_block HR0.out) (fun e => by have := HQ0.out; omega)).trans HR0.out)
   replace HO := Lib.hid (Kd.R_far (p := ⟨W3.heap.size, 3, none⟩) HO.out (fun j hj e => by simp only at e; omega) (.string sk))
   replace HB := Lib.hid (Moved.below HB.out hm HB.out.size (fun j hj => by subst hj; exact HQw.out))
   replace HP := Lib.hid (blk_setCell (j := 3) (u := .string sk) HP.out)
   replace HQ := Lib.hid (lt_of_block HP.out)
   replace HP : Hid ((V2.setCell ⟨W3.heap.size, 3, none⟩ (.string sk)).heap[W3.heap.size]? = some (.cells #[.string ⟨#[97, 110, 110, 97, 47, 110, 111, 116, 101, 115]⟩, .int .i64 (x : Int), .string st, .string sk, .slice A l.length c] 45 (0, 0))) := HP
   clear hm
   go_wp2_with (first | ((with_reducible refine gate_builtin (b := .append) (xs := #[.tmp 50, .tmp 52]) rfl ?_); at_builtin; refine Kd.R_append Kd.string (w0 := w) w.heap.size rfl (.tmp 50) (.tmp 52) 24 9 (.string ⟨#[]⟩) 16 rfl Tryz.underlying24 info9 rfl (by decide) (by omega) (.slice A l.length c) l uk [.string uk] (fun j => W3.heap.size < j) (fun _ => False) rfl ?hx ?aP (fun _ hk => hk.elim) ?aF ?aO ?aB ?aS ?aL ?_; (case hx => (rw [show (V2.setCell ⟨W3.heap.size, 3, none⟩ (.string sk)).heap.size = V2.heap.size from by simp [World.setCell]]; rfl)); (case aP => exact rfl); (case aB => exact HB.out); (case aF => exact fun j hj => Nat.lt_of_lt_of_le HQ.out hj); (case aO => exact HO.out); (case aS => exact (below_size HB.out)); (case aL => have := HLN.out; omega); intro v1 U ho hb hg hat; have hne : some W3.heap.size ≠ (Value.slice A l.length c).ownBlock := Kd.R_away HO.out (fun j hj e => by omega); have hne0 : some w.heap.size ≠ (Value.slice A l.length c).ownBlock := Kd.R_away HO.out (fun j hj e => by have := HQ0.out; omega); replace HP := Lib.hid ((hg.block W3.heap.size HQ.out hne).trans HP.out); replace HR0 := Lib.hid ((hg.block _ (lt_of_block HR0.out) hne0).trans HR0.out); replace HB := Lib.hid hb; rw [HAP.out] at ho; obtain ⟨A1, c1, rfl⟩ := Kd.R_slice ho; replace HO := Lib.hid ho; replace HQ := Lib.hid (lt_of_block HP.out); clear ho hb hg hat hne hne0; have c4 := cell_of_blk (j := 4) (v := .slice A l.length c) HP.out rfl; have z4 := free_of_blk (j := 4) HP.out))
   go_roundw
   case rel =>
    have hkx1 := HKX.out.2
    have hm := Moved.setCell (S := (· = W3.heap.size)) U (a := ⟨W3.heap.size, 4, none⟩) rfl (.slice A1 (pubs (k + 1)).length c1)
    exact ⟨k + 1, pubs (k + 1), A1, c1, Nat.succ_le_succ hkx1, by go_num, rfl, Moved.below HB.out hm HB.out.size (fun j hj => by subst hj; exact HQw.out), lt_of_block (blk_setCell (j := 4) HP.out), (hm.block _ (lt_of_block HR0.out) (fun e => by have := HQ0.out; omega)).trans HR0.out, by rw [HSG.out]; exact blk_setCell (j := 4) HP.out, Kd.R_far (p := ⟨W3.heap.size, 4, none⟩) HO.out (fun j hj e => by simp only at e; omega) _⟩
   case measure =>
    have hkx1 := HKX.out.2
    have := HX.out.1
    simp only [intOf]
    omega
  have hd : decide ((k : Int) ≤ (x : Int)) = false := decide_eq_false (by omega)
  have hdn : decide (k ≤ x) = false := decide_eq_false hkx
  obtain rfl : k = x + 1 := by omega
  have y0 := cell_of_blk (j := 0) (v := .string ⟨#[97, 110, 110, 97, 47, 110, 111, 116, 101, 115]⟩) HP.out rfl
  have y1 := cell_of_blk (j := 1) (v := .int .i64 (x : Int)) HP.out rfl
  have y2 := cell_of_blk (j := 2) (v := .string st) HP.out rfl
  have y3 := cell_of_blk (j := 3) (v := .string (sgAt (x + 1))) HP.out rfl
  have y4 := cell_of_blk (j := 4) (v := .slice A l.length c) HP.out rfl
  have d0 := cell_of_blk (j := 0) (v := .string ⟨#[]⟩) HR0.out rfl
  have z0 := free_of_blk (j := 0) HR0.out
  have d1 := cell_of_blk (j := 1) (v := .int .i64 0) HR0.out rfl
  have z1 := free_of_blk (j := 1) HR0.out
  have d2 := cell_of_blk (j := 2) (v := .string ⟨#[]⟩) HR0.out rfl
  have z2 := free_of_blk (j := 2) HR0.out
  have d3 := cell_of_blk (j := 3) (v := .string ⟨#[]⟩) HR0.out rfl
  have z3 := free_of_blk (j := 3) HR0.out
  have d4 := cell_of_blk (j := 4) (v := .slice none 0 0) HR0.out rfl
  have z4 := free_of_blk (j := 4) HR0.out
  obtain ⟨hblk, hbe, hmv⟩ := put5 HB.out HR0.out (Nat.le_refl _) (.string ⟨#[97, 110, 110, 97, 47, 110, 111, 116, 101, 115]⟩) (.int .i64 (x : Int)) (.string st) (.string (sgAt (x + 1))) (.slice A l.length c)
  have hC := (Kd.R_reads' (Kd.R_step HO.out (fun j hj hlt => hmv.block j hlt (fun e => by have := HQ0.out; omega)))).2
  have HL := Lib.hid hl
  clear hl hk hkx
  go_wp2
  refine bodyPost_ret (results_cell_row rfl _ _ w.heap.size 45 _ (0, 0) _ rfl hblk Tryz.underlying45 rfl (by kernel_rfl)) rfl ?_
  refine ⟨A, c, ?_, ?_, ?_, hbe⟩
  ·rw [← HL.out]; rfl
  ·rw [← HL.out]; exact hC.1
  ·rw [← HL.out]; exact hC.2
end Go.Proofs.YtphehoidkmficaaGreatDoor
end
section

namespace Go.Proofs.YtphehoidkmficaaGreatDoor
open Go.RowKit Go.Proofs.YtphehoidkmficaaGreatDoorW.PrintWords Go.Proofs.YtphehoidkmficaaGreatDoorW.PrintLast Go.Proofs.YtphehoidkmficaaGreatDoor.Ref
set_option linter.unusedVariables false
set_option linter.unusedSimpArgs false
theorem cat_size (s : ByteArray) (l : List ByteArray) (h : s.size ≤ 1000000) : (catT (s :: l)).size ≤ 9 + s.size + (catT l).size := by
 have := size_numB (n := s.size) (by omega)
 rw [catT_cons, ByteArray.size_append, ByteArray.size_append]; omega
theorem put_size {b : Bl} (h : rightBl b = true) : (putBl b).1.size ≤ 1000000 := by
 obtain ⟨h1, h2, h3⟩ := rightBl_inv h
 have h4 := right_kind h2 (by decide)
 have h5 := right_kind h3 (by decide)
 have h6 := size_numB (n := b.e.toNat) (by omega)
 have h7 := size_numB (n := 3) (by omega)
 have c1 := cat_size (numB b.e.toNat) [b.s, b.g] (by omega)
 have c2 := cat_size b.s [b.g] (by omega)
 have c3 := cat_size b.g [] (by omega)
 have c4 : (catT []).size = 0 := by rw [catT_nil]; rfl
 unfold putBl
 rw [if_pos h]
 simp only [allB]
 rw [ByteArray.size_append]
 change (numB 3).size + _ ≤ _
 omega
def kk (r y : Nat) (sg : ByteArray) : Ky := ⟨notes, (y : Int), tm (hT (7 - y) (rT r)), sg, pubs (y + 1)⟩
def ky (r y : Nat) : Ky := kk r y (tm (sT y))
def bx (r x : Nat) (ct : ByteArray) : Bl := ⟨(x : Int), tm (sealT r (7 - x) (bytes notes) (bytes ct)), tm (sigT x x r (7 - x) (bytes notes) (bytes ct))⟩
def pb (r x : Nat) (ct : ByteArray) : ByteArray := (putBl (bx r x ct)).1
section
variable {r x y : Nat} {ct : ByteArray}
theorem ctl (hc : ct.size ≤ 64) : (bytes ct).length ≤ 64 := by rw [bytes_length]; exact hc
theorem notl : (bytes notes).length ≤ 300 := by decide
theorem bx_right (hx : x ≤ 7) (hr : r < 1000) (hc : ct.size ≤ 64) : rightBl (bx r x ct) = true :=
 rightBl_tm (i := x) (e := x) (r := r) (j := 7 - x) (pa := bytes notes) (ct := bytes ct) (by omega) x (by omega) (by omega) (by omega) (by omega) notl (ctl hc)
theorem pb_take (hx : x ≤ 7) (hr : r < 1000) (hc : ct.size ≤ 64) : takeBl (pb r x ct) = (bx r x ct, 0) := (take_put_bl (bx_right hx hr hc)).1
theorem tmS_ne {n : Nat} (h : n < 1000) : tm (sT n) ≠ ⟨#[]⟩ := by
 intro e
 have h1 := right_sign (i := n) h
 rw [e] at h1
 exact absurd h1 (by decide +kernel)
theorem seal_ky (hx : x ≤ 7) (hr : r < 1000) (hc : ct.size ≤ 64) : rsealF (ky r x) ct = (pb r x ct, 0) := by
 unfold rsealF ky kk
 simp only
 rw [if_neg (tmS_ne (by omega)), build_tm (i := x) (e := x) (r := r) (j := 7 - x) (pa := notes) (ct := ct) (by omega) (by omega) hr (by omega) split_notes hc, if_pos rfl]
 exact Prod.ext rfl (take_put_bl (bx_right hx hr hc)).2
end
theorem kk_st {r y : Nat} (hr : r < 1000) (hy : y ≤ 7) : (tm (hT (7 - y) (rT r))).size ≤ 1000000 := st_small hr (by omega)
theorem notes_small : notes.size ≤ 1000000 := by decide
theorem sealAt {w : World} (HTB : Aside0 (Tabs w)) {r y : Nat} {sg ct : ByteArray} {R : ByteArray × Int} (hr : r < 1000) (hy : y ≤ 7) (hsg : sg.size ≤ 1000000) (hR : rsealF (kk r y sg) ct = R) :
  ∀ (W : World) (A : Option Addr) (n c : Nat), Below w.heap.size w W → Calls Tryz.prog 24 #[.agg #[.string ⟨#[97, 110, 110, 97, 47, 110, 111, 116, 101, 115]⟩, .int .i64 (y : Int), .string (tm (hT (7 - y) (rT r))), .string sg, .slice A n c], .string ct] W fun e w' => e = .returned (.tuple #[.string R.1, .int .i64 R.2]) ∧ Below W.heap.size W w' :=
 fun W A n c hb => hR ▸ seal9_call (k := kk r y sg) A n c ct (kk_st hr hy) hsg notes_small W ⟨HTB.out.below hb⟩
end Go.Proofs.YtphehoidkmficaaGreatDoor
end
section

namespace Go.Proofs.YtphehoidkmficaaGreatDoor
open Go.RowKit Go.Proofs.YtphehoidkmficaaGreatDoorW.PrintWords Go.Proofs.YtphehoidkmficaaGreatDoorW.PrintLast Go.Proofs.YtphehoidkmficaaGreatDoor.Ref
set_option linter.unusedVariables false
set_option linter.unusedSimpArgs false
theorem pb_nil {r x : Nat} {ct : ByteArray} (hx : x ≤ 7) (hr : r < 1000) (hc : ct.size ≤ 64) : (pb r x ct).toList ≠ [] := by
 intro e
 have h1 := pb_take (r := r) hx hr hc
 have h2 : pb r x ct = ⟨#[]⟩ := bs_inj (by rw [← bytes_toList, e]; rfl)
 rw [h2, take_empty] at h1
 exact absurd (show (2 : Int) = 0 from congrArg Prod.snd h1) (by decide)
set_option maxRecDepth 100000 in
set_option maxHeartbeats 8000000 in
theorem shown17_call  (w : World) (HTB : Aside0 (Tabs w))  :
  Calls Tryz.prog 21 #[] w fun e w' => e = .returned (.bool true) ∧ Below w.heap.size w w' := by
 have HK0 := Lib.hid (fun (W : World) (hb : Below w.heap.size w W) => seal9_call (k := ⟨⟨#[]⟩, 0, ⟨#[]⟩, ⟨#[]⟩, []⟩) none 0 0 ⟨#[120]⟩ (by decide) (by decide) (by decide) W ⟨HTB.out.below hb⟩)
 rw [show rsealF ⟨⟨#[]⟩, 0, ⟨#[]⟩, ⟨#[]⟩, []⟩ ⟨#[120]⟩ = (⟨#[]⟩, 6) from by unfold rsealF; rw [if_pos rfl]] at HK0
 have hk := fun W => keysOf_call 0 (x := 2) (by decide) (by omega) W
 rw [show pickN 0 5 = 0 from rfl] at hk
 have HKY := Lib.hid hk
 have hs : rsealF (kk 0 2 (tm (sT 2))) hi = (pb 0 2 hi, 0) := seal_ky (x := 2) (by omega) (by omega) (by decide)
 have HSE := Lib.hid (sealAt HTB (by omega) (by omega) (sg_small (i := 2) (by omega)) hs)
 have hne : (pb 0 2 hi).toList ≠ [] := pb_nil (by omega) (by omega) (by decide)
 have t0 : ((pb 0 2 hi).toList == []) = false := beq_eq_false_iff_ne.2 hne
 simp only at HK0 HSE
 generalize pb 0 2 hi = q at *
 generalize tm (hT (7 - 2) (rT 0)) = st at *
 generalize tm (sT 2) = s2 at *
 generalize pubs (2 + 1) = vs at *
 clear hk hs HTB hne
 have HB := Lib.hid (Below.refl w.heap.size w)
 go_enter Tryz.func21, Tryz.ntmps21
 go_wp2_with fail
 refine (HK0.out _ HB.out).mono ?_
 rintro e W1 ⟨rfl, hb0⟩
 have hb := hb0
 replace HB := Lib.hid (below_step HB.out hb)
 clear hb hb0
 go_wp2_with fail
 refine (HKY.out _).mono ?_
 rintro e W2 ⟨Ak, ck, rfl, hck, hCk, hb0⟩
 have hb := hb0
 replace HB := Lib.hid (below_step HB.out hb)
 clear hb hb0
 have HVk := Lib.hid hCk
 clear hCk
 go_wp2_with fail
 refine (HSE.out _ _ _ _ HB.out).mono ?_
 rintro e W3 ⟨rfl, hb0⟩
 have hb := hb0
 replace HB := Lib.hid (below_step HB.out hb)
 replace HVk := Lib.hid (Kd.C_below HVk.out hb)
 clear hb hb0
 go_wp2
 go_ret
 exact ⟨rfl, HB.out⟩
end Go.Proofs.YtphehoidkmficaaGreatDoor
end
