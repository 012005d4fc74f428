/- Contracts and laws that the statement of LawDataTells,LawWriterTells leans on (packed from this claim's own texts): part 20. -/
import Derived.Test.YtphehoidkmficaaGreatDoorQT7
import Derived.Test.YtphehoidkmficaaGreatDoorQT18
import Derived.Test.YtphehoidkmficaaGreatDoorQT19
section

namespace Go.Proofs.YtphehoidkmficaaGreatDoor
open Go.RowKit Go.Proofs.YtphehoidkmficaaGreatDoorW.PrintWords Go.Proofs.YtphehoidkmficaaGreatDoorW.PrintLast Go.Proofs.YtphehoidkmficaaGreatDoor.Ref
set_option linter.unusedVariables false
set_option linter.unusedSimpArgs false
theorem rowS_get {w : World} {A : Option Addr} {l : List ByteArray} (h : Kd.C Kd.string w A l.length l) (k : Nat) (hk : k < l.length) : ∃ ad, A = some ad ∧ w.cell? (ad.add k) = some (.string l[k]) := by
 obtain ⟨ad, rfl, hc⟩ := h.2.2 (by omega)
 obtain ⟨cs, hl, rfl, hz⟩ := hc k l[k] (List.getElem?_eq_getElem hk)
 refine ⟨ad, rfl, ?_⟩
 have := hz 0 _ rfl
 simpa [Kd.string, Kd.scalar] using this
set_option maxRecDepth 100000 in
set_option maxHeartbeats 2000000 in
theorem as9_call (b : Bl) (w : World) : Calls Tryz.prog 10 #[.agg #[.int .i64 b.e, .string b.s, .string b.g]] w fun e w' => e = .returned (.agg #[.int .i64 b.e, .string b.s, .string b.g]) ∧ Below w.heap.size w w' := by
 have hblk := wnew (w.alloc (.cells #[.int .i64 b.e, .string b.s, .string b.g] 23)) (.cells #[.int .i64 b.e, .string b.s, .string b.g] 26)
 have hbe : Below w.heap.size w ((w.alloc (.cells #[.int .i64 b.e, .string b.s, .string b.g] 23)).alloc (.cells #[.int .i64 b.e, .string b.s, .string b.g] 26)) := below_alloc (below_alloc (Below.refl _ _) _) _
 rw [show (w.alloc (.cells #[.int .i64 b.e, .string b.s, .string b.g] 23)).heap.size = w.heap.size + 1 from by simp] at hblk
 go_enter Tryz.func10, Tryz.ntmps10
 go_wp2
 refine bodyPost_ret (results_cell_row rfl _ _ (w.heap.size + 1) 26 _ (0, 0) _ rfl hblk Tryz.underlying26 rfl (by kernel_rfl)) rfl ?_
 exact ⟨rfl, hbe⟩
def tl9.T18 : Bool × List (List Nat × List Nat) := (true, [([], []), ([0], [0]), ([], []), ([2, 1], [2]), ([1, 3], [1, 3]), ([4, 3], [4]), ([5], [5]), ([5], [5]), ([6, 7, 5], [5, 6, 7]), ([5, 8], [5, 8]), ([9, 5], [9]), ([10], [10]), ([10], [10]), ([11, 12, 10], [10, 11, 12]), ([10, 13], [10, 13]), ([14, 10], [14]), ([15], [15]), ([16, 15, 15], [15, 16]), ([15], [15]), ([17, 18, 15], [15, 17, 18]), ([15, 19], [15, 19]), ([20, 17], [20]), ([21], [21]), ([21], [21]), ([22, 23, 21], [21, 22, 23]), ([21, 24], [21, 24]), ([25, 21], [25]), ([26], [26]), ([27, 26, 26], [26, 27]), ([26], [26]), ([28, 29, 26], [26, 28, 29]), ([26, 30], [26, 30]), ([31, 28], [31]), ([32], [32]), ([32], [32]), ([33, 34, 32], [32, 33, 34]), ([32, 35], [32, 35]), ([36, 32], [36]), ([37], [37]), ([37], [37]), ([38, 39, 37], [37, 38, 39]), ([37, 40], [37, 40]), ([41, 37], [41]), ([42], [42]), ([42], [42]), ([43, 44, 42], [42, 43, 44]), ([42, 45], [42, 45]), ([46, 42, 0, 1, 2, 3, 4, 5, 6, 7, 8, 9, 10, 11, 12, 13, 14, 15, 16, 17, 18, 19, 20, 21, 22, 23, 24, 25, 26, 27, 28, 29, 30, 31, 32, 33, 34, 35, 36, 37, 38, 39, 40, 41, 42, 43, 44, 45, 46], [46])])
def tl9.B18 : List Nat := [0, 1, 0, 7, 15, 31, 63, 63, 255, 511, 1023, 2047, 2047, 8191, 16383, 32767, 65535, 131071, 65535, 524287, 1048575, 2097151, 4194303, 4194303, 16777215, 33554431, 67108863, 134217727, 268435455, 134217727, 1073741823, 2147483647, 4294967295, 8589934591, 8589934591, 34359738367, 68719476735, 137438953471, 274877906943, 274877906943, 1099511627775, 2199023255551, 4398046511103, 8796093022207, 8796093022207, 35184372088831, 70368744177663, 140737488355327]
theorem tl9.tab18 : rtab .any (opsOf Tryz.f3 18) = tl9.T18 := by kernel_rfl
theorem tl9.bits18 : waitsOk tl9.T18.2 tl9.B18 = true := by kernel_rfl
set_option maxRecDepth 100000 in
set_option maxHeartbeats 8000000 in
theorem tells9_any (b : Bl) (s st : ByteArray) (e0 : Int) (sg pa : ByteArray) (A : Option Addr) (cap : Nat) (l : List ByteArray) (w : World) (HTB : Aside0 (Tabs w)) (hr : Kd.C Kd.string w A l.length l ∧ l.length ≤ cap) (z0 : b.s.size ≤ 140737488351232 ∧ b.g.size ≤ 140737488351232) (z1 : s.size ≤ 140737488351232) (z2 : st.size ≤ 140737488351232) (h3 : (Lit.int .i64 e0).wf = true) (z4 : sg.size ≤ 140737488351232) (z5 : pa.size ≤ 140737488351232) (z6 : l.length ≤ 9223372036854775807 ∧ ∀ x ∈ l, x.size ≤ 9223372036854775807) :
  Calls Tryz.prog 3 #[.agg #[.int .i64 b.e, .string b.s, .string b.g], .string s, .string st, .int .i64 e0, .string sg, .string pa, .slice A l.length cap] w fun e w' => e = .returned (.bool true) ∧ Below w.heap.size w w' := by
 have HSH := Lib.hid (fun (W : World) (hb : Below w.heap.size w W) => shown9_call W ⟨HTB.out.below hb⟩)
 have HI := Lib.hid (show I64 e0 by simpa [Lit.wf, IntKind.min, IntKind.max, IntKind.bits, IntKind.signed] using h3)
 clear h3
 have HXb : Hid ((w.alloc (.cells #[.int .i64 b.e, .string b.s, .string b.g] 23)).heap[w.heap.size]? = some (.cells #[.int .i64 b.e, .string b.s, .string b.g] 23 (0, 0))) := Lib.hid (wnew w _)
 have HB := Lib.hid (below_alloc (Below.refl w.heap.size w) (.cells #[.int .i64 b.e, .string b.s, .string b.g] 23))
 have HVv := Lib.hid (Kd.C_below hr.1 HB.out)
 have hcv := hr.2
 have H6 := Lib.hid z6
 clear hr z6
 go_enter Tryz.func3, Tryz.ntmps3
 go_wp2_with fail
 refine (HSH.out _ HB.out).mono ?_
 rintro e W1 ⟨rfl, hb0⟩
 have hb := hb0
 replace HB := Lib.hid (below_step HB.out hb)
 replace HXb := Lib.hid (blk_below HXb.out hb)
 replace HVv := Lib.hid (Kd.C_below HVv.out hb)
 clear hb hb0
 by_cases q1 : b.s.size + b.g.size + s.size ≤ 9000
 rotate_left
 ·have t0 : decide (9000 < (b.s.size : Int) + (b.g.size : Int) + (s.size : Int)) = true := decide_eq_true (by omega)
  have x1 := cell_of_blk (j := 1) (v := .string b.s) HXb.out rfl
  have x2 := cell_of_blk (j := 2) (v := .string b.g) HXb.out rfl
  go_wp2
  go_ret
  exact ⟨rfl, HB.out⟩
 have t0 : decide (9000 < (b.s.size : Int) + (b.g.size : Int) + (s.size : Int)) = false := decide_eq_false (by omega)
 by_cases q2 : st.size + sg.size + pa.size ≤ 9000
 rotate_left
 ·have t1 : decide (9000 < (st.size : Int) + (sg.size : Int) + (pa.size : Int)) = true := decide_eq_true (by omega)
  have x1 := cell_of_blk (j := 1) (v := .string b.s) HXb.out rfl
  have x2 := cell_of_blk (j := 2) (v := .string b.g) HXb.out rfl
  go_wp2
  go_ret
  exact ⟨rfl, HB.out⟩
 have t1 : decide (9000 < (st.size : Int) + (sg.size : Int) + (pa.size : Int)) = false := decide_eq_false (by omega)
 by_cases q3 : l.length ≤ 20
 rotate_left
 ·have t2 : decide (20 < (l.length : Int)) = true := decide_eq_true (by omega)
  have x1 := cell_of_blk (j := 1) (v := .string b.s) HXb.out rfl
  have x2 := cell_of_blk (j := 2) (v := .string b.g) HXb.out rfl
  go_wp2
  go_ret
  exact ⟨rfl, HB.out⟩
 have t2 : decide (20 < (l.length : Int)) = false := decide_eq_false (by omega)
 have x1 := cell_of_blk (j := 1) (v := .string b.s) HXb.out rfl
 have x2 := cell_of_blk (j := 2) (v := .string b.g) HXb.out rfl
 go_wp2_with fail
 clear x1 x2
 have HQ := Lib.hid (And.intro q1 (And.intro q2 q3))
 clear q1 q2 t0 t1 t2 z0 z1 z2 z4 z5
 go_loopw [16] (fun i wr => ∃ k : Nat, k ≤ l.length ∧ i = .int .i64 k ∧ (∀ j (h : j < l.length), j < k → l[j].size ≤ 2000) ∧ Below w.heap.size w wr ∧ wr.heap[w.heap.size]? = some (.cells #[.int .i64 b.e, .string b.s, .string b.g] 23 (0, 0)) ∧ Kd.C Kd.string wr A l.length l) (fun i _ => 100 - (intOf i).toNat)
 case atStart => exact ⟨0, by omega, rfl, fun j h h0 => absurd h0 (by omega), HB.out, HXb.out, HVv.out⟩
 case round =>
  obtain ⟨k, hk, rfl, hsm, hbr, hxb, hvv⟩ := hrel
  clear HB HXb HVv
  have HB := Lib.hid hbr
  have HXb := Lib.hid hxb
  have HVv := Lib.hid hvv
  have HSM := Lib.hid hsm
  clear hbr hxb hvv hsm
  by_cases hkl : k < l.length
  ·skip
   have hd : decide ((k : Int) < (l.length : Int)) = true := decide_eq_true (by omega)
   have hdn : decide (k < l.length) = true := decide_eq_true hkl
   obtain ⟨ad, hA, hcell⟩ := rowS_get HVv.out k hkl
   subst hA
   have hk20 : (k : Int) ≤ 20 := by omega
   by_cases hz : l[k].size ≤ 2000
   rotate_left
   ·have t3 : decide (2000 < (l[k].size : Int)) = true := decide_eq_true (by omega)
    generalize l[k] = u at *
    go_wp2
    go_ret
    exact ⟨rfl, HB.out⟩
   have t3 : decide (2000 < (l[k].size : Int)) = false := decide_eq_false (by omega)
   have hnx : ∀ j (h : j < l.length), j < k + 1 → l[j].size ≤ 2000 := fun j h hj => by
    rcases Nat.lt_succ_iff_lt_or_eq.1 hj with h1 | h1
    ·exact HSM.out j h h1
    ·subst h1; exact hz
   have HNX := Lib.hid hnx
   clear hnx hz
   generalize l[k] = u at *
   go_wp2
   go_roundw
   case rel => exact ⟨k + 1, hkl, by go_num, HNX.out, HB.out, HXb.out, HVv.out⟩
   case measure => simp only [intOf]; omega
  have hd : decide ((k : Int) < (l.length : Int)) = false := decide_eq_false (by omega)
  have hdn : decide (k < l.length) = false := decide_eq_false hkl
  obtain ⟨q1, q2, q3'⟩ := HQ.out
  have hI := HI.out
  have hvs : ∀ x ∈ l, x.size ≤ 1000000 := fun x hx => by
   obtain ⟨j, hj, rfl⟩ := List.mem_iff_getElem.1 hx
   have := HSM.out j hj (by omega)
   omega
  have HAS := Lib.hid (fun (B : Bl) (W : World) => as9_call B W)
  have HP1 := Lib.hid (putBl_call b (by omega) (by omega))
  have HP2 := Lib.hid (fun (W : World) => refPut9_call b W)
  have HT1 := Lib.hid (takeBl_call s (by omega))
  have HT2 := Lib.hid (refTake9_call s (by omega))
  obtain ⟨B1, hB1⟩ : ∃ B1, takeBl s = B1 := ⟨_, rfl⟩
  obtain ⟨B2, hB2⟩ : ∃ B2, buildF st e0 sg pa s = B2 := ⟨_, rfl⟩
  have HM1 := Lib.hid (bl_at (w := w) (show st.size ≤ 1000000 by omega) (show sg.size ≤ 1000000 by omega) (show pa.size ≤ 1000000 by omega) HTB hB2)
  have HM2 := Lib.hid (fun (W : World) => refBuild9_call st sg pa s e0 (by omega) (by omega) W)
  obtain ⟨O, hO⟩ : ∃ O, openBl b l st e0 pa = O := ⟨_, rfl⟩
  have HO1 := Lib.hid (op_at hO (by omega) (by omega) (by omega) hvs (by omega))
  have HO2 := Lib.hid (fun (W : World) (h : Kd.C Kd.string W A l.length l) => refOpen9_call b l st pa e0 (by omega) (by omega) A cap hcv W h)
  have HR1 := Lib.hid (rightBl_call b (by omega) (by omega))
  have HR2 := Lib.hid (fun (W : World) => refRight9_call b W)
  rw [hB1] at HT1 HT2
  rw [hB2] at HM2
  rw [hO] at HO2
  clear hB1 hB2 hO
  generalize putBl b = P at *
  generalize rightBl b = RB at *
  clear q1 q2 hI hvs HSM HQ HI HTB HSH H6 hk hkl
  have hB := HB
  have xb0 := cell_of_blk (j := 0) (v := .int .i64 b.e) HXb.out rfl
  have xb1 := cell_of_blk (j := 1) (v := .string b.s) HXb.out rfl
  have xb2 := cell_of_blk (j := 2) (v := .string b.g) HXb.out rfl
  go_wp2_with fail
  refine (HAS.out b _).mono ?_
  rintro e W21 ⟨rfl, hb0⟩
  clear xb0 xb1 xb2
  have hb := hb0
  replace HB := Lib.hid (below_step HB.out hb)
  replace HXb := Lib.hid (blk_below HXb.out hb)
  replace HVv := Lib.hid (Kd.C_below HVv.out hb)
  clear hb hb0
  replace HB := Lib.hid (below_alloc HB.out (.cells #[.int .i64 b.e, .string b.s, .string b.g] 26))
  replace HXb := Lib.hid (wkeep HXb.out (.cells #[.int .i64 b.e, .string b.s, .string b.g] 26))
  replace HVv := Lib.hid (Kd.C_below HVv.out (below_alloc (Below.refl _ _) (.cells #[.int .i64 b.e, .string b.s, .string b.g] 26)))
  have HXx := Lib.hid (wnew W21 (.cells #[.int .i64 b.e, .string b.s, .string b.g] 26))
  have xb0 := cell_of_blk (j := 0) (v := .int .i64 b.e) HXb.out rfl
  have xb1 := cell_of_blk (j := 1) (v := .string b.s) HXb.out rfl
  have xb2 := cell_of_blk (j := 2) (v := .string b.g) HXb.out rfl
  go_wp2_with fail
  refine (HP1.out _).mono ?_
  rintro e W22 ⟨rfl, hb0⟩
  clear xb0 xb1 xb2
  have hb := hb0
  replace HB := Lib.hid (below_step HB.out hb)
  replace HXb := Lib.hid (blk_below HXb.out hb)
  replace HXx := Lib.hid (blk_below HXx.out hb)
  replace HVv := Lib.hid (Kd.C_below HVv.out hb)
  clear hb hb0
  have xx0 := cell_of_blk (j := 0) (v := .int .i64 b.e) HXx.out rfl
  have xx1 := cell_of_blk (j := 1) (v := .string b.s) HXx.out rfl
  have xx2 := cell_of_blk (j := 2) (v := .string b.g) HXx.out rfl
  go_wp2_with fail
  refine (HP2.out _).mono ?_
  rintro e W23 ⟨rfl, hb0⟩
  clear xx0 xx1 xx2
  have hb := hb0
  replace HB := Lib.hid (below_step HB.out hb)
  replace HXb := Lib.hid (blk_below HXb.out hb)
  replace HXx := Lib.hid (blk_below HXx.out hb)
  replace HVv := Lib.hid (Kd.C_below HVv.out hb)
  clear hb hb0
  go_wp2_with fail
  refine (HT1.out _).mono ?_
  rintro e W24 ⟨rfl, hb0⟩
  have hb := hb0
  replace HB := Lib.hid (below_step HB.out hb)
  replace HXb := Lib.hid (blk_below HXb.out hb)
  replace HXx := Lib.hid (blk_below HXx.out hb)
  replace HVv := Lib.hid (Kd.C_below HVv.out hb)
  clear hb hb0
  replace HB := Lib.hid (below_alloc HB.out (.cells #[.int .i64 B1.1.e, .string B1.1.s, .string B1.1.g] 23))
  replace HXb := Lib.hid (wkeep HXb.out (.cells #[.int .i64 B1.1.e, .string B1.1.s, .string B1.1.g] 23))
  replace HXx := Lib.hid (wkeep HXx.out (.cells #[.int .i64 B1.1.e, .string B1.1.s, .string B1.1.g] 23))
  replace HVv := Lib.hid (Kd.C_below HVv.out (below_alloc (Below.refl _ _) (.cells #[.int .i64 B1.1.e, .string B1.1.s, .string B1.1.g] 23)))
  have HXd := Lib.hid (wnew W24 (.cells #[.int .i64 B1.1.e, .string B1.1.s, .string B1.1.g] 23))
  go_wp2_with fail
  refine (HT2.out _).mono ?_
  rintro e W25 ⟨rfl, hb0⟩
  have hb := hb0
  replace HB := Lib.hid (below_step HB.out hb)
  replace HXb := Lib.hid (blk_below HXb.out hb)
  replace HXx := Lib.hid (blk_below HXx.out hb)
  replace HXd := Lib.hid (blk_below HXd.out hb)
  replace HVv := Lib.hid (Kd.C_below HVv.out hb)
  clear hb hb0
  replace HB := Lib.hid (below_alloc HB.out (.cells #[.int .i64 B1.1.e, .string B1.1.s, .string B1.1.g] 26))
  replace HXb := Lib.hid (wkeep HXb.out (.cells #[.int .i64 B1.1.e, .string B1.1.s, .string B1.1.g] 26))
  replace HXx := Lib.hid (wkeep HXx.out (.cells #[.int .i64 B1.1.e, .string B1.1.s, .string B1.1.g] 26))
  replace HXd := Lib.hid (wkeep HXd.out (.cells #[.int .i64 B1.1.e, .string B1.1.s, .string B1.1.g] 26))
  replace HVv := Lib.hid (Kd.C_below HVv.out (below_alloc (Below.refl _ _) (.cells #[.int .i64 B1.1.e, .string B1.1.s, .string B1.1.g] 26)))
  have HXu := Lib.hid (wnew W25 (.cells #[.int .i64 B1.1.e, .string B1.1.s, .string B1.1.g] 26))
  go_wp2_with fail
  refine (HM1.out _ HB.out).mono ?_
  rintro e W26 ⟨rfl, hb0⟩
  have hb := hb0
  replace HB := Lib.hid (below_step HB.out hb)
  replace HXb := Lib.hid (blk_below HXb.out hb)
  replace HXx := Lib.hid (blk_below HXx.out hb)
  replace HXd := Lib.hid (blk_below HXd.out hb)
  replace HXu := Lib.hid (blk_below HXu.out hb)
  replace HVv := Lib.hid (Kd.C_below HVv.out hb)
  clear hb hb0
  replace HB := Lib.hid (below_alloc HB.out (.cells #[.int .i64 B2.1.e, .string B2.1.s, .string B2.1.g] 23))
  replace HXb := Lib.hid (wkeep HXb.out (.cells #[.int .i64 B2.1.e, .string B2.1.s, .string B2.1.g] 23))
  replace HXx := Lib.hid (wkeep HXx.out (.cells #[.int .i64 B2.1.e, .string B2.1.s, .string B2.1.g] 23))
  replace HXd := Lib.hid (wkeep HXd.out (.cells #[.int .i64 B2.1.e, .string B2.1.s, .string B2.1.g] 23))
  replace HXu := Lib.hid (wkeep HXu.out (.cells #[.int .i64 B2.1.e, .string B2.1.s, .string B2.1.g] 23))
  replace HVv := Lib.hid (Kd.C_below HVv.out (below_alloc (Below.refl _ _) (.cells #[.int .i64 B2.1.e, .string B2.1.s, .string B2.1.g] 23)))
  have HXp := Lib.hid (wnew W26 (.cells #[.int .i64 B2.1.e, .string B2.1.s, .string B2.1.g] 23))
  go_wp2_with fail
  refine (HM2.out _).mono ?_
  rintro e W27 ⟨rfl, hb0⟩
  have hb := hb0
  replace HB := Lib.hid (below_step HB.out hb)
  replace HXb := Lib.hid (blk_below HXb.out hb)
  replace HXx := Lib.hid (blk_below HXx.out hb)
  replace HXd := Lib.hid (blk_below HXd.out hb)
  replace HXu := Lib.hid (blk_below HXu.out hb)
  replace HXp := Lib.hid (blk_below HXp.out hb)
  replace HVv := Lib.hid (Kd.C_below HVv.out hb)
  clear hb hb0
  replace HB := Lib.hid (below_alloc HB.out (.cells #[.int .i64 B2.1.e, .string B2.1.s, .string B2.1.g] 26))
  replace HXb := Lib.hid (wkeep HXb.out (.cells #[.int .i64 B2.1.e, .string B2.1.s, .string B2.1.g] 26))
  replace HXx := Lib.hid (wkeep HXx.out (.cells #[.int .i64 B2.1.e, .string B2.1.s, .string B2.1.g] 26))
  replace HXd := Lib.hid (wkeep HXd.out (.cells #[.int .i64 B2.1.e, .string B2.1.s, .string B2.1.g] 26))
  replace HXu := Lib.hid (wkeep HXu.out (.cells #[.int .i64 B2.1.e, .string B2.1.s, .string B2.1.g] 26))
  replace HXp := Lib.hid (wkeep HXp.out (.cells #[.int .i64 B2.1.e, .string B2.1.s, .string B2.1.g] 26))
  replace HVv := Lib.hid (Kd.C_below HVv.out (below_alloc (Below.refl _ _) (.cells #[.int .i64 B2.1.e, .string B2.1.s, .string B2.1.g] 26)))
  have HXq := Lib.hid (wnew W27 (.cells #[.int .i64 B2.1.e, .string B2.1.s, .string B2.1.g] 26))
  have xb0 := cell_of_blk (j := 0) (v := .int .i64 b.e) HXb.out rfl
  have xb1 := cell_of_blk (j := 1) (v := .string b.s) HXb.out rfl
  have xb2 := cell_of_blk (j := 2) (v := .string b.g) HXb.out rfl
  go_wp2_with fail
  refine (HO1.out _ _ _ hcv HVv.out).mono ?_
  rintro e W28 ⟨rfl, hb0⟩
  clear xb0 xb1 xb2
  have hb := hb0
  replace HB := Lib.hid (below_step HB.out hb)
  replace HXb := Lib.hid (blk_below HXb.out hb)
  replace HXx := Lib.hid (blk_below HXx.out hb)
  replace HXd := Lib.hid (blk_below HXd.out hb)
  replace HXu := Lib.hid (blk_below HXu.out hb)
  replace HXp := Lib.hid (blk_below HXp.out hb)
  replace HXq := Lib.hid (blk_below HXq.out hb)
  replace HVv := Lib.hid (Kd.C_below HVv.out hb)
  clear hb hb0
  have xx0 := cell_of_blk (j := 0) (v := .int .i64 b.e) HXx.out rfl
  have xx1 := cell_of_blk (j := 1) (v := .string b.s) HXx.out rfl
  have xx2 := cell_of_blk (j := 2) (v := .string b.g) HXx.out rfl
  go_wp2_with fail
  refine (HO2.out _ HVv.out).mono ?_
  rintro e W29 ⟨rfl, hb0⟩
  clear xx0 xx1 xx2
  have hb := hb0
  replace HB := Lib.hid (below_step HB.out hb)
  replace HXb := Lib.hid (blk_below HXb.out hb)
  replace HXx := Lib.hid (blk_below HXx.out hb)
  replace HXd := Lib.hid (blk_below HXd.out hb)
  replace HXu := Lib.hid (blk_below HXu.out hb)
  replace HXp := Lib.hid (blk_below HXp.out hb)
  replace HXq := Lib.hid (blk_below HXq.out hb)
  replace HVv := Lib.hid (Kd.C_below HVv.out hb)
  clear hb hb0
  go_wp2_with fail
  have hb0 : Below W29.heap.size W29 W29.drew := below_drew (Below.refl _ _)
  have hb := hb0
  replace HB := Lib.hid (below_step HB.out hb)
  replace HXb := Lib.hid (blk_below HXb.out hb)
  replace HXx := Lib.hid (blk_below HXx.out hb)
  replace HXd := Lib.hid (blk_below HXd.out hb)
  replace HXu := Lib.hid (blk_below HXu.out hb)
  replace HXp := Lib.hid (blk_below HXp.out hb)
  replace HXq := Lib.hid (blk_below HXq.out hb)
  replace HVv := Lib.hid (Kd.C_below HVv.out hb)
  clear hb hb0
  refine start_ (n := 48) (S := fun w' => w'.cell? ⟨w.heap.size, 0, none⟩ = some (.int .i64 b.e) ∧ w'.cell? ⟨w.heap.size, 1, none⟩ = some (.string b.s) ∧ w'.cell? ⟨w.heap.size, 2, none⟩ = some (.string b.g) ∧ w'.cell? ⟨W21.heap.size, 0, none⟩ = some (.int .i64 b.e) ∧ w'.cell? ⟨W21.heap.size, 1, none⟩ = some (.string b.s) ∧ w'.cell? ⟨W21.heap.size, 2, none⟩ = some (.string b.g) ∧ w'.cell? ⟨W24.heap.size, 0, none⟩ = some (.int .i64 B1.1.e) ∧ w'.cell? ⟨W24.heap.size, 1, none⟩ = some (.string B1.1.s) ∧ w'.cell? ⟨W24.heap.size, 2, none⟩ = some (.string B1.1.g) ∧ w'.cell? ⟨W25.heap.size, 0, none⟩ = some (.int .i64 B1.1.e) ∧ w'.cell? ⟨W25.heap.size, 1, none⟩ = some (.string B1.1.s) ∧ w'.cell? ⟨W25.heap.size, 2, none⟩ = some (.string B1.1.g) ∧ w'.cell? ⟨W26.heap.size, 0, none⟩ = some (.int .i64 B2.1.e) ∧ w'.cell? ⟨W26.heap.size, 1, none⟩ = some (.string B2.1.s) ∧ w'.cell? ⟨W26.heap.size, 2, none⟩ = some (.string B2.1.g) ∧ w'.cell? ⟨W27.heap.size, 0, none⟩ = some (.int .i64 B2.1.e) ∧ w'.cell? ⟨W27.heap.size, 1, none⟩ = some (.string B2.1.s) ∧ w'.cell? ⟨W27.heap.size, 2, none⟩ = some (.string B2.1.g)) (ds := []) #[false, false, false, false, false, false, false, false, false, false, false, false, false, false, false, false, false, false, false, false, false, false, false, false, false, false, false, false, false, false, false, false, false, false, false, false, false, false, false, false, false, false, false, false, false, false, false, false] (by kernel_rfl) rfl rfl ⟨(cell_of_blk HXb.out rfl), (cell_of_blk HXb.out rfl), (cell_of_blk HXb.out rfl), (cell_of_blk HXx.out rfl), (cell_of_blk HXx.out rfl), (cell_of_blk HXx.out rfl), (cell_of_blk HXd.out rfl), (cell_of_blk HXd.out rfl), (cell_of_blk HXd.out rfl), (cell_of_blk HXu.out rfl), (cell_of_blk HXu.out rfl), (cell_of_blk HXu.out rfl), (cell_of_blk HXp.out rfl), (cell_of_blk HXp.out rfl), (cell_of_blk HXp.out rfl), (cell_of_blk HXq.out rfl), (cell_of_blk HXq.out rfl), (cell_of_blk HXq.out rfl)⟩ (fun hHeld => ?_)
  refine with_tabW tl9.tab18 tl9.bits18 (fun HT_ HW_ => ?_)
  refine take_ (i := 0) (N := some 137) (v := ?_) (a' := ?_) #[true, false, false, false, false, false, false, false, false, false, false, false, false, false, false, false, false, false, false, false, false, false, false, false, false, false, false, false, false, false, false, false, false, false, false, false, false, false, false, false, false, false, false, false, false, false, false, false] rfl rfl (take_ofW HT_.out HW_.out (by kernel_rfl)) (fun _ _ _ h => h) (Or.inl ⟨by rfl, ?_⟩) hHeld ?_ ?_
  rotate_left
  ·rintro w' ⟨s0, s1, s2, s3, s4, s5, s6, s7, s8, s9, s10, s11, s12, s13, s14, s15, s16, s17⟩
   go_simp
   with_reducible rfl
  rotate_left
  ·simp only [Act.put, List.setIfInBounds_toArray, List.set_cons_zero, List.set_cons_succ, i64_w, i32_w]
   rfl
  refine take_ (i := 2) (N := some 139) (v := ?_) (a' := ?_) #[true, false, true, false, false, false, false, false, false, false, false, false, false, false, false, false, false, false, false, false, false, false, false, false, false, false, false, false, false, false, false, false, false, false, false, false, false, false, false, false, false, false, false, false, false, false, false, false] rfl rfl (take_ofW HT_.out HW_.out (by kernel_rfl)) (fun _ _ _ h => h) (Or.inl ⟨by rfl, ?_⟩) hHeld ?_ ?_
  rotate_left
  ·rintro w' ⟨s0, s1, s2, s3, s4, s5, s6, s7, s8, s9, s10, s11, s12, s13, s14, s15, s16, s17⟩
   go_simp
   with_reducible rfl
  rotate_left
  ·simp only [Act.put, List.setIfInBounds_toArray, List.set_cons_zero, List.set_cons_succ, i64_w, i32_w]
   rfl
  refine one_ (i := 1) (N := some 138) #[true, true, true, false, false, false, false, false, false, false, false, false, false, false, false, false, false, false, false, false, false, false, false, false, false, false, false, false, false, false, false, false, false, false, false, false, false, false, false, false, false, false, false, false, false, false, false, false] rfl rfl (one_of HT_.out (by kernel_rfl)) (by decide) (fun K hK => ?_)
  refine goes_ Tryz.func19 (by kernel_rfl) rfl #[.agg #[.int .i64 b.e, .string b.s, .string b.g]] (by rfl) rfl rfl (by simp only [List.map_toArray, List.map_cons, List.map_nil]; rfl) ?_
  refine (HR1.out _).mono ?_
  rintro e W30 ⟨rfl, hb0⟩
  refine ⟨_, rfl, ?_⟩
  have hb := hb0
  replace HB := Lib.hid (below_step HB.out hb)
  replace HXb := Lib.hid (blk_below HXb.out hb)
  replace HXx := Lib.hid (blk_below HXx.out hb)
  replace HXd := Lib.hid (blk_below HXd.out hb)
  replace HXu := Lib.hid (blk_below HXu.out hb)
  replace HXp := Lib.hid (blk_below HXp.out hb)
  replace HXq := Lib.hid (blk_below HXq.out hb)
  replace HVv := Lib.hid (Kd.C_below HVv.out hb)
  clear hb hb0
  refine hK.out _ _ ⟨(cell_of_blk HXb.out rfl), (cell_of_blk HXb.out rfl), (cell_of_blk HXb.out rfl), (cell_of_blk HXx.out rfl), (cell_of_blk HXx.out rfl), (cell_of_blk HXx.out rfl), (cell_of_blk HXd.out rfl), (cell_of_blk HXd.out rfl), (cell_of_blk HXd.out rfl), (cell_of_blk HXu.out rfl), (cell_of_blk HXu.out rfl), (cell_of_blk HXu.out rfl), (cell_of_blk HXp.out rfl), (cell_of_blk HXp.out rfl), (cell_of_blk HXp.out rfl), (cell_of_blk HXq.out rfl), (cell_of_blk HXq.out rfl), (cell_of_blk HXq.out rfl)⟩ (fun hHeld => ?_)
  clear hK K
  refine norm_ (a' := ?_) ?_ ?_
  rotate_left
  ·show Act.put _ (some 138) _ = _
   simp only [Act.put, List.setIfInBounds_toArray, List.set_cons_zero, List.set_cons_succ, i64_w, i32_w]
   rfl
  refine one_ (i := 3) (N := some 140) #[true, true, true, true, false, false, false, false, false, false, false, false, false, false, false, false, false, false, false, false, false, false, false, false, false, false, false, false, false, false, false, false, false, false, false, false, false, false, false, false, false, false, false, false, false, false, false, false] rfl rfl (one_of HT_.out (by kernel_rfl)) (by decide) (fun K hK => ?_)
  refine goes_ Tryz.func20 (by kernel_rfl) rfl #[.agg #[.int .i64 b.e, .string b.s, .string b.g]] (by rfl) rfl rfl (by simp only [List.map_toArray, List.map_cons, List.map_nil]; rfl) ?_
  refine (HR2.out _).mono ?_
  rintro e W31 ⟨rfl, hb0⟩
  refine ⟨_, rfl, ?_⟩
  have hb := hb0
  replace HB := Lib.hid (below_step HB.out hb)
  replace HXb := Lib.hid (blk_below HXb.out hb)
  replace HXx := Lib.hid (blk_below HXx.out hb)
  replace HXd := Lib.hid (blk_below HXd.out hb)
  replace HXu := Lib.hid (blk_below HXu.out hb)
  replace HXp := Lib.hid (blk_below HXp.out hb)
  replace HXq := Lib.hid (blk_below HXq.out hb)
  replace HVv := Lib.hid (Kd.C_below HVv.out hb)
  clear hb hb0
  refine hK.out _ _ ⟨(cell_of_blk HXb.out rfl), (cell_of_blk HXb.out rfl), (cell_of_blk HXb.out rfl), (cell_of_blk HXx.out rfl), (cell_of_blk HXx.out rfl), (cell_of_blk HXx.out rfl), (cell_of_blk HXd.out rfl), (cell_of_blk HXd.out rfl), (cell_of_blk HXd.out rfl), (cell_of_blk HXu.out rfl), (cell_of_blk HXu.out rfl), (cell_of_blk HXu.out rfl), (cell_of_blk HXp.out rfl), (cell_of_blk HXp.out rfl), (cell_of_blk HXp.out rfl), (cell_of_blk HXq.out rfl), (cell_of_blk HXq.out rfl), (cell_of_blk HXq.out rfl)⟩ (fun hHeld => ?_)
  clear hK K
  refine norm_ (a' := ?_) ?_ ?_
  rotate_left
  ·show Act.put _ (some 140) _ = _
   simp only [Act.put, List.setIfInBounds_toArray, List.set_cons_zero, List.set_cons_succ, i64_w, i32_w]
   rfl
  refine pure_ (i := 4) (N := some 141) (v := ?_) (a' := ?_) #[true, true, true, true, true, false, false, false, false, false, false, false, false, false, false, false, false, false, false, false, false, false, false, false, false, false, false, false, false, false, false, false, false, false, false, false, false, false, false, false, false, false, false, false, false, false, false, false] rfl rfl (any_of HT_.out (by kernel_rfl)) (fun _ _ _ h => h) (Or.inl ⟨by rfl, ?_⟩) ?_ ?_
  rotate_left
  ·intro w'
   go_simp
   with_reducible rfl
  rotate_left
  ·simp only [Act.put, List.setIfInBounds_toArray, List.set_cons_zero, List.set_cons_succ, i64_w, i32_w]
   rfl
  refine pure_ (i := 5) (N := some 142) (v := ?_) (a' := ?_) #[true, true, true, true, true, true, false, false, false, false, false, false, false, false, false, false, false, false, false, false, false, false, false, false, false, false, false, false, false, false, false, false, false, false, false, false, false, false, false, false, false, false, false, false, false, false, false, false] rfl rfl (any_of HT_.out (by kernel_rfl)) (fun _ _ _ h => h) (Or.inl ⟨by rfl, ?_⟩) ?_ ?_
  rotate_left
  ·intro w'
   go_simp
   with_reducible rfl
  rotate_left
  ·simp only [Act.put, List.setIfInBounds_toArray, List.set_cons_zero, List.set_cons_succ, i64_w, i32_w]
   rfl
  refine pure_ (i := 6) (N := some 143) (v := ?_) (a' := ?_) #[true, true, true, true, true, true, true, false, false, false, false, false, false, false, false, false, false, false, false, false, false, false, false, false, false, false, false, false, false, false, false, false, false, false, false, false, false, false, false, false, false, false, false, false, false, false, false, false] rfl rfl (any_of HT_.out (by kernel_rfl)) (fun _ _ _ h => h) (Or.inl ⟨by rfl, ?_⟩) ?_ ?_
  rotate_left
  ·intro w'
   go_simp
   with_reducible rfl
  rotate_left
  ·simp only [Act.put, List.setIfInBounds_toArray, List.set_cons_zero, List.set_cons_succ, i64_w, i32_w]
   rfl
  refine pure_ (i := 7) (N := some 144) (v := ?_) (a' := ?_) #[true, true, true, true, true, true, true, true, false, false, false, false, false, false, false, false, false, false, false, false, false, false, false, false, false, false, false, false, false, false, false, false, false, false, false, false, false, false, false, false, false, false, false, false, false, false, false, false] rfl rfl (any_of HT_.out (by kernel_rfl)) (fun _ _ _ h => h) (Or.inl ⟨by rfl, ?_⟩) ?_ ?_
  rotate_left
  ·intro w'
   go_simp
   with_reducible rfl
  rotate_left
  ·simp only [Act.put, List.setIfInBounds_toArray, List.set_cons_zero, List.set_cons_succ, i64_w, i32_w]
   rfl
  refine pure_ (i := 8) (N := some 145) (v := ?_) (a' := ?_) #[true, true, true, true, true, true, true, true, true, false, false, false, false, false, false, false, false, false, false, false, false, false, false, false, false, false, false, false, false, false, false, false, false, false, false, false, false, false, false, false, false, false, false, false, false, false, false, false] rfl rfl (any_of HT_.out (by kernel_rfl)) (fun _ _ _ h => h) (Or.inl ⟨by rfl, ?_⟩) ?_ ?_
  rotate_left
  ·intro w'
   go_simp
   with_reducible rfl
  rotate_left
  ·simp only [Act.put, List.setIfInBounds_toArray, List.set_cons_zero, List.set_cons_succ, i64_w, i32_w]
   rfl
  refine pure_ (i := 9) (N := some 146) (v := ?_) (a' := ?_) #[true, true, true, true, true, true, true, true, true, true, false, false, false, false, false, false, false, false, false, false, false, false, false, false, false, false, false, false, false, false, false, false, false, false, false, false, false, false, false, false, false, false, false, false, false, false, false, false] rfl rfl (any_of HT_.out (by kernel_rfl)) (fun _ _ _ h => h) (Or.inl ⟨by rfl, ?_⟩) ?_ ?_
  rotate_left
  ·intro w'
   go_simp
   with_reducible rfl
  rotate_left
  ·simp only [Act.put, List.setIfInBounds_toArray, List.set_cons_zero, List.set_cons_succ, i64_w, i32_w]
   rfl
  refine pure_ (i := 10) (N := some 147) (v := ?_) (a' := ?_) #[true, true, true, true, true, true, true, true, true, true, true, false, false, false, false, false, false, false, false, false, false, false, false, false, false, false, false, false, false, false, false, false, false, false, false, false, false, false, false, false, false, false, false, false, false, false, false, false] rfl rfl (any_of HT_.out (by kernel_rfl)) (fun _ _ _ h => h) (Or.inl ⟨by rfl, ?_⟩) ?_ ?_
  rotate_left
  ·intro w'
   go_simp
   with_reducible rfl
  rotate_left
  ·simp only [Act.put, List.setIfInBounds_toArray, List.set_cons_zero, List.set_cons_succ, i64_w, i32_w]
   rfl
  refine pure_ (i := 11) (N := some 148) (v := ?_) (a' := ?_) #[true, true, true, true, true, true, true, true, true, true, true, true, false, false, false, false, false, false, false, false, false, false, false, false, false, false, false, false, false, false, false, false, false, false, false, false, false, false, false, false, false, false, false, false, false, false, false, false] rfl rfl (any_of HT_.out (by kernel_rfl)) (fun _ _ _ h => h) (Or.inl ⟨by rfl, ?_⟩) ?_ ?_
  rotate_left
  ·intro w'
   go_simp
   with_reducible rfl
  rotate_left
  ·simp only [Act.put, List.setIfInBounds_toArray, List.set_cons_zero, List.set_cons_succ, i64_w, i32_w]
   rfl
  refine pure_ (i := 12) (N := some 149) (v := ?_) (a' := ?_) #[true, true, true, true, true, true, true, true, true, true, true, true, true, false, false, false, false, false, false, false, false, false, false, false, false, false, false, false, false, false, false, false, false, false, false, false, false, false, false, false, false, false, false, false, false, false, false, false] rfl rfl (any_of HT_.out (by kernel_rfl)) (fun _ _ _ h => h) (Or.inl ⟨by rfl, ?_⟩) ?_ ?_
  rotate_left
  ·intro w'
   go_simp
   with_reducible rfl
  rotate_left
  ·simp only [Act.put, List.setIfInBounds_toArray, List.set_cons_zero, List.set_cons_succ, i64_w, i32_w]
   rfl
  refine pure_ (i := 13) (N := some 150) (v := ?_) (a' := ?_) #[true, true, true, true, true, true, true, true, true, true, true, true, true, true, false, false, false, false, false, false, false, false, false, false, false, false, false, false, false, false, false, false, false, false, false, false, false, false, false, false, false, false, false, false, false, false, false, false] rfl rfl (any_of HT_.out (by kernel_rfl)) (fun _ _ _ h => h) (Or.inl ⟨by rfl, ?_⟩) ?_ ?_
  rotate_left
  ·intro w'
   go_simp
   with_reducible rfl
  rotate_left
  ·simp only [Act.put, List.setIfInBounds_toArray, List.set_cons_zero, List.set_cons_succ, i64_w, i32_w]
   rfl
  refine pure_ (i := 14) (N := some 151) (v := ?_) (a' := ?_) #[true, true, true, true, true, true, true, true, true, true, true, true, true, true, true, false, false, false, false, false, false, false, false, false, false, false, false, false, false, false, false, false, false, false, false, false, false, false, false, false, false, false, false, false, false, false, false, false] rfl rfl (any_of HT_.out (by kernel_rfl)) (fun _ _ _ h => h) (Or.inl ⟨by rfl, ?_⟩) ?_ ?_
  rotate_left
  ·intro w'
   go_simp
   with_reducible rfl
  rotate_left
  ·simp only [Act.put, List.setIfInBounds_toArray, List.set_cons_zero, List.set_cons_succ, i64_w, i32_w]
   rfl
  refine pure_ (i := 15) (N := some 152) (v := ?_) (a' := ?_) #[true, true, true, true, true, true, true, true, true, true, true, true, true, true, true, true, false, false, false, false, false, false, false, false, false, false, false, false, false, false, false, false, false, false, false, false, false, false, false, false, false, false, false, false, false, false, false, false] rfl rfl (any_of HT_.out (by kernel_rfl)) (fun _ _ _ h => h) (Or.inl ⟨by rfl, ?_⟩) ?_ ?_
  rotate_left
  ·intro w'
   go_simp
   with_reducible rfl
  rotate_left
  ·simp only [Act.put, List.setIfInBounds_toArray, List.set_cons_zero, List.set_cons_succ, i64_w, i32_w]
   rfl
  refine take_ (i := 16) (N := some 153) (v := ?_) (a' := ?_) #[true, true, true, true, true, true, true, true, true, true, true, true, true, true, true, true, true, false, false, false, false, false, false, false, false, false, false, false, false, false, false, false, false, false, false, false, false, false, false, false, false, false, false, false, false, false, false, false] rfl rfl (take_ofW HT_.out HW_.out (by kernel_rfl)) (fun _ _ _ h => h) (Or.inl ⟨by rfl, ?_⟩) hHeld ?_ ?_
  rotate_left
  ·rintro w' ⟨s0, s1, s2, s3, s4, s5, s6, s7, s8, s9, s10, s11, s12, s13, s14, s15, s16, s17⟩
   go_simp
   with_reducible rfl
  rotate_left
  ·simp only [Act.put, List.setIfInBounds_toArray, List.set_cons_zero, List.set_cons_succ, i64_w, i32_w]
   rfl
  refine take_ (i := 18) (N := some 155) (v := ?_) (a' := ?_) #[true, true, true, true, true, true, true, true, true, true, true, true, true, true, true, true, true, false, true, false, false, false, false, false, false, false, false, false, false, false, false, false, false, false, false, false, false, false, false, false, false, false, false, false, false, false, false, false] rfl rfl (take_ofW HT_.out HW_.out (by kernel_rfl)) (fun _ _ _ h => h) (Or.inl ⟨by rfl, ?_⟩) hHeld ?_ ?_
  rotate_left
  ·rintro w' ⟨s0, s1, s2, s3, s4, s5, s6, s7, s8, s9, s10, s11, s12, s13, s14, s15, s16, s17⟩
   go_simp
   with_reducible rfl
  rotate_left
  ·simp only [Act.put, List.setIfInBounds_toArray, List.set_cons_zero, List.set_cons_succ, i64_w, i32_w]
   rfl
  refine one_ (i := 17) (N := some 154) #[true, true, true, true, true, true, true, true, true, true, true, true, true, true, true, true, true, true, true, false, false, false, false, false, false, false, false, false, false, false, false, false, false, false, false, false, false, false, false, false, false, false, false, false, false, false, false, false] rfl rfl (one_of HT_.out (by kernel_rfl)) (by decide) (fun K hK => ?_)
  refine goes_ Tryz.func10 (by kernel_rfl) rfl #[.agg #[.int .i64 B1.1.e, .string B1.1.s, .string B1.1.g]] (by rfl) rfl rfl (by simp only [List.map_toArray, List.map_cons, List.map_nil]; rfl) ?_
  refine (HAS.out B1.1 _).mono ?_
  rintro e W32 ⟨rfl, hb0⟩
  refine ⟨_, rfl, ?_⟩
  have hb := hb0
  replace HB := Lib.hid (below_step HB.out hb)
  replace HXb := Lib.hid (blk_below HXb.out hb)
  replace HXx := Lib.hid (blk_below HXx.out hb)
  replace HXd := Lib.hid (blk_below HXd.out hb)
  replace HXu := Lib.hid (blk_below HXu.out hb)
  replace HXp := Lib.hid (blk_below HXp.out hb)
  replace HXq := Lib.hid (blk_below HXq.out hb)
  replace HVv := Lib.hid (Kd.C_below HVv.out hb)
  clear hb hb0
  refine hK.out _ _ ⟨(cell_of_blk HXb.out rfl), (cell_of_blk HXb.out rfl), (cell_of_blk HXb.out rfl), (cell_of_blk HXx.out rfl), (cell_of_blk HXx.out rfl), (cell_of_blk HXx.out rfl), (cell_of_blk HXd.out rfl), (cell_of_blk HXd.out rfl), (cell_of_blk HXd.out rfl), (cell_of_blk HXu.out rfl), (cell_of_blk HXu.out rfl), (cell_of_blk HXu.out rfl), (cell_of_blk HXp.out rfl), (cell_of_blk HXp.out rfl), (cell_of_blk HXp.out rfl), (cell_of_blk HXq.out rfl), (cell_of_blk HXq.out rfl), (cell_of_blk HXq.out rfl)⟩ (fun hHeld => ?_)
  clear hK K
  refine norm_ (a' := ?_) ?_ ?_
  rotate_left
  ·show Act.put _ (some 154) _ = _
   simp only [Act.put, List.setIfInBounds_toArray, List.set_cons_zero, List.set_cons_succ, i64_w, i32_w]
   rfl
  refine pure_ (i := 19) (N := some 156) (v := ?_) (a' := ?_) #[true, true, true, true, true, true, true, true, true, true, true, true, true, true, true, true, true, true, true, true, false, false, false, false, false, false, false, false, false, false, false, false, false, false, false, false, false, false, false, false, false, false, false, false, false, false, false, false] rfl rfl (any_of HT_.out (by kernel_rfl)) (fun _ _ _ h => h) (Or.inl ⟨by rfl, ?_⟩) ?_ ?_
  rotate_left
  ·intro w'
   go_simp
   with_reducible rfl
  rotate_left
  ·simp only [Act.put, List.setIfInBounds_toArray, List.set_cons_zero, List.set_cons_succ, i64_w, i32_w]
   rfl
  refine pure_ (i := 20) (N := some 157) (v := ?_) (a' := ?_) #[true, true, true, true, true, true, true, true, true, true, true, true, true, true, true, true, true, true, true, true, true, false, false, false, false, false, false, false, false, false, false, false, false, false, false, false, false, false, false, false, false, false, false, false, false, false, false, false] rfl rfl (any_of HT_.out (by kernel_rfl)) (fun _ _ _ h => h) (Or.inl ⟨by rfl, ?_⟩) ?_ ?_
  rotate_left
  ·intro w'
   go_simp
   with_reducible rfl
  rotate_left
  ·simp only [Act.put, List.setIfInBounds_toArray, List.set_cons_zero, List.set_cons_succ, i64_w, i32_w]
   rfl
  refine pure_ (i := 21) (N := some 158) (v := ?_) (a' := ?_) #[true, true, true, true, true, true, true, true, true, true, true, true, true, true, true, true, true, true, true, true, true, true, false, false, false, false, false, false, false, false, false, false, false, false, false, false, false, false, false, false, false, false, false, false, false, false, false, false] rfl rfl (any_of HT_.out (by kernel_rfl)) (fun _ _ _ h => h) (Or.inl ⟨by rfl, ?_⟩) ?_ ?_
  rotate_left
  ·intro w'
   go_simp
   with_reducible rfl
  rotate_left
  ·simp only [Act.put, List.setIfInBounds_toArray, List.set_cons_zero, List.set_cons_succ, i64_w, i32_w]
   rfl
  refine pure_ (i := 22) (N := some 159) (v := ?_) (a' := ?_) #[true, true, true, true, true, true, true, true, true, true, true, true, true, true, true, true, true, true, true, true, true, true, true, false, false, false, false, false, false, false, false, false, false, false, false, false, false, false, false, false, false, false, false, false, false, false, false, false] rfl rfl (any_of HT_.out (by kernel_rfl)) (fun _ _ _ h => h) (Or.inl ⟨by rfl, ?_⟩) ?_ ?_
  rotate_left
  ·intro w'
   go_simp
   with_reducible rfl
  rotate_left
  ·simp only [Act.put, List.setIfInBounds_toArray, List.set_cons_zero, List.set_cons_succ, i64_w, i32_w]
   rfl
  refine pure_ (i := 23) (N := some 160) (v := ?_) (a' := ?_) #[true, true, true, true, true, true, true, true, true, true, true, true, true, true, true, true, true, true, true, true, true, true, true, true, false, false, false, false, false, false, false, false, false, false, false, false, false, false, false, false, false, false, false, false, false, false, false, false] rfl rfl (any_of HT_.out (by kernel_rfl)) (fun _ _ _ h => h) (Or.inl ⟨by rfl, ?_⟩) ?_ ?_
  rotate_left
  ·intro w'
   go_simp
   with_reducible rfl
  rotate_left
  ·simp only [Act.put, List.setIfInBounds_toArray, List.set_cons_zero, List.set_cons_succ, i64_w, i32_w]
   rfl
  refine pure_ (i := 24) (N := some 161) (v := ?_) (a' := ?_) #[true, true, true, true, true, true, true, true, true, true, true, true, true, true, true, true, true, true, true, true, true, true, true, true, true, false, false, false, false, false, false, false, false, false, false, false, false, false, false, false, false, false, false, false, false, false, false, false] rfl rfl (any_of HT_.out (by kernel_rfl)) (fun _ _ _ h => h) (Or.inl ⟨by rfl, ?_⟩) ?_ ?_
  rotate_left
  ·intro w'
   go_simp
   with_reducible rfl
  rotate_left
  ·simp only [Act.put, List.setIfInBounds_toArray, List.set_cons_zero, List.set_cons_succ, i64_w, i32_w]
   rfl
  refine pure_ (i := 25) (N := some 162) (v := ?_) (a' := ?_) #[true, true, true, true, true, true, true, true, true, true, true, true, true, true, true, true, true, true, true, true, true, true, true, true, true, true, false, false, false, false, false, false, false, false, false, false, false, false, false, false, false, false, false, false, false, false, false, false] rfl rfl (any_of HT_.out (by kernel_rfl)) (fun _ _ _ h => h) (Or.inl ⟨by rfl, ?_⟩) ?_ ?_
  rotate_left
  ·intro w'
   go_simp
   with_reducible rfl
  rotate_left
  ·simp only [Act.put, List.setIfInBounds_toArray, List.set_cons_zero, List.set_cons_succ, i64_w, i32_w]
   rfl
  refine pure_ (i := 26) (N := some 163) (v := ?_) (a' := ?_) #[true, true, true, true, true, true, true, true, true, true, true, true, true, true, true, true, true, true, true, true, true, true, true, true, true, true, true, false, false, false, false, false, false, false, false, false, false, false, false, false, false, false, false, false, false, false, false, false] rfl rfl (any_of HT_.out (by kernel_rfl)) (fun _ _ _ h => h) (Or.inl ⟨by rfl, ?_⟩) ?_ ?_
  rotate_left
  ·intro w'
   go_simp
   with_reducible rfl
  rotate_left
  ·simp only [Act.put, List.setIfInBounds_toArray, List.set_cons_zero, List.set_cons_succ, i64_w, i32_w]
   rfl
  refine take_ (i := 27) (N := some 164) (v := ?_) (a' := ?_) #[true, true, true, true, true, true, true, true, true, true, true, true, true, true, true, true, true, true, true, true, true, true, true, true, true, true, true, true, false, false, false, false, false, false, false, false, false, false, false, false, false, false, false, false, false, false, false, false] rfl rfl (take_ofW HT_.out HW_.out (by kernel_rfl)) (fun _ _ _ h => h) (Or.inl ⟨by rfl, ?_⟩) hHeld ?_ ?_
  rotate_left
  ·rintro w' ⟨s0, s1, s2, s3, s4, s5, s6, s7, s8, s9, s10, s11, s12, s13, s14, s15, s16, s17⟩
   go_simp
   with_reducible rfl
  rotate_left
  ·simp only [Act.put, List.setIfInBounds_toArray, List.set_cons_zero, List.set_cons_succ, i64_w, i32_w]
   rfl
  refine take_ (i := 29) (N := some 166) (v := ?_) (a' := ?_) #[true, true, true, true, true, true, true, true, true, true, true, true, true, true, true, true, true, true, true, true, true, true, true, true, true, true, true, true, false, true, false, false, false, false, false, false, false, false, false, false, false, false, false, false, false, false, false, false] rfl rfl (take_ofW HT_.out HW_.out (by kernel_rfl)) (fun _ _ _ h => h) (Or.inl ⟨by rfl, ?_⟩) hHeld ?_ ?_
  rotate_left
  ·rintro w' ⟨s0, s1, s2, s3, s4, s5, s6, s7, s8, s9, s10, s11, s12, s13, s14, s15, s16, s17⟩
   go_simp
   with_reducible rfl
  rotate_left
  ·simp only [Act.put, List.setIfInBounds_toArray, List.set_cons_zero, List.set_cons_succ, i64_w, i32_w]
   rfl
  refine one_ (i := 28) (N := some 165) #[true, true, true, true, true, true, true, true, true, true, true, true, true, true, true, true, true, true, true, true, true, true, true, true, true, true, true, true, true, true, false, false, false, false, false, false, false, false, false, false, false, false, false, false, false, false, false, false] rfl rfl (one_of HT_.out (by kernel_rfl)) (by decide) (fun K hK => ?_)
  refine goes_ Tryz.func10 (by kernel_rfl) rfl #[.agg #[.int .i64 B2.1.e, .string B2.1.s, .string B2.1.g]] (by rfl) rfl rfl (by simp only [List.map_toArray, List.map_cons, List.map_nil]; rfl) ?_
  refine (HAS.out B2.1 _).mono ?_
  rintro e W33 ⟨rfl, hb0⟩
  refine ⟨_, rfl, ?_⟩
  have hb := hb0
  replace HB := Lib.hid (below_step HB.out hb)
  replace HXb := Lib.hid (blk_below HXb.out hb)
  replace HXx := Lib.hid (blk_below HXx.out hb)
  replace HXd := Lib.hid (blk_below HXd.out hb)
  replace HXu := Lib.hid (blk_below HXu.out hb)
  replace HXp := Lib.hid (blk_below HXp.out hb)
  replace HXq := Lib.hid (blk_below HXq.out hb)
  replace HVv := Lib.hid (Kd.C_below HVv.out hb)
  clear hb hb0
  refine hK.out _ _ ⟨(cell_of_blk HXb.out rfl), (cell_of_blk HXb.out rfl), (cell_of_blk HXb.out rfl), (cell_of_blk HXx.out rfl), (cell_of_blk HXx.out rfl), (cell_of_blk HXx.out rfl), (cell_of_blk HXd.out rfl), (cell_of_blk HXd.out rfl), (cell_of_blk HXd.out rfl), (cell_of_blk HXu.out rfl), (cell_of_blk HXu.out rfl), (cell_of_blk HXu.out rfl), (cell_of_blk HXp.out rfl), (cell_of_blk HXp.out rfl), (cell_of_blk HXp.out rfl), (cell_of_blk HXq.out rfl), (cell_of_blk HXq.out rfl), (cell_of_blk HXq.out rfl)⟩ (fun hHeld => ?_)
  clear hK K
  refine norm_ (a' := ?_) ?_ ?_
  rotate_left
  ·show Act.put _ (some 165) _ = _
   simp only [Act.put, List.setIfInBounds_toArray, List.set_cons_zero, List.set_cons_succ, i64_w, i32_w]
   rfl
  refine pure_ (i := 30) (N := some 167) (v := ?_) (a' := ?_) #[true, true, true, true, true, true, true, true, true, true, true, true, true, true, true, true, true, true, true, true, true, true, true, true, true, true, true, true, true, true, true, false, false, false, false, false, false, false, false, false, false, false, false, false, false, false, false, false] rfl rfl (any_of HT_.out (by kernel_rfl)) (fun _ _ _ h => h) (Or.inl ⟨by rfl, ?_⟩) ?_ ?_
  rotate_left
  ·intro w'
   go_simp
   with_reducible rfl
  rotate_left
  ·simp only [Act.put, List.setIfInBounds_toArray, List.set_cons_zero, List.set_cons_succ, i64_w, i32_w]
   rfl
  refine pure_ (i := 31) (N := some 168) (v := ?_) (a' := ?_) #[true, true, true, true, true, true, true, true, true, true, true, true, true, true, true, true, true, true, true, true, true, true, true, true, true, true, true, true, true, true, true, true, false, false, false, false, false, false, false, false, false, false, false, false, false, false, false, false] rfl rfl (any_of HT_.out (by kernel_rfl)) (fun _ _ _ h => h) (Or.inl ⟨by rfl, ?_⟩) ?_ ?_
  rotate_left
  ·intro w'
   go_simp
   with_reducible rfl
  rotate_left
  ·simp only [Act.put, List.setIfInBounds_toArray, List.set_cons_zero, List.set_cons_succ, i64_w, i32_w]
   rfl
  refine pure_ (i := 32) (N := some 169) (v := ?_) (a' := ?_) #[true, true, true, true, true, true, true, true, true, true, true, true, true, true, true, true, true, true, true, true, true, true, true, true, true, true, true, true, true, true, true, true, true, false, false, false, false, false, false, false, false, false, false, false, false, false, false, false] rfl rfl (any_of HT_.out (by kernel_rfl)) (fun _ _ _ h => h) (Or.inl ⟨by rfl, ?_⟩) ?_ ?_
  rotate_left
  ·intro w'
   go_simp
   with_reducible rfl
  rotate_left
  ·simp only [Act.put, List.setIfInBounds_toArray, List.set_cons_zero, List.set_cons_succ, i64_w, i32_w]
   rfl
  refine pure_ (i := 33) (N := some 170) (v := ?_) (a' := ?_) #[true, true, true, true, true, true, true, true, true, true, true, true, true, true, true, true, true, true, true, true, true, true, true, true, true, true, true, true, true, true, true, true, true, true, false, false, false, false, false, false, false, false, false, false, false, false, false, false] rfl rfl (any_of HT_.out (by kernel_rfl)) (fun _ _ _ h => h) (Or.inl ⟨by rfl, ?_⟩) ?_ ?_
  rotate_left
  ·intro w'
   go_simp
   with_reducible rfl
  rotate_left
  ·simp only [Act.put, List.setIfInBounds_toArray, List.set_cons_zero, List.set_cons_succ, i64_w, i32_w]
   rfl
  refine pure_ (i := 34) (N := some 171) (v := ?_) (a' := ?_) #[true, true, true, true, true, true, true, true, true, true, true, true, true, true, true, true, true, true, true, true, true, true, true, true, true, true, true, true, true, true, true, true, true, true, true, false, false, false, false, false, false, false, false, false, false, false, false, false] rfl rfl (any_of HT_.out (by kernel_rfl)) (fun _ _ _ h => h) (Or.inl ⟨by rfl, ?_⟩) ?_ ?_
  rotate_left
  ·intro w'
   go_simp
   with_reducible rfl
  rotate_left
  ·simp only [Act.put, List.setIfInBounds_toArray, List.set_cons_zero, List.set_cons_succ, i64_w, i32_w]
   rfl
  refine pure_ (i := 35) (N := some 172) (v := ?_) (a' := ?_) #[true, true, true, true, true, true, true, true, true, true, true, true, true, true, true, true, true, true, true, true, true, true, true, true, true, true, true, true, true, true, true, true, true, true, true, true, false, false, false, false, false, false, false, false, false, false, false, false] rfl rfl (any_of HT_.out (by kernel_rfl)) (fun _ _ _ h => h) (Or.inl ⟨by rfl, ?_⟩) ?_ ?_
  rotate_left
  ·intro w'
   go_simp
   with_reducible rfl
  rotate_left
  ·simp only [Act.put, List.setIfInBounds_toArray, List.set_cons_zero, List.set_cons_succ, i64_w, i32_w]
   rfl
  refine pure_ (i := 36) (N := some 173) (v := ?_) (a' := ?_) #[true, true, true, true, true, true, true, true, true, true, true, true, true, true, true, true, true, true, true, true, true, true, true, true, true, true, true, true, true, true, true, true, true, true, true, true, true, false, false, false, false, false, false, false, false, false, false, false] rfl rfl (any_of HT_.out (by kernel_rfl)) (fun _ _ _ h => h) (Or.inl ⟨by rfl, ?_⟩) ?_ ?_
  rotate_left
  ·intro w'
   go_simp
   with_reducible rfl
  rotate_left
  ·simp only [Act.put, List.setIfInBounds_toArray, List.set_cons_zero, List.set_cons_succ, i64_w, i32_w]
   rfl
  refine pure_ (i := 37) (N := some 174) (v := ?_) (a' := ?_) #[true, true, true, true, true, true, true, true, true, true, true, true, true, true, true, true, true, true, true, true, true, true, true, true, true, true, true, true, true, true, true, true, true, true, true, true, true, true, false, false, false, false, false, false, false, false, false, false] rfl rfl (any_of HT_.out (by kernel_rfl)) (fun _ _ _ h => h) (Or.inl ⟨by rfl, ?_⟩) ?_ ?_
  rotate_left
  ·intro w'
   go_simp
   with_reducible rfl
  rotate_left
  ·simp only [Act.put, List.setIfInBounds_toArray, List.set_cons_zero, List.set_cons_succ, i64_w, i32_w]
   rfl
  refine pure_ (i := 38) (N := some 175) (v := ?_) (a' := ?_) #[true, true, true, true, true, true, true, true, true, true, true, true, true, true, true, true, true, true, true, true, true, true, true, true, true, true, true, true, true, true, true, true, true, true, true, true, true, true, true, false, false, false, false, false, false, false, false, false] rfl rfl (any_of HT_.out (by kernel_rfl)) (fun _ _ _ h => h) (Or.inl ⟨by rfl, ?_⟩) ?_ ?_
  rotate_left
  ·intro w'
   go_simp
   with_reducible rfl
  rotate_left
  ·simp only [Act.put, List.setIfInBounds_toArray, List.set_cons_zero, List.set_cons_succ, i64_w, i32_w]
   rfl
  refine pure_ (i := 39) (N := some 176) (v := ?_) (a' := ?_) #[true, true, true, true, true, true, true, true, true, true, true, true, true, true, true, true, true, true, true, true, true, true, true, true, true, true, true, true, true, true, true, true, true, true, true, true, true, true, true, true, false, false, false, false, false, false, false, false] rfl rfl (any_of HT_.out (by kernel_rfl)) (fun _ _ _ h => h) (Or.inl ⟨by rfl, ?_⟩) ?_ ?_
  rotate_left
  ·intro w'
   go_simp
   with_reducible rfl
  rotate_left
  ·simp only [Act.put, List.setIfInBounds_toArray, List.set_cons_zero, List.set_cons_succ, i64_w, i32_w]
   rfl
  refine pure_ (i := 40) (N := some 177) (v := ?_) (a' := ?_) #[true, true, true, true, true, true, true, true, true, true, true, true, true, true, true, true, true, true, true, true, true, true, true, true, true, true, true, true, true, true, true, true, true, true, true, true, true, true, true, true, true, false, false, false, false, false, false, false] rfl rfl (any_of HT_.out (by kernel_rfl)) (fun _ _ _ h => h) (Or.inl ⟨by rfl, ?_⟩) ?_ ?_
  rotate_left
  ·intro w'
   go_simp
   with_reducible rfl
  rotate_left
  ·simp only [Act.put, List.setIfInBounds_toArray, List.set_cons_zero, List.set_cons_succ, i64_w, i32_w]
   rfl
  refine pure_ (i := 41) (N := some 178) (v := ?_) (a' := ?_) #[true, true, true, true, true, true, true, true, true, true, true, true, true, true, true, true, true, true, true, true, true, true, true, true, true, true, true, true, true, true, true, true, true, true, true, true, true, true, true, true, true, true, false, false, false, false, false, false] rfl rfl (any_of HT_.out (by kernel_rfl)) (fun _ _ _ h => h) (Or.inl ⟨by rfl, ?_⟩) ?_ ?_
  rotate_left
  ·intro w'
   go_simp
   with_reducible rfl
  rotate_left
  ·simp only [Act.put, List.setIfInBounds_toArray, List.set_cons_zero, List.set_cons_succ, i64_w, i32_w]
   rfl
  refine pure_ (i := 42) (N := some 179) (v := ?_) (a' := ?_) #[true, true, true, true, true, true, true, true, true, true, true, true, true, true, true, true, true, true, true, true, true, true, true, true, true, true, true, true, true, true, true, true, true, true, true, true, true, true, true, true, true, true, true, false, false, false, false, false] rfl rfl (any_of HT_.out (by kernel_rfl)) (fun _ _ _ h => h) (Or.inl ⟨by rfl, ?_⟩) ?_ ?_
  rotate_left
  ·intro w'
   go_simp
   with_reducible rfl
  rotate_left
  ·simp only [Act.put, List.setIfInBounds_toArray, List.set_cons_zero, List.set_cons_succ, i64_w, i32_w]
   rfl
  refine pure_ (i := 43) (N := some 180) (v := ?_) (a' := ?_) #[true, true, true, true, true, true, true, true, true, true, true, true, true, true, true, true, true, true, true, true, true, true, true, true, true, true, true, true, true, true, true, true, true, true, true, true, true, true, true, true, true, true, true, true, false, false, false, false] rfl rfl (any_of HT_.out (by kernel_rfl)) (fun _ _ _ h => h) (Or.inl ⟨by rfl, ?_⟩) ?_ ?_
  rotate_left
  ·intro w'
   go_simp
   with_reducible rfl
  rotate_left
  ·simp only [Act.put, List.setIfInBounds_toArray, List.set_cons_zero, List.set_cons_succ, i64_w, i32_w]
   rfl
  refine pure_ (i := 44) (N := some 181) (v := ?_) (a' := ?_) #[true, true, true, true, true, true, true, true, true, true, true, true, true, true, true, true, true, true, true, true, true, true, true, true, true, true, true, true, true, true, true, true, true, true, true, true, true, true, true, true, true, true, true, true, true, false, false, false] rfl rfl (any_of HT_.out (by kernel_rfl)) (fun _ _ _ h => h) (Or.inl ⟨by rfl, ?_⟩) ?_ ?_
  rotate_left
  ·intro w'
   go_simp
   with_reducible rfl
  rotate_left
  ·simp only [Act.put, List.setIfInBounds_toArray, List.set_cons_zero, List.set_cons_succ, i64_w, i32_w]
   rfl
  refine pure_ (i := 45) (N := some 182) (v := ?_) (a' := ?_) #[true, true, true, true, true, true, true, true, true, true, true, true, true, true, true, true, true, true, true, true, true, true, true, true, true, true, true, true, true, true, true, true, true, true, true, true, true, true, true, true, true, true, true, true, true, true, false, false] rfl rfl (any_of HT_.out (by kernel_rfl)) (fun _ _ _ h => h) (Or.inl ⟨by rfl, ?_⟩) ?_ ?_
  rotate_left
  ·intro w'
   go_simp
   with_reducible rfl
  rotate_left
  ·simp only [Act.put, List.setIfInBounds_toArray, List.set_cons_zero, List.set_cons_succ, i64_w, i32_w]
   rfl
  refine pure_ (i := 46) (N := some 183) (v := ?_) (a' := ?_) #[true, true, true, true, true, true, true, true, true, true, true, true, true, true, true, true, true, true, true, true, true, true, true, true, true, true, true, true, true, true, true, true, true, true, true, true, true, true, true, true, true, true, true, true, true, true, true, false] rfl rfl (any_of HT_.out (by kernel_rfl)) (fun _ _ _ h => h) (Or.inl ⟨by rfl, ?_⟩) ?_ ?_
  rotate_left
  ·intro w'
   go_simp
   with_reducible rfl
  rotate_left
  ·simp only [Act.put, List.setIfInBounds_toArray, List.set_cons_zero, List.set_cons_succ, i64_w, i32_w]
   rfl
  refine pure_ (i := 47) (N := some 14) (v := ?_) (a' := ?_) #[true, true, true, true, true, true, true, true, true, true, true, true, true, true, true, true, true, true, true, true, true, true, true, true, true, true, true, true, true, true, true, true, true, true, true, true, true, true, true, true, true, true, true, true, true, true, true, true] rfl rfl (any_of HT_.out (by kernel_rfl)) (fun _ _ _ h => h) (Or.inl ⟨by rfl, ?_⟩) ?_ ?_
  rotate_left
  ·intro w'
   go_simp
   with_reducible rfl
  rotate_left
  ·simp only [Act.put, List.setIfInBounds_toArray, List.set_cons_zero, List.set_cons_succ, i64_w, i32_w]
   rfl
  refine done_ (done_of HT_.out (by kernel_rfl)) ?_
  clear HT_
  go_wp2
  go_ret
  exact ⟨rfl, HB.out⟩
end Go.Proofs.YtphehoidkmficaaGreatDoor
end
section

namespace Go.Proofs.YtphehoidkmficaaGreatDoor.Ref
open Go.RowKit Go.Proofs.YtphehoidkmficaaGreatDoor Go.Proofs.YtphehoidkmficaaGreatDoorW.PrintWords Go.Proofs.YtphehoidkmficaaGreatDoorW.PrintLast
set_option linter.unusedVariables false
set_option linter.unusedSimpArgs false
theorem put_err {b : Bl} (h : (putBl b).2 ≠ 0) : (putBl b).1 = ⟨#[]⟩ := by
 unfold putBl at h ⊢
 by_cases hr : rightBl b = true
 ·rw [if_pos hr] at h; exact absurd rfl h
 ·rw [if_neg hr]
theorem seal_err {k : Ky} {ct : ByteArray} (h : (rsealF k ct).2 ≠ 0) : (rsealF k ct).1 = ⟨#[]⟩ := by
 unfold rsealF at h ⊢
 by_cases h1 : k.sg = ⟨#[]⟩
 ·rw [if_pos h1]
 ·rw [if_neg h1] at h ⊢
  by_cases h2 : (buildF k.st k.e k.sg k.pa ct).2 = 0
  ·rw [if_pos h2] at h ⊢
   exact put_err h
  ·rw [if_neg h2]
theorem seal_size (k : Ky) (ct : ByteArray) : (rsealF k ct).1.size ≤ 1000000 := by
 by_cases h : (rsealF k ct).2 = 0
 ·unfold rsealF at h ⊢
  by_cases h1 : k.sg = ⟨#[]⟩
  ·rw [if_pos h1]; decide
  ·rw [if_neg h1] at h ⊢
   by_cases h2 : (buildF k.st k.e k.sg k.pa ct).2 = 0
   ·rw [if_pos h2] at h ⊢
    by_cases hr : rightBl (buildF k.st k.e k.sg k.pa ct).1 = true
    ·exact put_size hr
    ·unfold putBl; rw [if_neg hr]; decide
   ·rw [if_neg h2]; exact Nat.zero_le _
 ·rw [seal_err h]; decide
set_option maxRecDepth 100000 in
set_option maxHeartbeats 4000000 in
theorem refOpen16_call (k : Ky) (A : Option Addr) (c : Nat) (hc : k.vs.length ≤ c) (blob : ByteArray) (hz : blob.size ≤ 1000000) (hl : k.vs.length ≤ 1000000) (hpa : k.pa.size ≤ 1000000) (w : World) (hC : Kd.C Kd.string w A k.vs.length k.vs) :
  Calls Tryz.prog 86 #[.agg #[.string k.pa, .int .i64 k.e, .string k.st, .string k.sg, .slice A k.vs.length c], .string blob] w fun e w' => e = .returned (.tuple #[.string (ropenF k blob).1, .int .i64 (ropenF k blob).2]) ∧ Below w.heap.size w w' := by
 obtain ⟨R, hR⟩ : ∃ R, ropenF k blob = R := ⟨_, rfl⟩
 have HE : Hid (R = ropenF k blob) := Lib.hid hR.symm
 rw [hR]
 clear hR
 have HXk : Hid ((w.alloc (.cells #[.string k.pa, .int .i64 k.e, .string k.st, .string k.sg, .slice A k.vs.length c] 50)).heap[w.heap.size]? = some (.cells #[.string k.pa, .int .i64 k.e, .string k.st, .string k.sg, .slice A k.vs.length c] 50 (0, 0))) := Lib.hid (wnew w _)
 have HB := Lib.hid (below_alloc (Below.refl w.heap.size w) (.cells #[.string k.pa, .int .i64 k.e, .string k.st, .string k.sg, .slice A k.vs.length c] 50))
 have HV := Lib.hid (Kd.C_below hC HB.out)
 clear hC
 have HTK := Lib.hid (refTake9_call blob hz)
 unfold ropenF at HE
 generalize takeBl blob = B at *
 have HOP := Lib.hid (fun (W : World) (h : Kd.C Kd.string W A k.vs.length k.vs) => refOpen9_call B.1 k.vs k.st k.pa k.e (by omega) hl A c hc W h)
 generalize openBl B.1 k.vs k.st k.e k.pa = O at *
 go_enter Tryz.func86, Tryz.ntmps86
 go_wp2_with fail
 refine (HTK.out _).mono ?_
 rintro e w1 ⟨rfl, hb⟩
 replace HXk := Lib.hid (blk_below HXk.out hb)
 replace HV := Lib.hid (Kd.C_below HV.out hb)
 replace HB := Lib.hid (below_step HB.out hb)
 clear hb
 have HXd := Lib.hid (wnew w1 (.cells #[.int .i64 B.1.e, .string B.1.s, .string B.1.g] 26))
 replace HXk := Lib.hid (wkeep HXk.out (.cells #[.int .i64 B.1.e, .string B.1.s, .string B.1.g] 26))
 replace HV := Lib.hid (Kd.C_below HV.out (below_alloc (Below.refl _ _) (.cells #[.int .i64 B.1.e, .string B.1.s, .string B.1.g] 26)))
 replace HB := Lib.hid (below_alloc HB.out (.cells #[.int .i64 B.1.e, .string B.1.s, .string B.1.g] 26))
 by_cases q : B.2 = 0
 rotate_left
 ·have t : (B.2 != 0) = true := bne_iff_ne.2 q
  obtain rfl : R = (⟨#[]⟩, B.2) := by rw [HE.out, if_neg q]
  go_wp2
  go_ret2
  exact ⟨rfl, HB.out⟩
 have t : (B.2 != 0) = false := by rw [q]; rfl
 obtain rfl : R = O := by rw [HE.out, if_pos q]
 have x0 := cell_of_blk (j := 0) (v := .string k.pa) HXk.out rfl
 have x1 := cell_of_blk (j := 1) (v := .int .i64 k.e) HXk.out rfl
 have x2 := cell_of_blk (j := 2) (v := .string k.st) HXk.out rfl
 have x3 := cell_of_blk (j := 3) (v := .string k.sg) HXk.out rfl
 have x4 := cell_of_blk (j := 4) (v := .slice A k.vs.length c) HXk.out rfl
 have y0 := cell_of_blk (j := 0) (v := .int .i64 B.1.e) HXd.out rfl
 have y1 := cell_of_blk (j := 1) (v := .string B.1.s) HXd.out rfl
 have y2 := cell_of_blk (j := 2) (v := .string B.1.g) HXd.out rfl
 go_wp2_with fail
 refine (HOP.out _ HV.out).mono ?_
 rintro e w2 ⟨rfl, hb⟩
 replace HXk := Lib.hid (blk_below HXk.out hb)
 replace HXd := Lib.hid (blk_below HXd.out hb)
 replace HV := Lib.hid (Kd.C_below HV.out hb)
 replace HB := Lib.hid (below_step HB.out hb)
 clear hb
 clear x0 x1 x2 x3 x4
 clear y0 y1 y2
 go_wp2
 go_ret2
 exact ⟨rfl, HB.out⟩
set_option maxRecDepth 100000 in
set_option maxHeartbeats 4000000 in
theorem refSeal17_call (k : Ky) (A : Option Addr) (c : Nat) (hc : k.vs.length ≤ c) (ct : ByteArray) (hct : ct.size ≤ 140737488351232) (hpa : k.pa.size ≤ 1000000) (w : World) (hC : Kd.C Kd.string w A k.vs.length k.vs) :
  Calls Tryz.prog 28 #[.agg #[.string k.pa, .int .i64 k.e, .string k.st, .string k.sg, .slice A k.vs.length c], .string ct] w fun e w' => e = .returned (.tuple #[.string (rsealF k ct).1, .int .i64 (rsealF k ct).2]) ∧ Below w.heap.size w w' := by
 obtain ⟨R, hR⟩ : ∃ R, rsealF k ct = R := ⟨_, rfl⟩
 have HE : Hid (R = rsealF k ct) := Lib.hid hR.symm
 rw [hR]
 clear hR
 have HXk : Hid ((w.alloc (.cells #[.string k.pa, .int .i64 k.e, .string k.st, .string k.sg, .slice A k.vs.length c] 50)).heap[w.heap.size]? = some (.cells #[.string k.pa, .int .i64 k.e, .string k.st, .string k.sg, .slice A k.vs.length c] 50 (0, 0))) := Lib.hid (wnew w _)
 have HB := Lib.hid (below_alloc (Below.refl w.heap.size w) (.cells #[.string k.pa, .int .i64 k.e, .string k.st, .string k.sg, .slice A k.vs.length c] 50))
 have HV := Lib.hid (Kd.C_below hC HB.out)
 clear hC
 have HBD := Lib.hid (refBuild9_call k.st k.sg k.pa ct k.e hpa hct)
 unfold rsealF at HE
 generalize buildF k.st k.e k.sg k.pa ct = B at *
 have HPT := Lib.hid (fun (W : World) => refPut9_call B.1 W)
 generalize putBl B.1 = P at *
 have x0 := cell_of_blk (j := 0) (v := .string k.pa) HXk.out rfl
 have x1 := cell_of_blk (j := 1) (v := .int .i64 k.e) HXk.out rfl
 have x2 := cell_of_blk (j := 2) (v := .string k.st) HXk.out rfl
 have x3 := cell_of_blk (j := 3) (v := .string k.sg) HXk.out rfl
 have x4 := cell_of_blk (j := 4) (v := .slice A k.vs.length c) HXk.out rfl
 go_enter Tryz.func28, Tryz.ntmps28
 have t0 := tl_empty k.sg
 by_cases q0 : k.sg = ⟨#[]⟩
 ·rw [decide_eq_true q0] at t0
  obtain rfl : R = (⟨#[]⟩, 6) := by rw [HE.out, if_pos q0]
  clear q0
  go_wp2
  go_ret2
  exact ⟨rfl, HB.out⟩
 rw [decide_eq_false q0] at t0
 go_wp2_with fail
 refine (HBD.out _).mono ?_
 rintro e w1 ⟨rfl, hb⟩
 replace HXk := Lib.hid (blk_below HXk.out hb)
 replace HV := Lib.hid (Kd.C_below HV.out hb)
 replace HB := Lib.hid (below_step HB.out hb)
 clear hb
 clear x0 x1 x2 x3 x4
 have HXd := Lib.hid (wnew w1 (.cells #[.int .i64 B.1.e, .string B.1.s, .string B.1.g] 26))
 replace HXk := Lib.hid (wkeep HXk.out (.cells #[.int .i64 B.1.e, .string B.1.s, .string B.1.g] 26))
 replace HV := Lib.hid (Kd.C_below HV.out (below_alloc (Below.refl _ _) (.cells #[.int .i64 B.1.e, .string B.1.s, .string B.1.g] 26)))
 replace HB := Lib.hid (below_alloc HB.out (.cells #[.int .i64 B.1.e, .string B.1.s, .string B.1.g] 26))
 by_cases q : B.2 = 0
 rotate_left
 ·have t : (B.2 != 0) = true := bne_iff_ne.2 q
  obtain rfl : R = (⟨#[]⟩, B.2) := by rw [HE.out, if_neg q0, if_neg q]
  go_wp2
  go_ret2
  exact ⟨rfl, HB.out⟩
 have t : (B.2 != 0) = false := by rw [q]; rfl
 obtain rfl : R = P := by rw [HE.out, if_neg q0, if_pos q]
 have y0 := cell_of_blk (j := 0) (v := .int .i64 B.1.e) HXd.out rfl
 have y1 := cell_of_blk (j := 1) (v := .string B.1.s) HXd.out rfl
 have y2 := cell_of_blk (j := 2) (v := .string B.1.g) HXd.out rfl
 go_wp2_with fail
 refine (HPT.out _).mono ?_
 rintro e w2 ⟨rfl, hb⟩
 replace HXk := Lib.hid (blk_below HXk.out hb)
 replace HXd := Lib.hid (blk_below HXd.out hb)
 replace HV := Lib.hid (Kd.C_below HV.out hb)
 replace HB := Lib.hid (below_step HB.out hb)
 clear hb
 clear y0 y1 y2
 go_wp2
 go_ret2
 exact ⟨rfl, HB.out⟩
set_option maxRecDepth 100000 in
set_option maxHeartbeats 4000000 in
theorem refBehind17_call (k : Ky) (A : Option Addr) (c : Nat) (hc : k.vs.length ≤ c) (blob : ByteArray) (hz : blob.size ≤ 1000000) (hl : k.vs.length ≤ 1000000) (hpa : k.pa.size ≤ 1000000) (w : World) (hC : Kd.C Kd.string w A k.vs.length k.vs) :
  Calls Tryz.prog 31 #[.agg #[.string k.pa, .int .i64 k.e, .string k.st, .string k.sg, .slice A k.vs.length c], .string blob] w fun e w' => e = .returned (.bool (behindF k blob)) ∧ Below w.heap.size w w' := by
 obtain ⟨R, hR⟩ : ∃ R, behindF k blob = R := ⟨_, rfl⟩
 have HE : Hid (R = behindF k blob) := Lib.hid hR.symm
 rw [hR]
 clear hR
 have HXk : Hid ((w.alloc (.cells #[.string k.pa, .int .i64 k.e, .string k.st, .string k.sg, .slice A k.vs.length c] 50)).heap[w.heap.size]? = some (.cells #[.string k.pa, .int .i64 k.e, .string k.st, .string k.sg, .slice A k.vs.length c] 50 (0, 0))) := Lib.hid (wnew w _)
 have HB := Lib.hid (below_alloc (Below.refl w.heap.size w) (.cells #[.string k.pa, .int .i64 k.e, .string k.st, .string k.sg, .slice A k.vs.length c] 50))
 have HV := Lib.hid (Kd.C_below hC HB.out)
 clear hC
 have HOP := Lib.hid (fun (W : World) (h : Kd.C Kd.string W A k.vs.length k.vs) => refOpen16_call k A c hc blob hz hl hpa W h)
 have HTK := Lib.hid (refTake9_call blob hz)
 unfold behindF at HE
 generalize ropenF k blob = O at *
 generalize takeBl blob = B at *
 have x0 := cell_of_blk (j := 0) (v := .string k.pa) HXk.out rfl
 have x1 := cell_of_blk (j := 1) (v := .int .i64 k.e) HXk.out rfl
 have x2 := cell_of_blk (j := 2) (v := .string k.st) HXk.out rfl
 have x3 := cell_of_blk (j := 3) (v := .string k.sg) HXk.out rfl
 have x4 := cell_of_blk (j := 4) (v := .slice A k.vs.length c) HXk.out rfl
 go_enter Tryz.func31, Tryz.ntmps31
 go_wp2_with fail
 refine (HOP.out _ HV.out).mono ?_
 rintro e w1 ⟨rfl, hb⟩
 replace HXk := Lib.hid (blk_below HXk.out hb)
 replace HV := Lib.hid (Kd.C_below HV.out hb)
 replace HB := Lib.hid (below_step HB.out hb)
 clear hb
 clear x0 x1 x2 x3 x4
 go_wp2_with fail
 refine (HTK.out _).mono ?_
 rintro e w2 ⟨rfl, hb⟩
 replace HXk := Lib.hid (blk_below HXk.out hb)
 replace HV := Lib.hid (Kd.C_below HV.out hb)
 replace HB := Lib.hid (below_step HB.out hb)
 clear hb
 have HXd := Lib.hid (wnew w2 (.cells #[.int .i64 B.1.e, .string B.1.s, .string B.1.g] 26))
 replace HXk := Lib.hid (wkeep HXk.out (.cells #[.int .i64 B.1.e, .string B.1.s, .string B.1.g] 26))
 replace HV := Lib.hid (Kd.C_below HV.out (below_alloc (Below.refl _ _) (.cells #[.int .i64 B.1.e, .string B.1.s, .string B.1.g] 26)))
 replace HB := Lib.hid (below_alloc HB.out (.cells #[.int .i64 B.1.e, .string B.1.s, .string B.1.g] 26))
 have x0 := cell_of_blk (j := 0) (v := .string k.pa) HXk.out rfl
 have x1 := cell_of_blk (j := 1) (v := .int .i64 k.e) HXk.out rfl
 have x2 := cell_of_blk (j := 2) (v := .string k.st) HXk.out rfl
 have x3 := cell_of_blk (j := 3) (v := .string k.sg) HXk.out rfl
 have x4 := cell_of_blk (j := 4) (v := .slice A k.vs.length c) HXk.out rfl
 have y0 := cell_of_blk (j := 0) (v := .int .i64 B.1.e) HXd.out rfl
 have y1 := cell_of_blk (j := 1) (v := .string B.1.s) HXd.out rfl
 have y2 := cell_of_blk (j := 2) (v := .string B.1.g) HXd.out rfl
 by_cases q : O.2 = 0
 ·have t : (O.2 == 0) = true := by rw [q]; rfl
  obtain rfl : R = decide (B.1.e < k.e) := by rw [HE.out, decide_eq_true q, Bool.true_and]
  go_wp2
  go_ret
  exact ⟨rfl, HB.out⟩
 ·have t : (O.2 == 0) = false := beq_eq_false_iff_ne.2 q
  obtain rfl : R = false := by rw [HE.out, decide_eq_false q, Bool.false_and]
  go_wp2
  go_ret
  exact ⟨rfl, HB.out⟩
theorem inside_size {key s pa c : ByteArray} (h : insideF key s pa = some c) : c.size ≤ 64 := by
 unfold insideF at h
 split at h
 ·split at h
  ·rename_i hh
   obtain rfl := Option.some.inj h
   rw [size_ofBytes]; exact hh.2.2
  ·simp at h
 ·simp at h
theorem ropen_size (k : Ky) (blob : ByteArray) (hz : blob.size ≤ 1000000) : (ropenF k blob).1.size ≤ 140737488351232 := by
 unfold ropenF
 split
 ·unfold openBl
  split
  ·split
   ·exact Nat.zero_le _
   ·split
    ·rename_i c hc
     unfold openedF at hc
     split at hc
     ·have := inside_size hc
      simp only
      omega
     ·simp at hc
    ·exact Nat.zero_le _
  ·exact Nat.zero_le _
 ·exact Nat.zero_le _
set_option maxRecDepth 100000 in
set_option maxHeartbeats 4000000 in
theorem refRenew17_call (k : Ky) (A : Option Addr) (c : Nat) (hc : k.vs.length ≤ c) (blob : ByteArray) (hz : blob.size ≤ 1000000) (hl : k.vs.length ≤ 1000000) (hpa : k.pa.size ≤ 1000000) (w : World) (hC : Kd.C Kd.string w A k.vs.length k.vs) :
  Calls Tryz.prog 30 #[.agg #[.string k.pa, .int .i64 k.e, .string k.st, .string k.sg, .slice A k.vs.length c], .string blob] w fun e w' => e = .returned (.tuple #[.string (renewF k blob).1, .bool (renewF k blob).2.1, .int .i64 (renewF k blob).2.2]) ∧ Below w.heap.size w w' := by
 obtain ⟨R, hR⟩ : ∃ R, renewF k blob = R := ⟨_, rfl⟩
 have HE : Hid (R = renewF k blob) := Lib.hid hR.symm
 rw [hR]
 clear hR
 have HXk : Hid ((w.alloc (.cells #[.string k.pa, .int .i64 k.e, .string k.st, .string k.sg, .slice A k.vs.length c] 50)).heap[w.heap.size]? = some (.cells #[.string k.pa, .int .i64 k.e, .string k.st, .string k.sg, .slice A k.vs.length c] 50 (0, 0))) := Lib.hid (wnew w _)
 have HB := Lib.hid (below_alloc (Below.refl w.heap.size w) (.cells #[.string k.pa, .int .i64 k.e, .string k.st, .string k.sg, .slice A k.vs.length c] 50))
 have HV := Lib.hid (Kd.C_below hC HB.out)
 clear hC
 have HOP := Lib.hid (fun (W : World) (h : Kd.C Kd.string W A k.vs.length k.vs) => refOpen16_call k A c hc blob hz hl hpa W h)
 have HBH := Lib.hid (fun (W : World) (h : Kd.C Kd.string W A k.vs.length k.vs) => refBehind17_call k A c hc blob hz hl hpa W h)
 have hoz : (ropenF k blob).1.size ≤ 140737488351232 := ropen_size k blob hz
 unfold renewF at HE
 generalize ropenF k blob = O at *
 generalize behindF k blob = H at *
 have HSL := Lib.hid (fun (W : World) (h : Kd.C Kd.string W A k.vs.length k.vs) => refSeal17_call k A c hc O.1 hoz hpa W h)
 have HSE : Hid ((rsealF k O.1).2 ≠ 0 → (rsealF k O.1).1 = ⟨#[]⟩) := Lib.hid (fun h => seal_err h)
 generalize rsealF k O.1 = S at *
 have x0 := cell_of_blk (j := 0) (v := .string k.pa) HXk.out rfl
 have x1 := cell_of_blk (j := 1) (v := .int .i64 k.e) HXk.out rfl
 have x2 := cell_of_blk (j := 2) (v := .string k.st) HXk.out rfl
 have x3 := cell_of_blk (j := 3) (v := .string k.sg) HXk.out rfl
 have x4 := cell_of_blk (j := 4) (v := .slice A k.vs.length c) HXk.out rfl
 go_enter Tryz.func30, Tryz.ntmps30
 go_wp2_with fail
 refine (HOP.out _ HV.out).mono ?_
 rintro e w1 ⟨rfl, hb⟩
 replace HXk := Lib.hid (blk_below HXk.out hb)
 replace HV := Lib.hid (Kd.C_below HV.out hb)
 replace HB := Lib.hid (below_step HB.out hb)
 clear hb
 clear x0 x1 x2 x3 x4
 by_cases q : O.2 = 0
 rotate_left
 ·have t : (O.2 != 0) = true := bne_iff_ne.2 q
  obtain rfl : R = (⟨#[]⟩, false, O.2) := by rw [HE.out, if_neg q]
  go_wp2
  refine bodyPost_ret (results_tmp3 rfl _ _ _) rfl ?_
  exact ⟨rfl, HB.out⟩
 have t : (O.2 != 0) = false := by rw [q]; rfl
 have x0 := cell_of_blk (j := 0) (v := .string k.pa) HXk.out rfl
 have x1 := cell_of_blk (j := 1) (v := .int .i64 k.e) HXk.out rfl
 have x2 := cell_of_blk (j := 2) (v := .string k.st) HXk.out rfl
 have x3 := cell_of_blk (j := 3) (v := .string k.sg) HXk.out rfl
 have x4 := cell_of_blk (j := 4) (v := .slice A k.vs.length c) HXk.out rfl
 go_wp2_with fail
 refine (HBH.out _ HV.out).mono ?_
 rintro e w2 ⟨rfl, hb⟩
 replace HXk := Lib.hid (blk_below HXk.out hb)
 replace HV := Lib.hid (Kd.C_below HV.out hb)
 replace HB := Lib.hid (below_step HB.out hb)
 clear hb
 clear x0 x1 x2 x3 x4
 cases H with
 | false =>
  obtain rfl : R = (blob, false, 0) := by rw [HE.out, if_pos q]; rfl
  go_wp2
  refine bodyPost_ret (results_tmp3 rfl _ _ _) rfl ?_
  exact ⟨rfl, HB.out⟩
 | true =>
  have x0 := cell_of_blk (j := 0) (v := .string k.pa) HXk.out rfl
  have x1 := cell_of_blk (j := 1) (v := .int .i64 k.e) HXk.out rfl
  have x2 := cell_of_blk (j := 2) (v := .string k.st) HXk.out rfl
  have x3 := cell_of_blk (j := 3) (v := .string k.sg) HXk.out rfl
  have x4 := cell_of_blk (j := 4) (v := .slice A k.vs.length c) HXk.out rfl
  go_wp2_with fail
  refine (HSL.out _ HV.out).mono ?_
  rintro e w3 ⟨rfl, hb⟩
  replace HXk := Lib.hid (blk_below HXk.out hb)
  replace HV := Lib.hid (Kd.C_below HV.out hb)
  replace HB := Lib.hid (below_step HB.out hb)
  clear hb
  clear x0 x1 x2 x3 x4
  by_cases qs : S.2 = 0
  rotate_left
  ·have t2 : (S.2 != 0) = true := bne_iff_ne.2 qs
   obtain rfl : R = (⟨#[]⟩, false, S.2) := by rw [HE.out, if_pos q, if_pos trivial, decide_eq_false qs, HSE.out qs]
   go_wp2
   refine bodyPost_ret (results_tmp3 rfl _ _ _) rfl ?_
   exact ⟨rfl, HB.out⟩
  have t2 : (S.2 != 0) = false := by rw [qs]; rfl
  obtain rfl : R = (S.1, true, 0) := by rw [HE.out, if_pos q, if_pos trivial, decide_eq_true qs, qs]
  go_wp2
  refine bodyPost_ret (results_tmp3 rfl _ _ _) rfl ?_
  exact ⟨rfl, HB.out⟩
end Go.Proofs.YtphehoidkmficaaGreatDoor.Ref
end
section

namespace Go.Proofs.YtphehoidkmficaaGreatDoor
open Go.RowKit Go.Proofs.YtphehoidkmficaaGreatDoorW.PrintWords Go.Proofs.YtphehoidkmficaaGreatDoorW.PrintLast Go.Proofs.YtphehoidkmficaaGreatDoor.Ref
set_option linter.unusedVariables false
set_option linter.unusedSimpArgs false
set_option maxRecDepth 100000 in
set_option maxHeartbeats 2000000 in
theorem as17_call (k : Ky) (A : Option Addr) (c : Nat) (w : World) : Calls Tryz.prog 27 #[.agg #[.string k.pa, .int .i64 k.e, .string k.st, .string k.sg, .slice A k.vs.length c]] w fun e w' => e = .returned (.agg #[.string k.pa, .int .i64 k.e, .string k.st, .string k.sg, .slice A k.vs.length c]) ∧ Below w.heap.size w w' := by
 have hblk := wnew (w.alloc (.cells #[.string k.pa, .int .i64 k.e, .string k.st, .string k.sg, .slice A k.vs.length c] 45)) (.cells #[.string k.pa, .int .i64 k.e, .string k.st, .string k.sg, .slice A k.vs.length c] 50)
 have hbe : Below w.heap.size w ((w.alloc (.cells #[.string k.pa, .int .i64 k.e, .string k.st, .string k.sg, .slice A k.vs.length c] 45)).alloc (.cells #[.string k.pa, .int .i64 k.e, .string k.st, .string k.sg, .slice A k.vs.length c] 50)) := below_alloc (below_alloc (Below.refl _ _) _) _
 rw [show (w.alloc (.cells #[.string k.pa, .int .i64 k.e, .string k.st, .string k.sg, .slice A k.vs.length c] 45)).heap.size = w.heap.size + 1 from by simp] at hblk
 go_enter Tryz.func27, Tryz.ntmps27
 go_wp2
 refine bodyPost_ret (results_cell_row rfl _ _ (w.heap.size + 1) 50 _ (0, 0) _ rfl hblk Tryz.underlying50 rfl (by kernel_rfl)) rfl ?_
 exact ⟨rfl, hbe⟩
def tl17.T16 : Bool × List (List Nat × List Nat) := (true, [([], []), ([], []), ([0, 1], [0, 1]), ([2], [2]), ([3], [3]), ([3], [3]), ([4, 5, 3], [3, 4, 5]), ([3, 6], [3, 6]), ([7, 3], [7]), ([8], [8]), ([8], [8]), ([9, 10, 8], [8, 9, 10]), ([8, 11], [8, 11]), ([12, 8], [12]), ([13], [13]), ([13], [13]), ([14, 15, 13], [13, 14, 15]), ([13, 16], [13, 16]), ([17, 13], [17]), ([18], [18]), ([18], [18]), ([19, 20, 18], [18, 19, 20]), ([18, 21], [18, 21]), ([22, 18], [22]), ([23], [23]), ([23], [23]), ([24, 25, 23], [23, 24, 25]), ([23, 26], [23, 26]), ([27, 23], [27]), ([28], [28]), ([28], [28]), ([29, 30, 28], [28, 29, 30]), ([28, 31], [28, 31]), ([32, 28], [32]), ([33], [33]), ([33], [33]), ([34, 35, 33], [33, 34, 35]), ([33, 36], [33, 36]), ([37, 33], [37]), ([38], [38]), ([38], [38]), ([39, 40, 38, 38], [38, 39, 40]), ([38], [38]), ([38], [38]), ([42, 43, 41, 38], [38, 42, 43]), ([41, 44, 38], [38, 41, 44]), ([38, 45], [38, 45]), ([46, 44, 0, 1, 2, 3, 4, 5, 6, 7, 8, 9, 10, 11, 12, 13, 14, 15, 16, 17, 18, 19, 20, 21, 22, 23, 24, 25, 26, 27, 28, 29, 30, 31, 32, 33, 34, 35, 36, 37, 38, 39, 40, 41, 42, 43, 44, 45, 46], [46])])
def tl17.B16 : List Nat := [0, 0, 3, 7, 15, 15, 63, 127, 255, 511, 511, 2047, 4095, 8191, 16383, 16383, 65535, 131071, 262143, 524287, 524287, 2097151, 4194303, 8388607, 16777215, 16777215, 67108863, 134217727, 268435455, 536870911, 536870911, 2147483647, 4294967295, 8589934591, 17179869183, 17179869183, 68719476735, 137438953471, 274877906943, 549755813887, 549755813887, 2199023255551, 549755813887, 549755813887, 17592186044415, 35184372088831, 70368744177663, 140737488355327]
theorem tl17.tab16 : rtab .any (opsOf Tryz.f5 16) = tl17.T16 := by kernel_rfl
theorem tl17.bits16 : waitsOk tl17.T16.2 tl17.B16 = true := by kernel_rfl
set_option maxRecDepth 100000 in
set_option maxHeartbeats 8000000 in
theorem tells17_any (k : Ky) (A : Option Addr) (c : Nat) (blob ct : ByteArray) (w : World) (HTB : Aside0 (Tabs w)) (hr : Kd.C Kd.string w A k.vs.length k.vs ∧ k.vs.length ≤ c) (z0 : k.pa.size ≤ 140737488351232 ∧ k.st.size ≤ 140737488351232 ∧ k.sg.size ≤ 140737488351232 ∧ (-9223372036854775808 ≤ k.e ∧ k.e ≤ 9223372036854775807) ∧ k.vs.length ≤ 9223372036854775807 ∧ ∀ s ∈ k.vs, s.size ≤ 9223372036854775807) (z1 : blob.size ≤ 140737488351232) (z2 : ct.size ≤ 140737488351232) :
  Calls Tryz.prog 5 #[.agg #[.string k.pa, .int .i64 k.e, .string k.st, .string k.sg, .slice A k.vs.length c], .string blob, .string ct] w fun e w' => e = .returned (.bool true) ∧ Below w.heap.size w w' := by
 have HSH := Lib.hid (fun (W : World) (hb : Below w.heap.size w W) => shown17_call W ⟨HTB.out.below hb⟩)
 have HXb : Hid ((w.alloc (.cells #[.string k.pa, .int .i64 k.e, .string k.st, .string k.sg, .slice A k.vs.length c] 45)).heap[w.heap.size]? = some (.cells #[.string k.pa, .int .i64 k.e, .string k.st, .string k.sg, .slice A k.vs.length c] 45 (0, 0))) := Lib.hid (wnew w _)
 have HB := Lib.hid (below_alloc (Below.refl w.heap.size w) (.cells #[.string k.pa, .int .i64 k.e, .string k.st, .string k.sg, .slice A k.vs.length c] 45))
 have HVv := Lib.hid (Kd.C_below hr.1 HB.out)
 have hcv := hr.2
 obtain ⟨z01, z02, z03, hI, z05, z06⟩ := z0
 have HI := Lib.hid (show I64 k.e from hI)
 have H6 := Lib.hid (And.intro z05 z06)
 clear hr hI z05 z06
 go_enter Tryz.func5, Tryz.ntmps5
 go_wp2_with fail
 refine (HSH.out _ HB.out).mono ?_
 rintro e W1 ⟨rfl, hb0⟩
 have hb := hb0
 replace HB := Lib.hid (below_step HB.out hb)
 replace HXb := Lib.hid (blk_below HXb.out hb)
 replace HVv := Lib.hid (Kd.C_below HVv.out hb)
 clear hb hb0
 by_cases q1 : blob.size + ct.size ≤ 9000
 rotate_left
 ·have t0 : decide (9000 < (blob.size : Int) + (ct.size : Int)) = true := decide_eq_true (by omega)
  have x0 := cell_of_blk (j := 0) (v := .string k.pa) HXb.out rfl
  have x2 := cell_of_blk (j := 2) (v := .string k.st) HXb.out rfl
  have x3 := cell_of_blk (j := 3) (v := .string k.sg) HXb.out rfl
  have x4 := cell_of_blk (j := 4) (v := .slice A k.vs.length c) HXb.out rfl
  go_wp2
  go_ret
  exact ⟨rfl, HB.out⟩
 have t0 : decide (9000 < (blob.size : Int) + (ct.size : Int)) = false := decide_eq_false (by omega)
 by_cases q2 : k.pa.size + k.st.size + k.sg.size ≤ 9000
 rotate_left
 ·have t1 : decide (9000 < (k.pa.size : Int) + (k.st.size : Int) + (k.sg.size : Int)) = true := decide_eq_true (by omega)
  have x0 := cell_of_blk (j := 0) (v := .string k.pa) HXb.out rfl
  have x2 := cell_of_blk (j := 2) (v := .string k.st) HXb.out rfl
  have x3 := cell_of_blk (j := 3) (v := .string k.sg) HXb.out rfl
  have x4 := cell_of_blk (j := 4) (v := .slice A k.vs.length c) HXb.out rfl
  go_wp2
  go_ret
  exact ⟨rfl, HB.out⟩
 have t1 : decide (9000 < (k.pa.size : Int) + (k.st.size : Int) + (k.sg.size : Int)) = false := decide_eq_false (by omega)
 by_cases q3 : k.vs.length ≤ 20
 rotate_left
 ·have t2 : decide (20 < (k.vs.length : Int)) = true := decide_eq_true (by omega)
  have x0 := cell_of_blk (j := 0) (v := .string k.pa) HXb.out rfl
  have x2 := cell_of_blk (j := 2) (v := .string k.st) HXb.out rfl
  have x3 := cell_of_blk (j := 3) (v := .string k.sg) HXb.out rfl
  have x4 := cell_of_blk (j := 4) (v := .slice A k.vs.length c) HXb.out rfl
  go_wp2
  go_ret
  exact ⟨rfl, HB.out⟩
 have t2 : decide (20 < (k.vs.length : Int)) = false := decide_eq_false (by omega)
 have x0 := cell_of_blk (j := 0) (v := .string k.pa) HXb.out rfl
 have x2 := cell_of_blk (j := 2) (v := .string k.st) HXb.out rfl
 have x3 := cell_of_blk (j := 3) (v := .string k.sg) HXb.out rfl
 have x4 := cell_of_blk (j := 4) (v := .slice A k.vs.length c) HXb.out rfl
 go_wp2_with fail
 clear x0 x2 x3 x4
 have HQ := Lib.hid (And.intro q1 (And.intro q2 q3))
 clear q1 q2 t0 t1 t2 z01 z02 z03 z1 z2
 go_loopw [8] (fun i wr => ∃ m : Nat, m ≤ k.vs.length ∧ i = .int .i64 m ∧ Below w.heap.size w wr ∧ wr.heap[w.heap.size]? = some (.cells #[.string k.pa, .int .i64 k.e, .string k.st, .string k.sg, .slice A k.vs.length c] 45 (0, 0)) ∧ Kd.C Kd.string wr A k.vs.length k.vs ∧ (∀ j (h : j < k.vs.length), j < m → k.vs[j].size ≤ 1000)) (fun i _ => 100 - (intOf i).toNat)
 case atStart => exact ⟨0, by omega, rfl, HB.out, HXb.out, HVv.out, fun j h h0 => absurd h0 (by omega)⟩
 case round =>
  obtain ⟨m, hm, rfl, hbr, hxb, hvv, hsm⟩ := hrel
  clear HB HXb HVv
  have HB := Lib.hid hbr
  have HXb := Lib.hid hxb
  have HVv := Lib.hid hvv
  have HSM := Lib.hid hsm
  clear hbr hxb hvv hsm
  have x4 := cell_of_blk (j := 4) (v := .slice A k.vs.length c) HXb.out rfl
  by_cases hml : m < k.vs.length
  ·skip
   have hd : decide ((m : Int) < (k.vs.length : Int)) = true := decide_eq_true (by omega)
   have hdn : decide (m < k.vs.length) = true := decide_eq_true hml
   obtain ⟨ad, hA, hcell⟩ := rowS_get HVv.out m hml
   subst hA
   have hm20 : (m : Int) ≤ 20 := by omega
   by_cases hz : k.vs[m].size ≤ 1000
   rotate_left
   ·have t3 : decide (1000 < (k.vs[m].size : Int)) = true := decide_eq_true (by omega)
    generalize k.vs[m] = u at *
    go_wp2
    go_ret
    exact ⟨rfl, HB.out⟩
   have t3 : decide (1000 < (k.vs[m].size : Int)) = false := decide_eq_false (by omega)
   have hnx : ∀ j (h : j < k.vs.length), j < m + 1 → k.vs[j].size ≤ 1000 := fun j h hj => by
    rcases Nat.lt_succ_iff_lt_or_eq.1 hj with h1 | h1
    ·exact HSM.out j h h1
    ·subst h1; exact hz
   have HNX := Lib.hid hnx
   clear hnx hz
   generalize k.vs[m] = u at *
   go_wp2
   go_roundw
   case rel => exact ⟨m + 1, hml, by go_num, HB.out, HXb.out, HVv.out, HNX.out⟩
   case measure => simp only [intOf]; omega
  have hd : decide ((m : Int) < (k.vs.length : Int)) = false := decide_eq_false (by omega)
  have hdn : decide (m < k.vs.length) = false := decide_eq_false hml
  clear x4
  obtain ⟨q1, q2, q3'⟩ := HQ.out
  have hI := HI.out
  have hvs : ∀ x ∈ k.vs, x.size ≤ 1000000 := fun x hx => by
   obtain ⟨j, hj, rfl⟩ := List.mem_iff_getElem.1 hx
   have := HSM.out j hj (by omega)
   omega
  have hsz := seal_size k ct
  have HAS := Lib.hid (fun (W : World) => as17_call k A c W)
  have HS1 := Lib.hid (fun (W : World) (hb : Below w.heap.size w W) => seal9_call (k := k) A k.vs.length c ct (by omega) (by omega) (by omega) W ⟨HTB.out.below hb⟩)
  have HS2 := Lib.hid (fun (W : World) (h : Kd.C Kd.string W A k.vs.length k.vs) => refSeal17_call k A c hcv ct (by omega) (by omega) W h)
  have HN1 := Lib.hid (fun (bl : ByteArray) (hz : bl.size ≤ 1000000) (W : World) (hb : Below w.heap.size w W) (h : Kd.C Kd.string W A k.vs.length k.vs) => renew_call (k := k) A c bl hz (by omega) (by omega) (by omega) hvs (by omega) hcv W ⟨HTB.out.below hb⟩ h)
  have HN2 := Lib.hid (fun (bl : ByteArray) (hz : bl.size ≤ 1000000) (W : World) (h : Kd.C Kd.string W A k.vs.length k.vs) => refRenew17_call k A c hcv bl hz (by omega) (by omega) W h)
  have HH1 := Lib.hid (fun (W : World) (h : Kd.C Kd.string W A k.vs.length k.vs) => behind_call (k := k) A c blob (by omega) (by omega) hvs (by omega) hcv W h)
  have HH2 := Lib.hid (fun (W : World) (h : Kd.C Kd.string W A k.vs.length k.vs) => refBehind17_call k A c hcv blob (by omega) (by omega) (by omega) W h)
  obtain ⟨R, hR⟩ : ∃ R, rsealF k ct = R := ⟨_, rfl⟩
  rw [hR] at hsz HS1 HS2
  have HN3 := Lib.hid (HN1.out R.1 hsz)
  have HN4 := Lib.hid (HN2.out R.1 hsz)
  replace HN1 := Lib.hid (HN1.out blob (by omega))
  replace HN2 := Lib.hid (HN2.out blob (by omega))
  generalize renewF k R.1 = Q at *
  generalize renewF k blob = P at *
  generalize behindF k blob = H at *
  clear hR hsz q1 q2 hI hvs HSM HQ HI HTB HSH H6 hm hml
  have hB := HB
  have xb0 := cell_of_blk (j := 0) (v := .string k.pa) HXb.out rfl
  have xb1 := cell_of_blk (j := 1) (v := .int .i64 k.e) HXb.out rfl
  have xb2 := cell_of_blk (j := 2) (v := .string k.st) HXb.out rfl
  have xb3 := cell_of_blk (j := 3) (v := .string k.sg) HXb.out rfl
  have xb4 := cell_of_blk (j := 4) (v := .slice A k.vs.length c) HXb.out rfl
  go_wp2_with fail
  refine (HAS.out _).mono ?_
  rintro e W21 ⟨rfl, hb0⟩
  clear xb0 xb1 xb2 xb3 xb4
  have hb := hb0
  replace HB := Lib.hid (below_step HB.out hb)
  replace HXb := Lib.hid (blk_below HXb.out hb)
  replace HVv := Lib.hid (Kd.C_below HVv.out hb)
  clear hb hb0
  replace HB := Lib.hid (below_alloc HB.out (.cells #[.string k.pa, .int .i64 k.e, .string k.st, .string k.sg, .slice A k.vs.length c] 50))
  replace HXb := Lib.hid (wkeep HXb.out (.cells #[.string k.pa, .int .i64 k.e, .string k.st, .string k.sg, .slice A k.vs.length c] 50))
  replace HVv := Lib.hid (Kd.C_below HVv.out (below_alloc (Below.refl _ _) (.cells #[.string k.pa, .int .i64 k.e, .string k.st, .string k.sg, .slice A k.vs.length c] 50)))
  have HXx := Lib.hid (wnew W21 (.cells #[.string k.pa, .int .i64 k.e, .string k.st, .string k.sg, .slice A k.vs.length c] 50))
  have xb0 := cell_of_blk (j := 0) (v := .string k.pa) HXb.out rfl
  have xb1 := cell_of_blk (j := 1) (v := .int .i64 k.e) HXb.out rfl
  have xb2 := cell_of_blk (j := 2) (v := .string k.st) HXb.out rfl
  have xb3 := cell_of_blk (j := 3) (v := .string k.sg) HXb.out rfl
  have xb4 := cell_of_blk (j := 4) (v := .slice A k.vs.length c) HXb.out rfl
  go_wp2_with fail
  refine (HS1.out _ HB.out).mono ?_
  rintro e W22 ⟨rfl, hb0⟩
  clear xb0 xb1 xb2 xb3 xb4
  have hb := hb0
  replace HB := Lib.hid (below_step HB.out hb)
  replace HXb := Lib.hid (blk_below HXb.out hb)
  replace HXx := Lib.hid (blk_below HXx.out hb)
  replace HVv := Lib.hid (Kd.C_below HVv.out hb)
  clear hb hb0
  have xx0 := cell_of_blk (j := 0) (v := .string k.pa) HXx.out rfl
  have xx1 := cell_of_blk (j := 1) (v := .int .i64 k.e) HXx.out rfl
  have xx2 := cell_of_blk (j := 2) (v := .string k.st) HXx.out rfl
  have xx3 := cell_of_blk (j := 3) (v := .string k.sg) HXx.out rfl
  have xx4 := cell_of_blk (j := 4) (v := .slice A k.vs.length c) HXx.out rfl
  go_wp2_with fail
  refine (HS2.out _ HVv.out).mono ?_
  rintro e W23 ⟨rfl, hb0⟩
  clear xx0 xx1 xx2 xx3 xx4
  have hb := hb0
  replace HB := Lib.hid (below_step HB.out hb)
  replace HXb := Lib.hid (blk_below HXb.out hb)
  replace HXx := Lib.hid (blk_below HXx.out hb)
  replace HVv := Lib.hid (Kd.C_below HVv.out hb)
  clear hb hb0
  have xb0 := cell_of_blk (j := 0) (v := .string k.pa) HXb.out rfl
  have xb1 := cell_of_blk (j := 1) (v := .int .i64 k.e) HXb.out rfl
  have xb2 := cell_of_blk (j := 2) (v := .string k.st) HXb.out rfl
  have xb3 := cell_of_blk (j := 3) (v := .string k.sg) HXb.out rfl
  have xb4 := cell_of_blk (j := 4) (v := .slice A k.vs.length c) HXb.out rfl
  go_wp2_with fail
  refine (HN1.out _ HB.out HVv.out).mono ?_
  rintro e W24 ⟨rfl, hb0⟩
  clear xb0 xb1 xb2 xb3 xb4
  have hb := hb0
  replace HB := Lib.hid (below_step HB.out hb)
  replace HXb := Lib.hid (blk_below HXb.out hb)
  replace HXx := Lib.hid (blk_below HXx.out hb)
  replace HVv := Lib.hid (Kd.C_below HVv.out hb)
  clear hb hb0
  have xx0 := cell_of_blk (j := 0) (v := .string k.pa) HXx.out rfl
  have xx1 := cell_of_blk (j := 1) (v := .int .i64 k.e) HXx.out rfl
  have xx2 := cell_of_blk (j := 2) (v := .string k.st) HXx.out rfl
  have xx3 := cell_of_blk (j := 3) (v := .string k.sg) HXx.out rfl
  have xx4 := cell_of_blk (j := 4) (v := .slice A k.vs.length c) HXx.out rfl
  go_wp2_with fail
  refine (HN2.out _ HVv.out).mono ?_
  rintro e W25 ⟨rfl, hb0⟩
  clear xx0 xx1 xx2 xx3 xx4
  have hb := hb0
  replace HB := Lib.hid (below_step HB.out hb)
  replace HXb := Lib.hid (blk_below HXb.out hb)
  replace HXx := Lib.hid (blk_below HXx.out hb)
  replace HVv := Lib.hid (Kd.C_below HVv.out hb)
  clear hb hb0
  have xb0 := cell_of_blk (j := 0) (v := .string k.pa) HXb.out rfl
  have xb1 := cell_of_blk (j := 1) (v := .int .i64 k.e) HXb.out rfl
  have xb2 := cell_of_blk (j := 2) (v := .string k.st) HXb.out rfl
  have xb3 := cell_of_blk (j := 3) (v := .string k.sg) HXb.out rfl
  have xb4 := cell_of_blk (j := 4) (v := .slice A k.vs.length c) HXb.out rfl
  go_wp2_with fail
  refine (HN3.out _ HB.out HVv.out).mono ?_
  rintro e W26 ⟨rfl, hb0⟩
  clear xb0 xb1 xb2 xb3 xb4
  have hb := hb0
  replace HB := Lib.hid (below_step HB.out hb)
  replace HXb := Lib.hid (blk_below HXb.out hb)
  replace HXx := Lib.hid (blk_below HXx.out hb)
  replace HVv := Lib.hid (Kd.C_below HVv.out hb)
  clear hb hb0
  have xx0 := cell_of_blk (j := 0) (v := .string k.pa) HXx.out rfl
  have xx1 := cell_of_blk (j := 1) (v := .int .i64 k.e) HXx.out rfl
  have xx2 := cell_of_blk (j := 2) (v := .string k.st) HXx.out rfl
  have xx3 := cell_of_blk (j := 3) (v := .string k.sg) HXx.out rfl
  have xx4 := cell_of_blk (j := 4) (v := .slice A k.vs.length c) HXx.out rfl
  go_wp2_with fail
  refine (HN4.out _ HVv.out).mono ?_
  rintro e W27 ⟨rfl, hb0⟩
  clear xx0 xx1 xx2 xx3 xx4
  have hb := hb0
  replace HB := Lib.hid (below_step HB.out hb)
  replace HXb := Lib.hid (blk_below HXb.out hb)
  replace HXx := Lib.hid (blk_below HXx.out hb)
  replace HVv := Lib.hid (Kd.C_below HVv.out hb)
  clear hb hb0
  go_wp2_with fail
  have hb0 : Below W27.heap.size W27 W27.drew := below_drew (Below.refl _ _)
  have hb := hb0
  replace HB := Lib.hid (below_step HB.out hb)
  replace HXb := Lib.hid (blk_below HXb.out hb)
  replace HXx := Lib.hid (blk_below HXx.out hb)
  replace HVv := Lib.hid (Kd.C_below HVv.out hb)
  clear hb hb0
  refine start_ (n := 48) (S := fun w' => w'.cell? ⟨w.heap.size, 0, none⟩ = some (.string k.pa) ∧ w'.cell? ⟨w.heap.size, 1, none⟩ = some (.int .i64 k.e) ∧ w'.cell? ⟨w.heap.size, 2, none⟩ = some (.string k.st) ∧ w'.cell? ⟨w.heap.size, 3, none⟩ = some (.string k.sg) ∧ w'.cell? ⟨w.heap.size, 4, none⟩ = some (.slice A k.vs.length c) ∧ w'.cell? ⟨W21.heap.size, 0, none⟩ = some (.string k.pa) ∧ w'.cell? ⟨W21.heap.size, 1, none⟩ = some (.int .i64 k.e) ∧ w'.cell? ⟨W21.heap.size, 2, none⟩ = some (.string k.st) ∧ w'.cell? ⟨W21.heap.size, 3, none⟩ = some (.string k.sg) ∧ w'.cell? ⟨W21.heap.size, 4, none⟩ = some (.slice A k.vs.length c)) (ds := []) #[false, false, false, false, false, false, false, false, false, false, false, false, false, false, false, false, false, false, false, false, false, false, false, false, false, false, false, false, false, false, false, false, false, false, false, false, false, false, false, false, false, false, false, false, false, false, false, false] (by kernel_rfl) rfl rfl ⟨(cell_of_blk HXb.out rfl), (cell_of_blk HXb.out rfl), (cell_of_blk HXb.out rfl), (cell_of_blk HXb.out rfl), (cell_of_blk HXb.out rfl), (cell_of_blk HXx.out rfl), (cell_of_blk HXx.out rfl), (cell_of_blk HXx.out rfl), (cell_of_blk HXx.out rfl), (cell_of_blk HXx.out rfl)⟩ (fun hHeld => ?_)
  refine with_tabW tl17.tab16 tl17.bits16 (fun HT_ HW_ => ?_)
  refine pure_ (i := 0) (N := some 114) (v := ?_) (a' := ?_) #[true, false, false, false, false, false, false, false, false, false, false, false, false, false, false, false, false, false, false, false, false, false, false, false, false, false, false, false, false, false, false, false, false, false, false, false, false, false, false, false, false, false, false, false, false, false, false, false] rfl rfl (any_of HT_.out (by kernel_rfl)) (fun _ _ _ h => h) (Or.inl ⟨by rfl, ?_⟩) ?_ ?_
  rotate_left
  ·intro w'
   go_simp
   with_reducible rfl
  rotate_left
  ·simp only [Act.put, List.setIfInBounds_toArray, List.set_cons_zero, List.set_cons_succ, i64_w, i32_w]
   rfl
  refine pure_ (i := 1) (N := some 115) (v := ?_) (a' := ?_) #[true, true, false, false, false, false, false, false, false, false, false, false, false, false, false, false, false, false, false, false, false, false, false, false, false, false, false, false, false, false, false, false, false, false, false, false, false, false, false, false, false, false, false, false, false, false, false, false] rfl rfl (any_of HT_.out (by kernel_rfl)) (fun _ _ _ h => h) (Or.inl ⟨by rfl, ?_⟩) ?_ ?_
  rotate_left
  ·intro w'
   go_simp
   with_reducible rfl
  rotate_left
  ·simp only [Act.put, List.setIfInBounds_toArray, List.set_cons_zero, List.set_cons_succ, i64_w, i32_w]
   rfl
  refine pure_ (i := 2) (N := some 116) (v := ?_) (a' := ?_) #[true, true, true, false, false, false, false, false, false, false, false, false, false, false, false, false, false, false, false, false, false, false, false, false, false, false, false, false, false, false, false, false, false, false, false, false, false, false, false, false, false, false, false, false, false, false, false, false] rfl rfl (any_of HT_.out (by kernel_rfl)) (fun _ _ _ h => h) (Or.inl ⟨by rfl, ?_⟩) ?_ ?_
  rotate_left
  ·intro w'
   go_simp
   with_reducible rfl
  rotate_left
  ·simp only [Act.put, List.setIfInBounds_toArray, List.set_cons_zero, List.set_cons_succ, i64_w, i32_w]
   rfl
  refine pure_ (i := 3) (N := some 117) (v := ?_) (a' := ?_) #[true, true, true, true, false, false, false, false, false, false, false, false, false, false, false, false, false, false, false, false, false, false, false, false, false, false, false, false, false, false, false, false, false, false, false, false, false, false, false, false, false, false, false, false, false, false, false, false] rfl rfl (any_of HT_.out (by kernel_rfl)) (fun _ _ _ h => h) (Or.inl ⟨by rfl, ?_⟩) ?_ ?_
  rotate_left
  ·intro w'
   go_simp
   with_reducible rfl
  rotate_left
  ·simp only [Act.put, List.setIfInBounds_toArray, List.set_cons_zero, List.set_cons_succ, i64_w, i32_w]
   rfl
  refine pure_ (i := 4) (N := some 118) (v := ?_) (a' := ?_) #[true, true, true, true, true, false, false, false, false, false, false, false, false, false, false, false, false, false, false, false, false, false, false, false, false, false, false, false, false, false, false, false, false, false, false, false, false, false, false, false, false, false, false, false, false, false, false, false] rfl rfl (any_of HT_.out (by kernel_rfl)) (fun _ _ _ h => h) (Or.inl ⟨by rfl, ?_⟩) ?_ ?_
  rotate_left
  ·intro w'
   go_simp
   with_reducible rfl
  rotate_left
  ·simp only [Act.put, List.setIfInBounds_toArray, List.set_cons_zero, List.set_cons_succ, i64_w, i32_w]
   rfl
  refine pure_ (i := 5) (N := some 119) (v := ?_) (a' := ?_) #[true, true, true, true, true, true, false, false, false, false, false, false, false, false, false, false, false, false, false, false, false, false, false, false, false, false, false, false, false, false, false, false, false, false, false, false, false, false, false, false, false, false, false, false, false, false, false, false] rfl rfl (any_of HT_.out (by kernel_rfl)) (fun _ _ _ h => h) (Or.inl ⟨by rfl, ?_⟩) ?_ ?_
  rotate_left
  ·intro w'
   go_simp
   with_reducible rfl
  rotate_left
  ·simp only [Act.put, List.setIfInBounds_toArray, List.set_cons_zero, List.set_cons_succ, i64_w, i32_w]
   rfl
  refine pure_ (i := 6) (N := some 120) (v := ?_) (a' := ?_) #[true, true, true, true, true, true, true, false, false, false, false, false, false, false, false, false, false, false, false, false, false, false, false, false, false, false, false, false, false, false, false, false, false, false, false, false, false, false, false, false, false, false, false, false, false, false, false, false] rfl rfl (any_of HT_.out (by kernel_rfl)) (fun _ _ _ h => h) (Or.inl ⟨by rfl, ?_⟩) ?_ ?_
  rotate_left
  ·intro w'
   go_simp
   with_reducible rfl
  rotate_left
  ·simp only [Act.put, List.setIfInBounds_toArray, List.set_cons_zero, List.set_cons_succ, i64_w, i32_w]
   rfl
  refine pure_ (i := 7) (N := some 121) (v := ?_) (a' := ?_) #[true, true, true, true, true, true, true, true, false, false, false, false, false, false, false, false, false, false, false, false, false, false, false, false, false, false, false, false, false, false, false, false, false, false, false, false, false, false, false, false, false, false, false, false, false, false, false, false] rfl rfl (any_of HT_.out (by kernel_rfl)) (fun _ _ _ h => h) (Or.inl ⟨by rfl, ?_⟩) ?_ ?_
  rotate_left
  ·intro w'
   go_simp
   with_reducible rfl
  rotate_left
  ·simp only [Act.put, List.setIfInBounds_toArray, List.set_cons_zero, List.set_cons_succ, i64_w, i32_w]
   rfl
  refine pure_ (i := 8) (N := some 122) (v := ?_) (a' := ?_) #[true, true, true, true, true, true, true, true, true, false, false, false, false, false, false, false, false, false, false, false, false, false, false, false, false, false, false, false, false, false, false, false, false, false, false, false, false, false, false, false, false, false, false, false, false, false, false, false] rfl rfl (any_of HT_.out (by kernel_rfl)) (fun _ _ _ h => h) (Or.inl ⟨by rfl, ?_⟩) ?_ ?_
  rotate_left
  ·intro w'
   go_simp
   with_reducible rfl
  rotate_left
  ·simp only [Act.put, List.setIfInBounds_toArray, List.set_cons_zero, List.set_cons_succ, i64_w, i32_w]
   rfl
  refine pure_ (i := 9) (N := some 123) (v := ?_) (a' := ?_) #[true, true, true, true, true, true, true, true, true, true, false, false, false, false, false, false, false, false, false, false, false, false, false, false, false, false, false, false, false, false, false, false, false, false, false, false, false, false, false, false, false, false, false, false, false, false, false, false] rfl rfl (any_of HT_.out (by kernel_rfl)) (fun _ _ _ h => h) (Or.inl ⟨by rfl, ?_⟩) ?_ ?_
  rotate_left
  ·intro w'
   go_simp
   with_reducible rfl
  rotate_left
  ·simp only [Act.put, List.setIfInBounds_toArray, List.set_cons_zero, List.set_cons_succ, i64_w, i32_w]
   rfl
  refine pure_ (i := 10) (N := some 124) (v := ?_) (a' := ?_) #[true, true, true, true, true, true, true, true, true, true, true, false, false, false, false, false, false, false, false, false, false, false, false, false, false, false, false, false, false, false, false, false, false, false, false, false, false, false, false, false, false, false, false, false, false, false, false, false] rfl rfl (any_of HT_.out (by kernel_rfl)) (fun _ _ _ h => h) (Or.inl ⟨by rfl, ?_⟩) ?_ ?_
  rotate_left
  ·intro w'
   go_simp
   with_reducible rfl
  rotate_left
  ·simp only [Act.put, List.setIfInBounds_toArray, List.set_cons_zero, List.set_cons_succ, i64_w, i32_w]
   rfl
  refine pure_ (i := 11) (N := some 125) (v := ?_) (a' := ?_) #[true, true, true, true, true, true, true, true, true, true, true, true, false, false, false, false, false, false, false, false, false, false, false, false, false, false, false, false, false, false, false, false, false, false, false, false, false, false, false, false, false, false, false, false, false, false, false, false] rfl rfl (any_of HT_.out (by kernel_rfl)) (fun _ _ _ h => h) (Or.inl ⟨by rfl, ?_⟩) ?_ ?_
  rotate_left
  ·intro w'
   go_simp
   with_reducible rfl
  rotate_left
  ·simp only [Act.put, List.setIfInBounds_toArray, List.set_cons_zero, List.set_cons_succ, i64_w, i32_w]
   rfl
  refine pure_ (i := 12) (N := some 126) (v := ?_) (a' := ?_) #[true, true, true, true, true, true, true, true, true, true, true, true, true, false, false, false, false, false, false, false, false, false, false, false, false, false, false, false, false, false, false, false, false, false, false, false, false, false, false, false, false, false, false, false, false, false, false, false] rfl rfl (any_of HT_.out (by kernel_rfl)) (fun _ _ _ h => h) (Or.inl ⟨by rfl, ?_⟩) ?_ ?_
  rotate_left
  ·intro w'
   go_simp
   with_reducible rfl
  rotate_left
  ·simp only [Act.put, List.setIfInBounds_toArray, List.set_cons_zero, List.set_cons_succ, i64_w, i32_w]
   rfl
  refine pure_ (i := 13) (N := some 127) (v := ?_) (a' := ?_) #[true, true, true, true, true, true, true, true, true, true, true, true, true, true, false, false, false, false, false, false, false, false, false, false, false, false, false, false, false, false, false, false, false, false, false, false, false, false, false, false, false, false, false, false, false, false, false, false] rfl rfl (any_of HT_.out (by kernel_rfl)) (fun _ _ _ h => h) (Or.inl ⟨by rfl, ?_⟩) ?_ ?_
  rotate_left
  ·intro w'
   go_simp
   with_reducible rfl
  rotate_left
  ·simp only [Act.put, List.setIfInBounds_toArray, List.set_cons_zero, List.set_cons_succ, i64_w, i32_w]
   rfl
  refine pure_ (i := 14) (N := some 128) (v := ?_) (a' := ?_) #[true, true, true, true, true, true, true, true, true, true, true, true, true, true, true, false, false, false, false, false, false, false, false, false, false, false, false, false, false, false, false, false, false, false, false, false, false, false, false, false, false, false, false, false, false, false, false, false] rfl rfl (any_of HT_.out (by kernel_rfl)) (fun _ _ _ h => h) (Or.inl ⟨by rfl, ?_⟩) ?_ ?_
  rotate_left
  ·intro w'
   go_simp
   with_reducible rfl
  rotate_left
  ·simp only [Act.put, List.setIfInBounds_toArray, List.set_cons_zero, List.set_cons_succ, i64_w, i32_w]
   rfl
  refine pure_ (i := 15) (N := some 129) (v := ?_) (a' := ?_) #[true, true, true, true, true, true, true, true, true, true, true, true, true, true, true, true, false, false, false, false, false, false, false, false, false, false, false, false, false, false, false, false, false, false, false, false, false, false, false, false, false, false, false, false, false, false, false, false] rfl rfl (any_of HT_.out (by kernel_rfl)) (fun _ _ _ h => h) (Or.inl ⟨by rfl, ?_⟩) ?_ ?_
  rotate_left
  ·intro w'
   go_simp
   with_reducible rfl
  rotate_left
  ·simp only [Act.put, List.setIfInBounds_toArray, List.set_cons_zero, List.set_cons_succ, i64_w, i32_w]
   rfl
  refine pure_ (i := 16) (N := some 130) (v := ?_) (a' := ?_) #[true, true, true, true, true, true, true, true, true, true, true, true, true, true, true, true, true, false, false, false, false, false, false, false, false, false, false, false, false, false, false, false, false, false, false, false, false, false, false, false, false, false, false, false, false, false, false, false] rfl rfl (any_of HT_.out (by kernel_rfl)) (fun _ _ _ h => h) (Or.inl ⟨by rfl, ?_⟩) ?_ ?_
  rotate_left
  ·intro w'
   go_simp
   with_reducible rfl
  rotate_left
  ·simp only [Act.put, List.setIfInBounds_toArray, List.set_cons_zero, List.set_cons_succ, i64_w, i32_w]
   rfl
  refine pure_ (i := 17) (N := some 131) (v := ?_) (a' := ?_) #[true, true, true, true, true, true, true, true, true, true, true, true, true, true, true, true, true, true, false, false, false, false, false, false, false, false, false, false, false, false, false, false, false, false, false, false, false, false, false, false, false, false, false, false, false, false, false, false] rfl rfl (any_of HT_.out (by kernel_rfl)) (fun _ _ _ h => h) (Or.inl ⟨by rfl, ?_⟩) ?_ ?_
  rotate_left
  ·intro w'
   go_simp
   with_reducible rfl
  rotate_left
  ·simp only [Act.put, List.setIfInBounds_toArray, List.set_cons_zero, List.set_cons_succ, i64_w, i32_w]
   rfl
  refine pure_ (i := 18) (N := some 132) (v := ?_) (a' := ?_) #[true, true, true, true, true, true, true, true, true, true, true, true, true, true, true, true, true, true, true, false, false, false, false, false, false, false, false, false, false, false, false, false, false, false, false, false, false, false, false, false, false, false, false, false, false, false, false, false] rfl rfl (any_of HT_.out (by kernel_rfl)) (fun _ _ _ h => h) (Or.inl ⟨by rfl, ?_⟩) ?_ ?_
  rotate_left
  ·intro w'
   go_simp
   with_reducible rfl
  rotate_left
  ·simp only [Act.put, List.setIfInBounds_toArray, List.set_cons_zero, List.set_cons_succ, i64_w, i32_w]
   rfl
  refine pure_ (i := 19) (N := some 133) (v := ?_) (a' := ?_) #[true, true, true, true, true, true, true, true, true, true, true, true, true, true, true, true, true, true, true, true, false, false, false, false, false, false, false, false, false, false, false, false, false, false, false, false, false, false, false, false, false, false, false, false, false, false, false, false] rfl rfl (any_of HT_.out (by kernel_rfl)) (fun _ _ _ h => h) (Or.inl ⟨by rfl, ?_⟩) ?_ ?_
  rotate_left
  ·intro w'
   go_simp
   with_reducible rfl
  rotate_left
  ·simp only [Act.put, List.setIfInBounds_toArray, List.set_cons_zero, List.set_cons_succ, i64_w, i32_w]
   rfl
  refine pure_ (i := 20) (N := some 134) (v := ?_) (a' := ?_) #[true, true, true, true, true, true, true, true, true, true, true, true, true, true, true, true, true, true, true, true, true, false, false, false, false, false, false, false, false, false, false, false, false, false, false, false, false, false, false, false, false, false, false, false, false, false, false, false] rfl rfl (any_of HT_.out (by kernel_rfl)) (fun _ _ _ h => h) (Or.inl ⟨by rfl, ?_⟩) ?_ ?_
  rotate_left
  ·intro w'
   go_simp
   with_reducible rfl
  rotate_left
  ·simp only [Act.put, List.setIfInBounds_toArray, List.set_cons_zero, List.set_cons_succ, i64_w, i32_w]
   rfl
  refine pure_ (i := 21) (N := some 135) (v := ?_) (a' := ?_) #[true, true, true, true, true, true, true, true, true, true, true, true, true, true, true, true, true, true, true, true, true, true, false, false, false, false, false, false, false, false, false, false, false, false, false, false, false, false, false, false, false, false, false, false, false, false, false, false] rfl rfl (any_of HT_.out (by kernel_rfl)) (fun _ _ _ h => h) (Or.inl ⟨by rfl, ?_⟩) ?_ ?_
  rotate_left
  ·intro w'
   go_simp
   with_reducible rfl
  rotate_left
  ·simp only [Act.put, List.setIfInBounds_toArray, List.set_cons_zero, List.set_cons_succ, i64_w, i32_w]
   rfl
  refine pure_ (i := 22) (N := some 136) (v := ?_) (a' := ?_) #[true, true, true, true, true, true, true, true, true, true, true, true, true, true, true, true, true, true, true, true, true, true, true, false, false, false, false, false, false, false, false, false, false, false, false, false, false, false, false, false, false, false, false, false, false, false, false, false] rfl rfl (any_of HT_.out (by kernel_rfl)) (fun _ _ _ h => h) (Or.inl ⟨by rfl, ?_⟩) ?_ ?_
  rotate_left
  ·intro w'
   go_simp
   with_reducible rfl
  rotate_left
  ·simp only [Act.put, List.setIfInBounds_toArray, List.set_cons_zero, List.set_cons_succ, i64_w, i32_w]
   rfl
  refine pure_ (i := 23) (N := some 137) (v := ?_) (a' := ?_) #[true, true, true, true, true, true, true, true, true, true, true, true, true, true, true, true, true, true, true, true, true, true, true, true, false, false, false, false, false, false, false, false, false, false, false, false, false, false, false, false, false, false, false, false, false, false, false, false] rfl rfl (any_of HT_.out (by kernel_rfl)) (fun _ _ _ h => h) (Or.inl ⟨by rfl, ?_⟩) ?_ ?_
  rotate_left
  ·intro w'
   go_simp
   with_reducible rfl
  rotate_left
  ·simp only [Act.put, List.setIfInBounds_toArray, List.set_cons_zero, List.set_cons_succ, i64_w, i32_w]
   rfl
  refine pure_ (i := 24) (N := some 138) (v := ?_) (a' := ?_) #[true, true, true, true, true, true, true, true, true, true, true, true, true, true, true, true, true, true, true, true, true, true, true, true, true, false, false, false, false, false, false, false, false, false, false, false, false, false, false, false, false, false, false, false, false, false, false, false] rfl rfl (any_of HT_.out (by kernel_rfl)) (fun _ _ _ h => h) (Or.inl ⟨by rfl, ?_⟩) ?_ ?_
  rotate_left
  ·intro w'
   go_simp
   with_reducible rfl
  rotate_left
  ·simp only [Act.put, List.setIfInBounds_toArray, List.set_cons_zero, List.set_cons_succ, i64_w, i32_w]
   rfl
  refine pure_ (i := 25) (N := some 139) (v := ?_) (a' := ?_) #[true, true, true, true, true, true, true, true, true, true, true, true, true, true, true, true, true, true, true, true, true, true, true, true, true, true, false, false, false, false, false, false, false, false, false, false, false, false, false, false, false, false, false, false, false, false, false, false] rfl rfl (any_of HT_.out (by kernel_rfl)) (fun _ _ _ h => h) (Or.inl ⟨by rfl, ?_⟩) ?_ ?_
  rotate_left
  ·intro w'
   go_simp
   with_reducible rfl
  rotate_left
  ·simp only [Act.put, List.setIfInBounds_toArray, List.set_cons_zero, List.set_cons_succ, i64_w, i32_w]
   rfl
  refine pure_ (i := 26) (N := some 140) (v := ?_) (a' := ?_) #[true, true, true, true, true, true, true, true, true, true, true, true, true, true, true, true, true, true, true, true, true, true, true, true, true, true, true, false, false, false, false, false, false, false, false, false, false, false, false, false, false, false, false, false, false, false, false, false] rfl rfl (any_of HT_.out (by kernel_rfl)) (fun _ _ _ h => h) (Or.inl ⟨by rfl, ?_⟩) ?_ ?_
  rotate_left
  ·intro w'
   go_simp
   with_reducible rfl
  rotate_left
  ·simp only [Act.put, List.setIfInBounds_toArray, List.set_cons_zero, List.set_cons_succ, i64_w, i32_w]
   rfl
  refine pure_ (i := 27) (N := some 141) (v := ?_) (a' := ?_) #[true, true, true, true, true, true, true, true, true, true, true, true, true, true, true, true, true, true, true, true, true, true, true, true, true, true, true, true, false, false, false, false, false, false, false, false, false, false, false, false, false, false, false, false, false, false, false, false] rfl rfl (any_of HT_.out (by kernel_rfl)) (fun _ _ _ h => h) (Or.inl ⟨by rfl, ?_⟩) ?_ ?_
  rotate_left
  ·intro w'
   go_simp
   with_reducible rfl
  rotate_left
  ·simp only [Act.put, List.setIfInBounds_toArray, List.set_cons_zero, List.set_cons_succ, i64_w, i32_w]
   rfl
  refine pure_ (i := 28) (N := some 142) (v := ?_) (a' := ?_) #[true, true, true, true, true, true, true, true, true, true, true, true, true, true, true, true, true, true, true, true, true, true, true, true, true, true, true, true, true, false, false, false, false, false, false, false, false, false, false, false, false, false, false, false, false, false, false, false] rfl rfl (any_of HT_.out (by kernel_rfl)) (fun _ _ _ h => h) (Or.inl ⟨by rfl, ?_⟩) ?_ ?_
  rotate_left
  ·intro w'
   go_simp
   with_reducible rfl
  rotate_left
  ·simp only [Act.put, List.setIfInBounds_toArray, List.set_cons_zero, List.set_cons_succ, i64_w, i32_w]
   rfl
  refine pure_ (i := 29) (N := some 143) (v := ?_) (a' := ?_) #[true, true, true, true, true, true, true, true, true, true, true, true, true, true, true, true, true, true, true, true, true, true, true, true, true, true, true, true, true, true, false, false, false, false, false, false, false, false, false, false, false, false, false, false, false, false, false, false] rfl rfl (any_of HT_.out (by kernel_rfl)) (fun _ _ _ h => h) (Or.inl ⟨by rfl, ?_⟩) ?_ ?_
  rotate_left
  ·intro w'
   go_simp
   with_reducible rfl
  rotate_left
  ·simp only [Act.put, List.setIfInBounds_toArray, List.set_cons_zero, List.set_cons_succ, i64_w, i32_w]
   rfl
  refine pure_ (i := 30) (N := some 144) (v := ?_) (a' := ?_) #[true, true, true, true, true, true, true, true, true, true, true, true, true, true, true, true, true, true, true, true, true, true, true, true, true, true, true, true, true, true, true, false, false, false, false, false, false, false, false, false, false, false, false, false, false, false, false, false] rfl rfl (any_of HT_.out (by kernel_rfl)) (fun _ _ _ h => h) (Or.inl ⟨by rfl, ?_⟩) ?_ ?_
  rotate_left
  ·intro w'
   go_simp
   with_reducible rfl
  rotate_left
  ·simp only [Act.put, List.setIfInBounds_toArray, List.set_cons_zero, List.set_cons_succ, i64_w, i32_w]
   rfl
  refine pure_ (i := 31) (N := some 145) (v := ?_) (a' := ?_) #[true, true, true, true, true, true, true, true, true, true, true, true, true, true, true, true, true, true, true, true, true, true, true, true, true, true, true, true, true, true, true, true, false, false, false, false, false, false, false, false, false, false, false, false, false, false, false, false] rfl rfl (any_of HT_.out (by kernel_rfl)) (fun _ _ _ h => h) (Or.inl ⟨by rfl, ?_⟩) ?_ ?_
  rotate_left
  ·intro w'
   go_simp
   with_reducible rfl
  rotate_left
  ·simp only [Act.put, List.setIfInBounds_toArray, List.set_cons_zero, List.set_cons_succ, i64_w, i32_w]
   rfl
  refine pure_ (i := 32) (N := some 146) (v := ?_) (a' := ?_) #[true, true, true, true, true, true, true, true, true, true, true, true, true, true, true, true, true, true, true, true, true, true, true, true, true, true, true, true, true, true, true, true, true, false, false, false, false, false, false, false, false, false, false, false, false, false, false, false] rfl rfl (any_of HT_.out (by kernel_rfl)) (fun _ _ _ h => h) (Or.inl ⟨by rfl, ?_⟩) ?_ ?_
  rotate_left
  ·intro w'
   go_simp
   with_reducible rfl
  rotate_left
  ·simp only [Act.put, List.setIfInBounds_toArray, List.set_cons_zero, List.set_cons_succ, i64_w, i32_w]
   rfl
  refine pure_ (i := 33) (N := some 147) (v := ?_) (a' := ?_) #[true, true, true, true, true, true, true, true, true, true, true, true, true, true, true, true, true, true, true, true, true, true, true, true, true, true, true, true, true, true, true, true, true, true, false, false, false, false, false, false, false, false, false, false, false, false, false, false] rfl rfl (any_of HT_.out (by kernel_rfl)) (fun _ _ _ h => h) (Or.inl ⟨by rfl, ?_⟩) ?_ ?_
  rotate_left
  ·intro w'
   go_simp
   with_reducible rfl
  rotate_left
  ·simp only [Act.put, List.setIfInBounds_toArray, List.set_cons_zero, List.set_cons_succ, i64_w, i32_w]
   rfl
  refine pure_ (i := 34) (N := some 148) (v := ?_) (a' := ?_) #[true, true, true, true, true, true, true, true, true, true, true, true, true, true, true, true, true, true, true, true, true, true, true, true, true, true, true, true, true, true, true, true, true, true, true, false, false, false, false, false, false, false, false, false, false, false, false, false] rfl rfl (any_of HT_.out (by kernel_rfl)) (fun _ _ _ h => h) (Or.inl ⟨by rfl, ?_⟩) ?_ ?_
  rotate_left
  ·intro w'
   go_simp
   with_reducible rfl
  rotate_left
  ·simp only [Act.put, List.setIfInBounds_toArray, List.set_cons_zero, List.set_cons_succ, i64_w, i32_w]
   rfl
  refine pure_ (i := 35) (N := some 149) (v := ?_) (a' := ?_) #[true, true, true, true, true, true, true, true, true, true, true, true, true, true, true, true, true, true, true, true, true, true, true, true, true, true, true, true, true, true, true, true, true, true, true, true, false, false, false, false, false, false, false, false, false, false, false, false] rfl rfl (any_of HT_.out (by kernel_rfl)) (fun _ _ _ h => h) (Or.inl ⟨by rfl, ?_⟩) ?_ ?_
  rotate_left
  ·intro w'
   go_simp
   with_reducible rfl
  rotate_left
  ·simp only [Act.put, List.setIfInBounds_toArray, List.set_cons_zero, List.set_cons_succ, i64_w, i32_w]
   rfl
  refine pure_ (i := 36) (N := some 150) (v := ?_) (a' := ?_) #[true, true, true, true, true, true, true, true, true, true, true, true, true, true, true, true, true, true, true, true, true, true, true, true, true, true, true, true, true, true, true, true, true, true, true, true, true, false, false, false, false, false, false, false, false, false, false, false] rfl rfl (any_of HT_.out (by kernel_rfl)) (fun _ _ _ h => h) (Or.inl ⟨by rfl, ?_⟩) ?_ ?_
  rotate_left
  ·intro w'
   go_simp
   with_reducible rfl
  rotate_left
  ·simp only [Act.put, List.setIfInBounds_toArray, List.set_cons_zero, List.set_cons_succ, i64_w, i32_w]
   rfl
  refine pure_ (i := 37) (N := some 151) (v := ?_) (a' := ?_) #[true, true, true, true, true, true, true, true, true, true, true, true, true, true, true, true, true, true, true, true, true, true, true, true, true, true, true, true, true, true, true, true, true, true, true, true, true, true, false, false, false, false, false, false, false, false, false, false] rfl rfl (any_of HT_.out (by kernel_rfl)) (fun _ _ _ h => h) (Or.inl ⟨by rfl, ?_⟩) ?_ ?_
  rotate_left
  ·intro w'
   go_simp
   with_reducible rfl
  rotate_left
  ·simp only [Act.put, List.setIfInBounds_toArray, List.set_cons_zero, List.set_cons_succ, i64_w, i32_w]
   rfl
  refine pure_ (i := 38) (N := some 152) (v := ?_) (a' := ?_) #[true, true, true, true, true, true, true, true, true, true, true, true, true, true, true, true, true, true, true, true, true, true, true, true, true, true, true, true, true, true, true, true, true, true, true, true, true, true, true, false, false, false, false, false, false, false, false, false] rfl rfl (any_of HT_.out (by kernel_rfl)) (fun _ _ _ h => h) (Or.inl ⟨by rfl, ?_⟩) ?_ ?_
  rotate_left
  ·intro w'
   go_simp
   with_reducible rfl
  rotate_left
  ·simp only [Act.put, List.setIfInBounds_toArray, List.set_cons_zero, List.set_cons_succ, i64_w, i32_w]
   rfl
  refine pure_ (i := 40) (N := some 154) (v := ?_) (a' := ?_) #[true, true, true, true, true, true, true, true, true, true, true, true, true, true, true, true, true, true, true, true, true, true, true, true, true, true, true, true, true, true, true, true, true, true, true, true, true, true, true, false, true, false, false, false, false, false, false, false] rfl rfl (any_of HT_.out (by kernel_rfl)) (fun _ _ _ h => h) (Or.inl ⟨by rfl, ?_⟩) ?_ ?_
  rotate_left
  ·intro w'
   go_simp
   with_reducible rfl
  rotate_left
  ·simp only [Act.put, List.setIfInBounds_toArray, List.set_cons_zero, List.set_cons_succ, i64_w, i32_w]
   rfl
  refine pure_ (i := 43) (N := some 157) (v := ?_) (a' := ?_) #[true, true, true, true, true, true, true, true, true, true, true, true, true, true, true, true, true, true, true, true, true, true, true, true, true, true, true, true, true, true, true, true, true, true, true, true, true, true, true, false, true, false, false, true, false, false, false, false] rfl rfl (any_of HT_.out (by kernel_rfl)) (fun _ _ _ h => h) (Or.inl ⟨by rfl, ?_⟩) ?_ ?_
  rotate_left
  ·intro w'
   go_simp
   with_reducible rfl
  rotate_left
  ·simp only [Act.put, List.setIfInBounds_toArray, List.set_cons_zero, List.set_cons_succ, i64_w, i32_w]
   rfl
  refine take_ (i := 39) (N := some 153) (v := ?_) (a' := ?_) #[true, true, true, true, true, true, true, true, true, true, true, true, true, true, true, true, true, true, true, true, true, true, true, true, true, true, true, true, true, true, true, true, true, true, true, true, true, true, true, true, true, false, false, true, false, false, false, false] rfl rfl (take_ofW HT_.out HW_.out (by kernel_rfl)) (fun _ _ _ h => h) (Or.inl ⟨by rfl, ?_⟩) hHeld ?_ ?_
  rotate_left
  ·rintro w' ⟨s0, s1, s2, s3, s4, s5, s6, s7, s8, s9⟩
   go_simp
   with_reducible rfl
  rotate_left
  ·simp only [Act.put, List.setIfInBounds_toArray, List.set_cons_zero, List.set_cons_succ, i64_w, i32_w]
   rfl
  refine take_ (i := 42) (N := some 156) (v := ?_) (a' := ?_) #[true, true, true, true, true, true, true, true, true, true, true, true, true, true, true, true, true, true, true, true, true, true, true, true, true, true, true, true, true, true, true, true, true, true, true, true, true, true, true, true, true, false, true, true, false, false, false, false] rfl rfl (take_ofW HT_.out HW_.out (by kernel_rfl)) (fun _ _ _ h => h) (Or.inl ⟨by rfl, ?_⟩) hHeld ?_ ?_
  rotate_left
  ·rintro w' ⟨s0, s1, s2, s3, s4, s5, s6, s7, s8, s9⟩
   go_simp
   with_reducible rfl
  rotate_left
  ·simp only [Act.put, List.setIfInBounds_toArray, List.set_cons_zero, List.set_cons_succ, i64_w, i32_w]
   rfl
  refine one_ (i := 41) (N := some 155) #[true, true, true, true, true, true, true, true, true, true, true, true, true, true, true, true, true, true, true, true, true, true, true, true, true, true, true, true, true, true, true, true, true, true, true, true, true, true, true, true, true, true, true, true, false, false, false, false] rfl rfl (one_of HT_.out (by kernel_rfl)) (by decide) (fun K hK => ?_)
  refine goes_ Tryz.func26 (by kernel_rfl) rfl #[.agg #[.string k.pa, .int .i64 k.e, .string k.st, .string k.sg, .slice A k.vs.length c], .string blob] (by rfl) rfl rfl (by simp only [List.map_toArray, List.map_cons, List.map_nil]; rfl) ?_
  refine (HH1.out _ HVv.out).mono ?_
  rintro e W28 ⟨rfl, hb0⟩
  refine ⟨_, rfl, ?_⟩
  have hb := hb0
  replace HB := Lib.hid (below_step HB.out hb)
  replace HXb := Lib.hid (blk_below HXb.out hb)
  replace HXx := Lib.hid (blk_below HXx.out hb)
  replace HVv := Lib.hid (Kd.C_below HVv.out hb)
  clear hb hb0
  refine hK.out _ _ ⟨(cell_of_blk HXb.out rfl), (cell_of_blk HXb.out rfl), (cell_of_blk HXb.out rfl), (cell_of_blk HXb.out rfl), (cell_of_blk HXb.out rfl), (cell_of_blk HXx.out rfl), (cell_of_blk HXx.out rfl), (cell_of_blk HXx.out rfl), (cell_of_blk HXx.out rfl), (cell_of_blk HXx.out rfl)⟩ (fun hHeld => ?_)
  clear hK K
  refine norm_ (a' := ?_) ?_ ?_
  rotate_left
  ·show Act.put _ (some 155) _ = _
   simp only [Act.put, List.setIfInBounds_toArray, List.set_cons_zero, List.set_cons_succ, i64_w, i32_w]
   rfl
  refine one_ (i := 44) (N := some 158) #[true, true, true, true, true, true, true, true, true, true, true, true, true, true, true, true, true, true, true, true, true, true, true, true, true, true, true, true, true, true, true, true, true, true, true, true, true, true, true, true, true, true, true, true, true, false, false, false] rfl rfl (one_of HT_.out (by kernel_rfl)) (by decide) (fun K hK => ?_)
  refine goes_ Tryz.func31 (by kernel_rfl) rfl #[.agg #[.string k.pa, .int .i64 k.e, .string k.st, .string k.sg, .slice A k.vs.length c], .string blob] (by rfl) rfl rfl (by simp only [List.map_toArray, List.map_cons, List.map_nil]; rfl) ?_
  refine (HH2.out _ HVv.out).mono ?_
  rintro e W29 ⟨rfl, hb0⟩
  refine ⟨_, rfl, ?_⟩
  have hb := hb0
  replace HB := Lib.hid (below_step HB.out hb)
  replace HXb := Lib.hid (blk_below HXb.out hb)
  replace HXx := Lib.hid (blk_below HXx.out hb)
  replace HVv := Lib.hid (Kd.C_below HVv.out hb)
  clear hb hb0
  refine hK.out _ _ ⟨(cell_of_blk HXb.out rfl), (cell_of_blk HXb.out rfl), (cell_of_blk HXb.out rfl), (cell_of_blk HXb.out rfl), (cell_of_blk HXb.out rfl), (cell_of_blk HXx.out rfl), (cell_of_blk HXx.out rfl), (cell_of_blk HXx.out rfl), (cell_of_blk HXx.out rfl), (cell_of_blk HXx.out rfl)⟩ (fun hHeld => ?_)
  clear hK K
  refine norm_ (a' := ?_) ?_ ?_
  rotate_left
  ·show Act.put _ (some 158) _ = _
   simp only [Act.put, List.setIfInBounds_toArray, List.set_cons_zero, List.set_cons_succ, i64_w, i32_w]
   rfl
  refine pure_ (i := 45) (N := some 159) (v := ?_) (a' := ?_) #[true, true, true, true, true, true, true, true, true, true, true, true, true, true, true, true, true, true, true, true, true, true, true, true, true, true, true, true, true, true, true, true, true, true, true, true, true, true, true, true, true, true, true, true, true, true, false, false] rfl rfl (any_of HT_.out (by kernel_rfl)) (fun _ _ _ h => h) (Or.inl ⟨by rfl, ?_⟩) ?_ ?_
  rotate_left
  ·intro w'
   go_simp
   with_reducible rfl
  rotate_left
  ·simp only [Act.put, List.setIfInBounds_toArray, List.set_cons_zero, List.set_cons_succ, i64_w, i32_w]
   rfl
  refine pure_ (i := 46) (N := some 160) (v := ?_) (a' := ?_) #[true, true, true, true, true, true, true, true, true, true, true, true, true, true, true, true, true, true, true, true, true, true, true, true, true, true, true, true, true, true, true, true, true, true, true, true, true, true, true, true, true, true, true, true, true, true, true, false] rfl rfl (any_of HT_.out (by kernel_rfl)) (fun _ _ _ h => h) (Or.inl ⟨by rfl, ?_⟩) ?_ ?_
  rotate_left
  ·intro w'
   go_simp
   with_reducible rfl
  rotate_left
  ·simp only [Act.put, List.setIfInBounds_toArray, List.set_cons_zero, List.set_cons_succ, i64_w, i32_w]
   rfl
  refine pure_ (i := 47) (N := some 6) (v := ?_) (a' := ?_) #[true, true, true, true, true, true, true, true, true, true, true, true, true, true, true, true, true, true, true, true, true, true, true, true, true, true, true, true, true, true, true, true, true, true, true, true, true, true, true, true, true, true, true, true, true, true, true, true] rfl rfl (any_of HT_.out (by kernel_rfl)) (fun _ _ _ h => h) (Or.inl ⟨by rfl, ?_⟩) ?_ ?_
  rotate_left
  ·intro w'
   go_simp
   with_reducible rfl
  rotate_left
  ·simp only [Act.put, List.setIfInBounds_toArray, List.set_cons_zero, List.set_cons_succ, i64_w, i32_w]
   rfl
  refine done_ (done_of HT_.out (by kernel_rfl)) ?_
  clear HT_
  go_wp2
  go_ret
  exact ⟨rfl, HB.out⟩
end Go.Proofs.YtphehoidkmficaaGreatDoor
end
