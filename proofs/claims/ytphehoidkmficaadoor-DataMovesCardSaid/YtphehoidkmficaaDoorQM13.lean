/- Contracts and laws that the statement of LawDataLong,LawDataMoves leans on (packed from this claim's own texts): part 13. -/
import Derived.Test.YtphehoidkmficaaDoorQM12
section

namespace Go.Proofs.YtphehoidkmficaaDoor
open Go.RowKit Go.Proofs.YtphehoidkmficaaDoorW.PrintWords Go.Proofs.YtphehoidkmficaaDoorW.PrintLast Go.Proofs.YtphehoidkmficaaDoor.Ref
set_option linter.unusedVariables false
set_option linter.unusedSimpArgs false
def nameK : Nat → ByteArray
 | 0 => ⟨#[97, 110, 110, 97]⟩
 | 1 => ⟨#[98, 101, 110]⟩
 | 2 => ⟨#[97]⟩
 | 3 => ⟨#[98]⟩
 | 4 => ⟨#[110, 111, 116, 101, 115]⟩
 | 5 => ⟨#[97, 110, 110, 97, 45, 110, 111, 116, 101, 115]⟩
 | 6 => ⟨#[110, 111]⟩
 | 7 => ⟨#[116, 101, 115]⟩
 | _ => ⟨#[97]⟩
theorem name_row (k : Nat) (hk : k < 8) : (#[.string ⟨#[97, 110, 110, 97]⟩, .string ⟨#[98, 101, 110]⟩, .string ⟨#[97]⟩, .string ⟨#[98]⟩, .string ⟨#[110, 111, 116, 101, 115]⟩, .string ⟨#[97, 110, 110, 97, 45, 110, 111, 116, 101, 115]⟩, .string ⟨#[110, 111]⟩, .string ⟨#[116, 101, 115]⟩] : Array Value)[k]? = some (.string (nameK k)) := by
 match k, hk with
 | 0, _ => rfl
 | 1, _ => rfl
 | 2, _ => rfl
 | 3, _ => rfl
 | 4, _ => rfl
 | 5, _ => rfl
 | 6, _ => rfl
 | 7, _ => rfl
 | k + 8, h => exact absurd h (by omega)
theorem nameK_right (k : Nat) (hk : k < 8) : rightN (bytes (nameK k)) = true ∧ (nameK k).size ≤ 20 := by
 match k, hk with
 | 0, _ => exact ⟨by decide +kernel, by decide⟩
 | 1, _ => exact ⟨by decide +kernel, by decide⟩
 | 2, _ => exact ⟨by decide +kernel, by decide⟩
 | 3, _ => exact ⟨by decide +kernel, by decide⟩
 | 4, _ => exact ⟨by decide +kernel, by decide⟩
 | 5, _ => exact ⟨by decide +kernel, by decide⟩
 | 6, _ => exact ⟨by decide +kernel, by decide⟩
 | 7, _ => exact ⟨by decide +kernel, by decide⟩
 | k + 8, h => exact absurd h (by omega)
def pathK (i j : Nat) : ByteArray := (nameK i ++ ⟨#[47]⟩) ++ nameK j
theorem pathK_ok {i j : Nat} (hi : i < 8) (hj : j < 8) : (splitF (pathK i j)).2.2 = 0 ∧ (pathK i j).size ≤ 41 := by
 have h1 := nameK_right i hi
 have h2 := nameK_right j hj
 refine ⟨?_, ?_⟩
 ·unfold pathK
  rw [split_path h1.1 h2.1]
 ·unfold pathK
  rw [ByteArray.size_append, ByteArray.size_append, size_one]; omega
theorem quo_pick (l : Int) (h : I64 l) : I64 (Int.tdiv l 8) := by
 unfold I64 at *
 by_cases h0 : 0 ≤ l
 ·rw [Int.tdiv_eq_ediv_of_nonneg h0]; omega
 ·have e : l.tdiv 8 = -((-l).tdiv 8) := by rw [Int.neg_tdiv, Int.neg_neg]
  rw [e, Int.tdiv_eq_ediv_of_nonneg (by omega)]; omega
def mv9.T7 : Bool × List (List Nat × List Nat) := (true, [([], []), ([], []), ([1], [1]), ([0, 2], [0, 2]), ([3], [3]), ([4], [4]), ([], []), ([], []), ([7], [7]), ([8, 2], [8]), ([6, 9], [6, 9]), ([10], [10]), ([5, 11], [5, 11]), ([12, 9, 0, 1, 2, 3, 4, 5, 6, 7, 8, 9, 10, 11, 12], [12])])
def mv9.B7 : List Nat := [0, 0, 2, 7, 15, 31, 0, 0, 128, 390, 966, 1990, 4095, 8191]
theorem mv9.tab7 : rtab .any (opsOf Tryd.f4 7) = mv9.T7 := by kernel_rfl
theorem mv9.bits7 : waitsOk mv9.T7.2 mv9.B7 = true := by kernel_rfl
def mv9.T8 : Bool × List (List Nat × List Nat) := (true, [([], []), ([], []), ([1], [1]), ([0, 2], [0, 2]), ([3], [3]), ([4], [4]), ([], []), ([], []), ([7], [7]), ([8, 2], [8]), ([6, 9], [6, 9]), ([10], [10]), ([5, 11], [5, 11]), ([12, 9, 0, 1, 2, 3, 4, 5, 6, 7, 8, 9, 10, 11, 12], [12])])
def mv9.B8 : List Nat := [0, 0, 2, 7, 15, 31, 0, 0, 128, 390, 966, 1990, 4095, 8191]
theorem mv9.tab8 : rtab .any (opsOf Tryd.f4 8) = mv9.T8 := by kernel_rfl
theorem mv9.bits8 : waitsOk mv9.T8.2 mv9.B8 = true := by kernel_rfl
def mv9.T13 : Bool × List (List Nat × List Nat) := (true, [([], []), ([], []), ([], []), ([], []), ([0, 1, 2, 3, 1], [0, 1, 2, 3]), ([4], [4]), ([5], [5]), ([5], [5]), ([6, 4, 0, 1, 2, 3, 4, 5, 6], [6]), ([7, 8, 0, 1, 2, 3, 4, 5, 6, 7, 8], [7])])
def mv9.B13 : List Nat := [0, 0, 0, 0, 15, 31, 63, 63, 127, 511]
theorem mv9.tab13 : rtab .any (opsOf Tryd.f4 13) = mv9.T13 := by kernel_rfl
theorem mv9.bits13 : waitsOk mv9.T13.2 mv9.B13 = true := by kernel_rfl
def mv9.T14 : Bool × List (List Nat × List Nat) := (true, [([], []), ([], []), ([], []), ([], []), ([0, 1, 2, 3, 1], [0, 1, 2, 3]), ([4], [4]), ([5], [5]), ([5], [5]), ([6, 4, 0, 1, 2, 3, 4, 5, 6], [6]), ([7, 8, 0, 1, 2, 3, 4, 5, 6, 7, 8], [7])])
def mv9.B14 : List Nat := [0, 0, 0, 0, 15, 31, 63, 63, 127, 511]
theorem mv9.tab14 : rtab .any (opsOf Tryd.f4 14) = mv9.T14 := by kernel_rfl
theorem mv9.bits14 : waitsOk mv9.T14.2 mv9.B14 = true := by kernel_rfl
def mv9.T16 : Bool × List (List Nat × List Nat) := (true, [([], []), ([], []), ([], []), ([], []), ([0, 1, 2, 3, 1], [0, 1, 2, 3]), ([4], [4]), ([5], [5]), ([5], [5]), ([6, 4, 0, 1, 2, 3, 4, 5, 6], [6]), ([7, 8, 0, 1, 2, 3, 4, 5, 6, 7, 8], [7])])
def mv9.B16 : List Nat := [0, 0, 0, 0, 15, 31, 63, 63, 127, 511]
theorem mv9.tab16 : rtab .any (opsOf Tryd.f4 16) = mv9.T16 := by kernel_rfl
theorem mv9.bits16 : waitsOk mv9.T16.2 mv9.B16 = true := by kernel_rfl
set_option maxRecDepth 100000 in
set_option maxHeartbeats 8000000 in
theorem moves9_any (root a other l k : Int) (w : World) (HTB : Aside0 (Tabs w)) (h0 : (Lit.int .i64 root).wf = true) (h1 : (Lit.int .i64 a).wf = true) (h2 : (Lit.int .i64 other).wf = true) (h3 : (Lit.int .i64 l).wf = true) (h4 : (Lit.int .i64 k).wf = true) :
  Calls Tryd.prog 4 #[.int .i64 root, .int .i64 a, .int .i64 other, .int .i64 l, .int .i64 k] w fun e w' => e = .returned (.bool true) ∧ Below w.heap.size w w' := by
 have HSH := Lib.hid (fun (W : World) (hb : Below w.heap.size w W) => shown9_call W ⟨HTB.out.below hb⟩)
 have hr := pick_lt root (n := 5) (by omega)
 have hx := pick_lt a (n := 8) (by omega)
 have hy := pick_lt other (n := 8) (by omega)
 have hp1 := pick_lt l (n := 8) (by omega)
 have hp2 := pick_lt (wrap64 (Int.tdiv l 8)) (n := 8) (by omega)
 have hq1 := pick_lt k (n := 8) (by omega)
 have hq2 := pick_lt (wrap64 (Int.tdiv k 8)) (n := 8) (by omega)
 have wl : I64 (wrap64 (Int.tdiv l 8)) := by
  have := quo_pick l (i64_of h3)
  rw [w64 this.1 (by have := this.2; omega)]; exact this
 have wk : I64 (wrap64 (Int.tdiv k 8)) := by
  have := quo_pick k (i64_of h4)
  rw [w64 this.1 (by have := this.2; omega)]; exact this
 have HPX := Lib.hid (fun W => pick_call a 8 (by omega) (by omega) (i64_of h1) W)
 have HPY := Lib.hid (fun W => pick_call other 8 (by omega) (by omega) (i64_of h2) W)
 have HP1 := Lib.hid (fun W => pick_call l 8 (by omega) (by omega) (i64_of h3) W)
 have HP2 := Lib.hid (fun W => pick_call (wrap64 (Int.tdiv l 8)) 8 (by omega) (by omega) wl W)
 have HQ1 := Lib.hid (fun W => pick_call k 8 (by omega) (by omega) (i64_of h4) W)
 have HQ2 := Lib.hid (fun W => pick_call (wrap64 (Int.tdiv k 8)) 8 (by omega) (by omega) wk W)
 have HRT := Lib.hid (root_call root (i64_of h0))
 generalize pickN root 5 = r at *
 generalize pickN a 8 = x at *
 generalize pickN other 8 = y at *
 generalize pickN l 8 = i1 at *
 generalize pickN (wrap64 (Int.tdiv l 8)) 8 = i2 at *
 generalize pickN k 8 = j1 at *
 generalize pickN (wrap64 (Int.tdiv k 8)) 8 = j2 at *
 have HSX := Lib.hid (fun W => state_call (r := r) (e := x) (by omega) (by omega) W)
 have HS7 := Lib.hid (fun W => state_call (r := r) (e := 7) (by omega) (by omega) W)
 have HSG := Lib.hid (fun W => signer_call (i := x) (by omega) W)
 have HSY := Lib.hid (fun W => signer_call (i := y) (by omega) W)
 have hsz := st_small (r := r) (j := 7 - x) (by omega) (by omega)
 have hs7 := st_small (r := r) (j := 7 - 7) (by omega) (by omega)
 have hgz := sg_small (i := x) (by omega)
 have hgy := sg_small (i := y) (by omega)
 obtain ⟨ps, pz⟩ := pathK_ok hp1 hp2
 obtain ⟨qs, qz⟩ := pathK_ok hq1 hq2
 have hpe : pathK i1 i2 = (nameK i1 ++ ⟨#[47]⟩) ++ nameK i2 := rfl
 have hqe : pathK j1 j2 = (nameK j1 ++ ⟨#[47]⟩) ++ nameK j2 := rfl
 have n1 := name_row i1 hp1
 have n2 := name_row i2 hp2
 have n3 := name_row j1 hq1
 have n4 := name_row j2 hq2
 have e1 := (nameK_right i1 hp1).2
 have e2 := (nameK_right i2 hp2).2
 have e3 := (nameK_right j1 hq1).2
 have e4 := (nameK_right j2 hq2).2
 generalize pathK i1 i2 = pp at *
 generalize pathK j1 j2 = qq at *
 generalize nameK i1 = u1 at *
 generalize nameK i2 = u2 at *
 generalize nameK j1 = v1 at *
 generalize nameK j2 = v2 at *
 have hpl : (bytes pp).length ≤ 300 := by rw [bytes_length]; omega
 have hhl : (bytes hi).length ≤ 64 := by decide
 have hppz : pp.size ≤ 1000000 := by omega
 have hb1 := build_tm (i := x) (e := x) (r := r) (j := 7 - x) (pa := pp) (ct := hi) (by omega) (by omega) (by omega) (by omega) ps (by decide)
 have hb2 := build_tm (i := y) (e := x) (r := r) (j := 7 - x) (pa := pp) (ct := hi) (by omega) (by omega) (by omega) (by omega) ps (by decide)
 obtain ⟨z1, z2⟩ := bl_small (i := x) (e := x) (r := r) (j := 7 - x) (pa := bytes pp) (ct := bytes hi) (by omega) (by omega) (by omega) (by omega) hpl hhl
 obtain ⟨_, z3⟩ := bl_small (i := y) (e := x) (r := r) (j := 7 - x) (pa := bytes pp) (ct := bytes hi) (by omega) (by omega) (by omega) (by omega) hpl hhl
 have o1 := open_tm (i := x) (e := x) (e' := x) (i' := x) (r := r) (j := 7 - x) (m := 7 - 7) (y := 7) (pa := bytes pp) (ct := bytes hi) (pa' := qq) (vs := pubs 8) (by omega) (by omega) (by omega) (by omega) (by omega) (by omega) (by omega) (by omega) hpl hhl (pubs_len 8) (pubs_getD (by omega))
 have o2 := open_tm (i := y) (e := x) (e' := x) (i' := x) (r := r) (j := 7 - x) (m := 7 - 7) (y := 7) (pa := bytes pp) (ct := bytes hi) (pa' := pp) (vs := pubs 8) (by omega) (by omega) (by omega) (by omega) (by omega) (by omega) (by omega) (by omega) hpl hhl (pubs_len 8) (pubs_getD (by omega))
 have o3 := open_tm (i := x) (e := x) (e' := y) (i' := y) (r := r) (j := 7 - x) (m := 7 - 7) (y := 7) (pa := bytes pp) (ct := bytes hi) (pa' := pp) (vs := pubs 8) (by omega) (by omega) (by omega) (by omega) (by omega) (by omega) (by omega) (by omega) hpl hhl (pubs_len 8) (pubs_getD (by omega))
 rw [ofBytes_bytes, ofBytes_bytes] at o1 o2 o3
 have g1 : openBl ⟨(x : Int), tm (sealT r (7 - x) (bytes pp) (bytes hi)), tm (sigT x x r (7 - x) (bytes pp) (bytes hi))⟩ (pubs 8) (tm (hT (7 - 7) (rT r))) ((7 : Nat) : Int) qq = if pp = qq then (hi, 0) else (⟨#[]⟩, 7) := by
  rw [o1]
  by_cases h : pp = qq
  ·rw [if_pos (by refine ⟨by omega, ?_, ?_, by omega, h⟩ <;> trivial), if_pos h]
  ·rw [if_neg (fun hh => h hh.2.2.2.2), if_neg h]
 have g2 : openBl ⟨(x : Int), tm (sealT r (7 - x) (bytes pp) (bytes hi)), tm (sigT y x r (7 - x) (bytes pp) (bytes hi))⟩ (pubs 8) (tm (hT (7 - 7) (rT r))) ((7 : Nat) : Int) pp = if x = y then (hi, 0) else (⟨#[]⟩, 7) := by
  rw [o2]
  by_cases h : x = y
  ·rw [if_pos (by refine ⟨by omega, ?_, by omega, by omega, ?_⟩ <;> trivial), if_pos h]
  ·rw [if_neg (fun hh => h hh.2.2.1.symm), if_neg h]
 have g3 : openBl ⟨(y : Int), tm (sealT r (7 - x) (bytes pp) (bytes hi)), tm (sigT x x r (7 - x) (bytes pp) (bytes hi))⟩ (pubs 8) (tm (hT (7 - 7) (rT r))) ((7 : Nat) : Int) pp = if x = y then (hi, 0) else (⟨#[]⟩, 7) := by
  rw [o3]
  by_cases h : x = y
  ·rw [if_pos (by refine ⟨by omega, by omega, by omega, by omega, ?_⟩ <;> trivial), if_pos h]
  ·rw [if_neg (fun hh => h hh.2.1), if_neg h]
 clear o1 o2 o3
 unfold blT at hb1 hb2
 generalize tm (sealT r (7 - x) (bytes pp) (bytes hi)) = sl at *
 generalize tm (sigT x x r (7 - x) (bytes pp) (bytes hi)) = sg at *
 generalize tm (sigT y x r (7 - x) (bytes pp) (bytes hi)) = sh at *
 generalize tm (hT (7 - x) (rT r)) = st at *
 generalize tm (hT (7 - 7) (rT r)) = s7 at *
 generalize tm (sT x) = gx at *
 generalize tm (sT y) = gy at *
 generalize tm (rT r) = rt at *
 obtain ⟨R1, hR1⟩ : ∃ R : ByteArray × Int, (if pp = qq then (hi, (0 : Int)) else (⟨#[]⟩, 7)) = R := ⟨_, rfl⟩
 obtain ⟨R2, hR2⟩ : ∃ R : ByteArray × Int, (if x = y then (hi, (0 : Int)) else (⟨#[]⟩, 7)) = R := ⟨_, rfl⟩
 rw [hR1] at g1
 rw [hR2] at g2 g3
 have hm8 : (pubs 8).length ≤ 1000000 := by rw [pubs_len]; omega
 have hv8 := pubs_small 8 (by omega)
 have HB1 := Lib.hid (bl_at hsz hgz hppz HTB hb1)
 have HB2 := Lib.hid (bl_at hsz hgy hppz HTB hb2)
 simp only at HB1 HB2
 have HO1 := Lib.hid (op_at g1 z1 z2 hs7 hv8 hm8)
 have HO2 := Lib.hid (op_at g2 z1 z3 hs7 hv8 hm8)
 have HO3 := Lib.hid (op_at g3 z1 z2 hs7 hv8 hm8)
 have HV8 := Lib.hid (fun W => verifyOf_call (n := 7) (by omega) (by omega) (m := 8) (by omega) W)
 generalize pubs 8 = va at *
 have b1 : (i1 : Int) < 8 := by omega
 have b2 : (i2 : Int) < 8 := by omega
 have b3 : (j1 : Int) < 8 := by omega
 have b4 : (j2 : Int) < 8 := by omega
 have s1 : ¬ 9223372036854775807 < u1.size + 1 := by omega
 have s2 : ¬ 9223372036854775807 < u1.size + 1 + u2.size := by omega
 have s3 : ¬ 9223372036854775807 < v1.size + 1 := by omega
 have s4 : ¬ 9223372036854775807 < v1.size + 1 + v2.size := by omega
 have H1 := Lib.hid hR1
 have H2 := Lib.hid hR2
 have HN := Lib.hid (And.intro n1 (And.intro n2 (And.intro n3 n4)))
 have HPE := Lib.hid hpe
 have HQE := Lib.hid hqe
 clear hR1 hR2 hm8 hv8 g1 g2 g3 z1 z2 z3 hb1 hb2 hpl hhl hppz ps pz qs qz hsz hs7 hgz hgy n1 n2 n3 n4 wl wk h0 h1 h2 h3 h4 hr hx hy hpe hqe HTB
 have HB := Lib.hid (Below.refl w.heap.size w)
 go_enter Tryd.func4, Tryd.ntmps4
 go_wp2_with fail
 refine (HSH.out _ HB.out).mono ?_
 rintro e W1 ⟨rfl, hb0⟩
 have hb := hb0
 replace HB := Lib.hid (below_step HB.out hb)
 clear hb hb0
 go_wp2_with fail
 refine (HPX.out _).mono ?_
 rintro e W2 ⟨rfl, hb0⟩
 have hb := hb0
 replace HB := Lib.hid (below_step HB.out hb)
 clear hb hb0
 go_wp2_with fail
 refine (HPY.out _).mono ?_
 rintro e W3 ⟨rfl, hb0⟩
 have hb := hb0
 replace HB := Lib.hid (below_step HB.out hb)
 clear hb hb0
 go_wp2_with fail
 have hb0 : Below (W3.alloc (.cells #[.string ⟨#[97, 110, 110, 97]⟩, .string ⟨#[98, 101, 110]⟩, .string ⟨#[97]⟩, .string ⟨#[98]⟩, .string ⟨#[110, 111, 116, 101, 115]⟩, .string ⟨#[97, 110, 110, 97, 45, 110, 111, 116, 101, 115]⟩, .string ⟨#[110, 111]⟩, .string ⟨#[116, 101, 115]⟩] 9)).heap.size (W3.alloc (.cells #[.string ⟨#[97, 110, 110, 97]⟩, .string ⟨#[98, 101, 110]⟩, .string ⟨#[97]⟩, .string ⟨#[98]⟩, .string ⟨#[110, 111, 116, 101, 115]⟩, .string ⟨#[97, 110, 110, 97, 45, 110, 111, 116, 101, 115]⟩, .string ⟨#[110, 111]⟩, .string ⟨#[116, 101, 115]⟩] 9)) (W3.alloc (.cells #[.string ⟨#[97, 110, 110, 97]⟩, .string ⟨#[98, 101, 110]⟩, .string ⟨#[97]⟩, .string ⟨#[98]⟩, .string ⟨#[110, 111, 116, 101, 115]⟩, .string ⟨#[97, 110, 110, 97, 45, 110, 111, 116, 101, 115]⟩, .string ⟨#[110, 111]⟩, .string ⟨#[116, 101, 115]⟩] 9)).drew := below_drew (Below.refl _ _)
 have hb := below_step (below_alloc (Below.refl _ _) _) hb0
 replace HB := Lib.hid (below_step HB.out hb)
 have HXn := Lib.hid (blk_below (blk_new W3 (.cells #[.string ⟨#[97, 110, 110, 97]⟩, .string ⟨#[98, 101, 110]⟩, .string ⟨#[97]⟩, .string ⟨#[98]⟩, .string ⟨#[110, 111, 116, 101, 115]⟩, .string ⟨#[97, 110, 110, 97, 45, 110, 111, 116, 101, 115]⟩, .string ⟨#[110, 111]⟩, .string ⟨#[116, 101, 115]⟩] 9)) hb0)
 clear hb hb0
 refine start_ (n := 14) (S := fun w' => w'.cell? ⟨W3.heap.size, i1, none⟩ = some (.string u1) ∧ w'.cell? ⟨W3.heap.size, i2, none⟩ = some (.string u2)) (ds := []) #[false, false, false, false, false, false, false, false, false, false, false, false, false, false] (by kernel_rfl) rfl rfl ⟨(cell_of_blk HXn.out HN.out.1), (cell_of_blk HXn.out HN.out.2.1)⟩ (fun hHeld => ?_)
 refine with_tabW mv9.tab7 mv9.bits7 (fun HT_ HW_ => ?_)
 refine pure_ (i := 0) (N := some 39) (v := ?_) (a' := ?_) #[true, false, false, false, false, false, false, false, false, false, false, false, false, false] rfl rfl (any_of HT_.out (by kernel_rfl)) (fun _ _ _ h => h) (Or.inl ⟨by rfl, ?_⟩) ?_ ?_
 rotate_left
 ·intro w'
  go_simp
  with_reducible rfl
 rotate_left
 ·simp only [Act.put, List.setIfInBounds_toArray, List.set_cons_zero, List.set_cons_succ, i64_w, i32_w]
  rfl
 refine pure_ (i := 1) (N := some 40) (v := ?_) (a' := ?_) #[true, true, false, false, false, false, false, false, false, false, false, false, false, false] rfl rfl (any_of HT_.out (by kernel_rfl)) (fun _ _ _ h => h) (Or.inl ⟨by rfl, ?_⟩) ?_ ?_
 rotate_left
 ·intro w'
  go_simp
  with_reducible rfl
 rotate_left
 ·simp only [Act.put, List.setIfInBounds_toArray, List.set_cons_zero, List.set_cons_succ, i64_w, i32_w]
  rfl
 refine pure_ (i := 6) (N := some 45) (v := ?_) (a' := ?_) #[true, true, false, false, false, false, true, false, false, false, false, false, false, false] rfl rfl (any_of HT_.out (by kernel_rfl)) (fun _ _ _ h => h) (Or.inl ⟨by rfl, ?_⟩) ?_ ?_
 rotate_left
 ·intro w'
  go_simp
  with_reducible rfl
 rotate_left
 ·simp only [Act.put, List.setIfInBounds_toArray, List.set_cons_zero, List.set_cons_succ, i64_w, i32_w]
  rfl
 refine pure_ (i := 7) (N := some 46) (v := ?_) (a' := ?_) #[true, true, false, false, false, false, true, true, false, false, false, false, false, false] rfl rfl (any_of HT_.out (by kernel_rfl)) (fun _ _ _ h => h) (Or.inl ⟨by rfl, ?_⟩) ?_ ?_
 rotate_left
 ·intro w'
  go_simp
  with_reducible rfl
 rotate_left
 ·simp only [Act.put, List.setIfInBounds_toArray, List.set_cons_zero, List.set_cons_succ, i64_w, i32_w]
  rfl
 refine pure_ (i := 8) (N := some 47) (v := ?_) (a' := ?_) #[true, true, false, false, false, false, true, true, true, false, false, false, false, false] rfl rfl (any_of HT_.out (by kernel_rfl)) (fun _ _ _ h => h) (Or.inl ⟨by rfl, ?_⟩) ?_ ?_
 rotate_left
 ·intro w'
  go_simp
  with_reducible rfl
 rotate_left
 ·simp only [Act.put, List.setIfInBounds_toArray, List.set_cons_zero, List.set_cons_succ, i64_w, i32_w]
  rfl
 refine one_ (i := 2) (N := some 41) #[true, true, true, false, false, false, true, true, true, false, false, false, false, false] rfl rfl (one_of HT_.out (by kernel_rfl)) (by decide) (fun K hK => ?_)
 refine goes_ Tryd.func9 (by kernel_rfl) rfl #[.int .i64 l, .int .i64 8] (by rfl) rfl rfl (by simp only [List.map_toArray, List.map_cons, List.map_nil]; rfl) ?_
 refine (HP1.out _).mono ?_
 rintro e W4 ⟨rfl, hb0⟩
 refine ⟨_, rfl, ?_⟩
 have hb := hb0
 replace HB := Lib.hid (below_step HB.out hb)
 replace HXn := Lib.hid (blk_below HXn.out hb)
 clear hb hb0
 refine hK.out _ _ ⟨(cell_of_blk HXn.out HN.out.1), (cell_of_blk HXn.out HN.out.2.1)⟩ (fun hHeld => ?_)
 clear hK K
 refine norm_ (a' := ?_) ?_ ?_
 rotate_left
 ·show Act.put _ (some 41) _ = _
  simp only [Act.put, List.setIfInBounds_toArray, List.set_cons_zero, List.set_cons_succ, i64_w, i32_w]
  rfl
 refine pure_ (i := 3) (N := some 42) (v := ?_) (a' := ?_) #[true, true, true, true, false, false, true, true, true, false, false, false, false, false] rfl rfl (any_of HT_.out (by kernel_rfl)) (fun _ _ _ h => h) (Or.inl ⟨by rfl, ?_⟩) ?_ ?_
 rotate_left
 ·intro w'
  go_simp
  with_reducible rfl
 rotate_left
 ·simp only [Act.put, List.setIfInBounds_toArray, List.set_cons_zero, List.set_cons_succ, i64_w, i32_w]
  rfl
 refine take_ (i := 4) (N := some 43) (v := ?_) (a' := ?_) #[true, true, true, true, true, false, true, true, true, false, false, false, false, false] rfl rfl (take_ofW HT_.out HW_.out (by kernel_rfl)) (fun _ _ _ h => h) (Or.inl ⟨by rfl, ?_⟩) hHeld ?_ ?_
 rotate_left
 ·rintro w' ⟨s0, s1⟩
  go_simp
  with_reducible rfl
 rotate_left
 ·simp only [Act.put, List.setIfInBounds_toArray, List.set_cons_zero, List.set_cons_succ, i64_w, i32_w]
  rfl
 refine pure_ (i := 5) (N := some 44) (v := ?_) (a' := ?_) #[true, true, true, true, true, true, true, true, true, false, false, false, false, false] rfl rfl (any_of HT_.out (by kernel_rfl)) (fun _ _ _ h => h) (Or.inl ⟨by rfl, ?_⟩) ?_ ?_
 rotate_left
 ·intro w'
  go_simp
  with_reducible rfl
 rotate_left
 ·simp only [Act.put, List.setIfInBounds_toArray, List.set_cons_zero, List.set_cons_succ, i64_w, i32_w]
  rfl
 refine one_ (i := 9) (N := some 48) #[true, true, true, true, true, true, true, true, true, true, false, false, false, false] rfl rfl (one_of HT_.out (by kernel_rfl)) (by decide) (fun K hK => ?_)
 refine goes_ Tryd.func9 (by kernel_rfl) rfl #[.int .i64 (wrap64 (Int.tdiv l 8)), .int .i64 8] (by rfl) rfl rfl (by simp only [List.map_toArray, List.map_cons, List.map_nil]; rfl) ?_
 refine (HP2.out _).mono ?_
 rintro e W5 ⟨rfl, hb0⟩
 refine ⟨_, rfl, ?_⟩
 have hb := hb0
 replace HB := Lib.hid (below_step HB.out hb)
 replace HXn := Lib.hid (blk_below HXn.out hb)
 clear hb hb0
 refine hK.out _ _ ⟨(cell_of_blk HXn.out HN.out.1), (cell_of_blk HXn.out HN.out.2.1)⟩ (fun hHeld => ?_)
 clear hK K
 refine norm_ (a' := ?_) ?_ ?_
 rotate_left
 ·show Act.put _ (some 48) _ = _
  simp only [Act.put, List.setIfInBounds_toArray, List.set_cons_zero, List.set_cons_succ, i64_w, i32_w]
  rfl
 refine pure_ (i := 10) (N := some 49) (v := ?_) (a' := ?_) #[true, true, true, true, true, true, true, true, true, true, true, false, false, false] rfl rfl (any_of HT_.out (by kernel_rfl)) (fun _ _ _ h => h) (Or.inl ⟨by rfl, ?_⟩) ?_ ?_
 rotate_left
 ·intro w'
  go_simp
  with_reducible rfl
 rotate_left
 ·simp only [Act.put, List.setIfInBounds_toArray, List.set_cons_zero, List.set_cons_succ, i64_w, i32_w]
  rfl
 refine take_ (i := 11) (N := some 50) (v := ?_) (a' := ?_) #[true, true, true, true, true, true, true, true, true, true, true, true, false, false] rfl rfl (take_ofW HT_.out HW_.out (by kernel_rfl)) (fun _ _ _ h => h) (Or.inl ⟨by rfl, ?_⟩) hHeld ?_ ?_
 rotate_left
 ·rintro w' ⟨s0, s1⟩
  go_simp
  with_reducible rfl
 rotate_left
 ·simp only [Act.put, List.setIfInBounds_toArray, List.set_cons_zero, List.set_cons_succ, i64_w, i32_w]
  rfl
 refine pure_ (i := 12) (N := some 51) (v := ?_) (a' := ?_) #[true, true, true, true, true, true, true, true, true, true, true, true, true, false] rfl rfl (any_of HT_.out (by kernel_rfl)) (fun _ _ _ h => h) (Or.inl ⟨by rfl, ?_⟩) ?_ ?_
 rotate_left
 ·intro w'
  go_simp
  with_reducible rfl
 rotate_left
 ·simp only [Act.put, List.setIfInBounds_toArray, List.set_cons_zero, List.set_cons_succ, i64_w, i32_w]
  rfl
 refine pure_ (i := 13) (N := some 15) (v := ?_) (a' := ?_) #[true, true, true, true, true, true, true, true, true, true, true, true, true, true] rfl rfl (any_of HT_.out (by kernel_rfl)) (fun _ _ _ h => h) (Or.inl ⟨by rfl, ?_⟩) ?_ ?_
 rotate_left
 ·intro w'
  go_simp
  with_reducible rfl
 rotate_left
 ·simp only [Act.put, List.setIfInBounds_toArray, List.set_cons_zero, List.set_cons_succ, i64_w, i32_w]
  rfl
 refine done_ (done_of HT_.out (by kernel_rfl)) ?_
 clear HT_
 rw [← HPE.out]
 go_wp2_with fail
 have hb0 : Below W5.heap.size W5 W5.drew := below_drew (Below.refl _ _)
 have hb := hb0
 replace HB := Lib.hid (below_step HB.out hb)
 replace HXn := Lib.hid (blk_below HXn.out hb)
 clear hb hb0
 refine start_ (n := 14) (S := fun w' => w'.cell? ⟨W3.heap.size, j1, none⟩ = some (.string v1) ∧ w'.cell? ⟨W3.heap.size, j2, none⟩ = some (.string v2)) (ds := []) #[false, false, false, false, false, false, false, false, false, false, false, false, false, false] (by kernel_rfl) rfl rfl ⟨(cell_of_blk HXn.out HN.out.2.2.1), (cell_of_blk HXn.out HN.out.2.2.2)⟩ (fun hHeld => ?_)
 refine with_tabW mv9.tab8 mv9.bits8 (fun HT_ HW_ => ?_)
 refine pure_ (i := 0) (N := some 52) (v := ?_) (a' := ?_) #[true, false, false, false, false, false, false, false, false, false, false, false, false, false] rfl rfl (any_of HT_.out (by kernel_rfl)) (fun _ _ _ h => h) (Or.inl ⟨by rfl, ?_⟩) ?_ ?_
 rotate_left
 ·intro w'
  go_simp
  with_reducible rfl
 rotate_left
 ·simp only [Act.put, List.setIfInBounds_toArray, List.set_cons_zero, List.set_cons_succ, i64_w, i32_w]
  rfl
 refine pure_ (i := 1) (N := some 53) (v := ?_) (a' := ?_) #[true, true, false, false, false, false, false, false, false, false, false, false, false, false] rfl rfl (any_of HT_.out (by kernel_rfl)) (fun _ _ _ h => h) (Or.inl ⟨by rfl, ?_⟩) ?_ ?_
 rotate_left
 ·intro w'
  go_simp
  with_reducible rfl
 rotate_left
 ·simp only [Act.put, List.setIfInBounds_toArray, List.set_cons_zero, List.set_cons_succ, i64_w, i32_w]
  rfl
 refine pure_ (i := 6) (N := some 58) (v := ?_) (a' := ?_) #[true, true, false, false, false, false, true, false, false, false, false, false, false, false] rfl rfl (any_of HT_.out (by kernel_rfl)) (fun _ _ _ h => h) (Or.inl ⟨by rfl, ?_⟩) ?_ ?_
 rotate_left
 ·intro w'
  go_simp
  with_reducible rfl
 rotate_left
 ·simp only [Act.put, List.setIfInBounds_toArray, List.set_cons_zero, List.set_cons_succ, i64_w, i32_w]
  rfl
 refine pure_ (i := 7) (N := some 59) (v := ?_) (a' := ?_) #[true, true, false, false, false, false, true, true, false, false, false, false, false, false] rfl rfl (any_of HT_.out (by kernel_rfl)) (fun _ _ _ h => h) (Or.inl ⟨by rfl, ?_⟩) ?_ ?_
 rotate_left
 ·intro w'
  go_simp
  with_reducible rfl
 rotate_left
 ·simp only [Act.put, List.setIfInBounds_toArray, List.set_cons_zero, List.set_cons_succ, i64_w, i32_w]
  rfl
 refine pure_ (i := 8) (N := some 60) (v := ?_) (a' := ?_) #[true, true, false, false, false, false, true, true, true, false, false, false, false, false] rfl rfl (any_of HT_.out (by kernel_rfl)) (fun _ _ _ h => h) (Or.inl ⟨by rfl, ?_⟩) ?_ ?_
 rotate_left
 ·intro w'
  go_simp
  with_reducible rfl
 rotate_left
 ·simp only [Act.put, List.setIfInBounds_toArray, List.set_cons_zero, List.set_cons_succ, i64_w, i32_w]
  rfl
 refine one_ (i := 2) (N := some 54) #[true, true, true, false, false, false, true, true, true, false, false, false, false, false] rfl rfl (one_of HT_.out (by kernel_rfl)) (by decide) (fun K hK => ?_)
 refine goes_ Tryd.func9 (by kernel_rfl) rfl #[.int .i64 k, .int .i64 8] (by rfl) rfl rfl (by simp only [List.map_toArray, List.map_cons, List.map_nil]; rfl) ?_
 refine (HQ1.out _).mono ?_
 rintro e W6 ⟨rfl, hb0⟩
 refine ⟨_, rfl, ?_⟩
 have hb := hb0
 replace HB := Lib.hid (below_step HB.out hb)
 replace HXn := Lib.hid (blk_below HXn.out hb)
 clear hb hb0
 refine hK.out _ _ ⟨(cell_of_blk HXn.out HN.out.2.2.1), (cell_of_blk HXn.out HN.out.2.2.2)⟩ (fun hHeld => ?_)
 clear hK K
 refine norm_ (a' := ?_) ?_ ?_
 rotate_left
 ·show Act.put _ (some 54) _ = _
  simp only [Act.put, List.setIfInBounds_toArray, List.set_cons_zero, List.set_cons_succ, i64_w, i32_w]
  rfl
 refine pure_ (i := 3) (N := some 55) (v := ?_) (a' := ?_) #[true, true, true, true, false, false, true, true, true, false, false, false, false, false] rfl rfl (any_of HT_.out (by kernel_rfl)) (fun _ _ _ h => h) (Or.inl ⟨by rfl, ?_⟩) ?_ ?_
 rotate_left
 ·intro w'
  go_simp
  with_reducible rfl
 rotate_left
 ·simp only [Act.put, List.setIfInBounds_toArray, List.set_cons_zero, List.set_cons_succ, i64_w, i32_w]
  rfl
 refine take_ (i := 4) (N := some 56) (v := ?_) (a' := ?_) #[true, true, true, true, true, false, true, true, true, false, false, false, false, false] rfl rfl (take_ofW HT_.out HW_.out (by kernel_rfl)) (fun _ _ _ h => h) (Or.inl ⟨by rfl, ?_⟩) hHeld ?_ ?_
 rotate_left
 ·rintro w' ⟨s0, s1⟩
  go_simp
  with_reducible rfl
 rotate_left
 ·simp only [Act.put, List.setIfInBounds_toArray, List.set_cons_zero, List.set_cons_succ, i64_w, i32_w]
  rfl
 refine pure_ (i := 5) (N := some 57) (v := ?_) (a' := ?_) #[true, true, true, true, true, true, true, true, true, false, false, false, false, false] rfl rfl (any_of HT_.out (by kernel_rfl)) (fun _ _ _ h => h) (Or.inl ⟨by rfl, ?_⟩) ?_ ?_
 rotate_left
 ·intro w'
  go_simp
  with_reducible rfl
 rotate_left
 ·simp only [Act.put, List.setIfInBounds_toArray, List.set_cons_zero, List.set_cons_succ, i64_w, i32_w]
  rfl
 refine one_ (i := 9) (N := some 61) #[true, true, true, true, true, true, true, true, true, true, false, false, false, false] rfl rfl (one_of HT_.out (by kernel_rfl)) (by decide) (fun K hK => ?_)
 refine goes_ Tryd.func9 (by kernel_rfl) rfl #[.int .i64 (wrap64 (Int.tdiv k 8)), .int .i64 8] (by rfl) rfl rfl (by simp only [List.map_toArray, List.map_cons, List.map_nil]; rfl) ?_
 refine (HQ2.out _).mono ?_
 rintro e W7 ⟨rfl, hb0⟩
 refine ⟨_, rfl, ?_⟩
 have hb := hb0
 replace HB := Lib.hid (below_step HB.out hb)
 replace HXn := Lib.hid (blk_below HXn.out hb)
 clear hb hb0
 refine hK.out _ _ ⟨(cell_of_blk HXn.out HN.out.2.2.1), (cell_of_blk HXn.out HN.out.2.2.2)⟩ (fun hHeld => ?_)
 clear hK K
 refine norm_ (a' := ?_) ?_ ?_
 rotate_left
 ·show Act.put _ (some 61) _ = _
  simp only [Act.put, List.setIfInBounds_toArray, List.set_cons_zero, List.set_cons_succ, i64_w, i32_w]
  rfl
 refine pure_ (i := 10) (N := some 62) (v := ?_) (a' := ?_) #[true, true, true, true, true, true, true, true, true, true, true, false, false, false] rfl rfl (any_of HT_.out (by kernel_rfl)) (fun _ _ _ h => h) (Or.inl ⟨by rfl, ?_⟩) ?_ ?_
 rotate_left
 ·intro w'
  go_simp
  with_reducible rfl
 rotate_left
 ·simp only [Act.put, List.setIfInBounds_toArray, List.set_cons_zero, List.set_cons_succ, i64_w, i32_w]
  rfl
 refine take_ (i := 11) (N := some 63) (v := ?_) (a' := ?_) #[true, true, true, true, true, true, true, true, true, true, true, true, false, false] rfl rfl (take_ofW HT_.out HW_.out (by kernel_rfl)) (fun _ _ _ h => h) (Or.inl ⟨by rfl, ?_⟩) hHeld ?_ ?_
 rotate_left
 ·rintro w' ⟨s0, s1⟩
  go_simp
  with_reducible rfl
 rotate_left
 ·simp only [Act.put, List.setIfInBounds_toArray, List.set_cons_zero, List.set_cons_succ, i64_w, i32_w]
  rfl
 refine pure_ (i := 12) (N := some 64) (v := ?_) (a' := ?_) #[true, true, true, true, true, true, true, true, true, true, true, true, true, false] rfl rfl (any_of HT_.out (by kernel_rfl)) (fun _ _ _ h => h) (Or.inl ⟨by rfl, ?_⟩) ?_ ?_
 rotate_left
 ·intro w'
  go_simp
  with_reducible rfl
 rotate_left
 ·simp only [Act.put, List.setIfInBounds_toArray, List.set_cons_zero, List.set_cons_succ, i64_w, i32_w]
  rfl
 refine pure_ (i := 13) (N := some 16) (v := ?_) (a' := ?_) #[true, true, true, true, true, true, true, true, true, true, true, true, true, true] rfl rfl (any_of HT_.out (by kernel_rfl)) (fun _ _ _ h => h) (Or.inl ⟨by rfl, ?_⟩) ?_ ?_
 rotate_left
 ·intro w'
  go_simp
  with_reducible rfl
 rotate_left
 ·simp only [Act.put, List.setIfInBounds_toArray, List.set_cons_zero, List.set_cons_succ, i64_w, i32_w]
  rfl
 refine done_ (done_of HT_.out (by kernel_rfl)) ?_
 clear HT_
 rw [← HQE.out]
 go_wp2_with fail
 refine (HRT.out _).mono ?_
 rintro e W8 ⟨rfl, hb0⟩
 have hb := hb0
 replace HB := Lib.hid (below_step HB.out hb)
 replace HXn := Lib.hid (blk_below HXn.out hb)
 clear hb hb0
 go_wp2_with fail
 refine (HSX.out _).mono ?_
 rintro e W9 ⟨rfl, hb0⟩
 have hb := hb0
 replace HB := Lib.hid (below_step HB.out hb)
 replace HXn := Lib.hid (blk_below HXn.out hb)
 clear hb hb0
 go_wp2_with fail
 refine (HRT.out _).mono ?_
 rintro e W10 ⟨rfl, hb0⟩
 have hb := hb0
 replace HB := Lib.hid (below_step HB.out hb)
 replace HXn := Lib.hid (blk_below HXn.out hb)
 clear hb hb0
 go_wp2_with fail
 refine (HS7.out _).mono ?_
 rintro e W11 ⟨rfl, hb0⟩
 have hb := hb0
 replace HB := Lib.hid (below_step HB.out hb)
 replace HXn := Lib.hid (blk_below HXn.out hb)
 clear hb hb0
 go_wp2_with fail
 refine (HSG.out _).mono ?_
 rintro e W12 ⟨rfl, hb0⟩
 have hb := hb0
 replace HB := Lib.hid (below_step HB.out hb)
 replace HXn := Lib.hid (blk_below HXn.out hb)
 clear hb hb0
 go_wp2_with fail
 refine (HB1.out _ HB.out).mono ?_
 rintro e W13 ⟨rfl, hb0⟩
 have hb := hb0
 replace HB := Lib.hid (below_step HB.out hb)
 replace HXn := Lib.hid (blk_below HXn.out hb)
 clear hb hb0
 have HBB := Lib.hid HB.out.size
 go_wp2_with fail
 refine (HSY.out _).mono ?_
 rintro e W14 ⟨rfl, hb0⟩
 have hb := below_step (below_alloc (Below.refl _ _) _) hb0
 replace HB := Lib.hid (below_step HB.out hb)
 replace HXn := Lib.hid (blk_below HXn.out hb)
 have HXb := Lib.hid (blk_below (blk_new W13 (.cells #[.int .i64 (x : Int), .string sl, .string sg] 29)) hb0)
 clear hb hb0
 go_wp2_with fail
 refine (HB2.out _ HB.out).mono ?_
 rintro e W15 ⟨rfl, hb0⟩
 have hb := hb0
 replace HB := Lib.hid (below_step HB.out hb)
 replace HXn := Lib.hid (blk_below HXn.out hb)
 replace HXb := Lib.hid (blk_below HXb.out hb)
 clear hb hb0
 go_wp2_with fail
 have hb0 : Below (W15.alloc (.cells #[.int .i64 (x : Int), .string sl, .string sh] 29)).heap.size (W15.alloc (.cells #[.int .i64 (x : Int), .string sl, .string sh] 29)) (W15.alloc (.cells #[.int .i64 (x : Int), .string sl, .string sh] 29)).drew := below_drew (Below.refl _ _)
 have hb := below_step (below_alloc (Below.refl _ _) _) hb0
 replace HB := Lib.hid (below_step HB.out hb)
 replace HXn := Lib.hid (blk_below HXn.out hb)
 replace HXb := Lib.hid (blk_below HXb.out hb)
 have HXc := Lib.hid (blk_below (blk_new W15 (.cells #[.int .i64 (x : Int), .string sl, .string sh] 29)) hb0)
 clear hb hb0
 refine start_ (n := 10) (S := fun w' => w'.cell? ⟨W13.heap.size, 0, none⟩ = some (.int .i64 (x : Int)) ∧ w'.cell? ⟨W13.heap.size, 1, none⟩ = some (.string sl) ∧ w'.cell? ⟨W13.heap.size, 2, none⟩ = some (.string sg)) (ds := []) #[false, false, false, false, false, false, false, false, false, false] (by kernel_rfl) rfl rfl ⟨(cell_of_blk HXb.out rfl), (cell_of_blk HXb.out rfl), (cell_of_blk HXb.out rfl)⟩ (fun hHeld => ?_)
 refine with_tabW mv9.tab13 mv9.bits13 (fun HT_ HW_ => ?_)
 refine pure_ (i := 2) (N := some 99) (v := ?_) (a' := ?_) #[false, false, true, false, false, false, false, false, false, false] rfl rfl (any_of HT_.out (by kernel_rfl)) (fun _ _ _ h => h) (Or.inl ⟨by rfl, ?_⟩) ?_ ?_
 rotate_left
 ·intro w'
  go_simp
  with_reducible rfl
 rotate_left
 ·simp only [Act.put, List.setIfInBounds_toArray, List.set_cons_zero, List.set_cons_succ, i64_w, i32_w]
  rfl
 refine pure_ (i := 3) (N := some 100) (v := ?_) (a' := ?_) #[false, false, true, true, false, false, false, false, false, false] rfl rfl (any_of HT_.out (by kernel_rfl)) (fun _ _ _ h => h) (Or.inl ⟨by rfl, ?_⟩) ?_ ?_
 rotate_left
 ·intro w'
  go_simp
  with_reducible rfl
 rotate_left
 ·simp only [Act.put, List.setIfInBounds_toArray, List.set_cons_zero, List.set_cons_succ, i64_w, i32_w]
  rfl
 refine take_ (i := 0) (N := some 97) (v := ?_) (a' := ?_) #[true, false, true, true, false, false, false, false, false, false] rfl rfl (take_ofW HT_.out HW_.out (by kernel_rfl)) (fun _ _ _ h => h) (Or.inl ⟨by rfl, ?_⟩) hHeld ?_ ?_
 rotate_left
 ·rintro w' ⟨s0, s1, s2⟩
  go_simp
  with_reducible rfl
 rotate_left
 ·simp only [Act.put, List.setIfInBounds_toArray, List.set_cons_zero, List.set_cons_succ, i64_w, i32_w]
  rfl
 refine one_ (i := 1) (N := some 98) #[true, true, true, true, false, false, false, false, false, false] rfl rfl (one_of HT_.out (by kernel_rfl)) (by decide) (fun K hK => ?_)
 refine goes_ Tryd.func15 (by kernel_rfl) rfl #[.int .i64 7] (by rfl) rfl rfl (by simp only [List.map_toArray, List.map_cons, List.map_nil]; rfl) ?_
 refine (HV8.out _).mono ?_
 rintro e W16 ⟨vv, rfl, hr, hb0⟩
 refine ⟨_, rfl, ?_⟩
 have hb := hb0
 replace HB := Lib.hid (below_step HB.out hb)
 replace HXn := Lib.hid (blk_below HXn.out hb)
 replace HXb := Lib.hid (blk_below HXb.out hb)
 replace HXc := Lib.hid (blk_below HXc.out hb)
 clear hb hb0
 obtain ⟨Av, cv, rfl⟩ := Kd.R_slice hr
 have hcv := (Kd.R_reads' hr).2.1
 have HVv := Lib.hid (Kd.R_reads' hr).2.2
 clear hr
 refine hK.out _ _ ⟨(cell_of_blk HXb.out rfl), (cell_of_blk HXb.out rfl), (cell_of_blk HXb.out rfl)⟩ (fun hHeld => ?_)
 clear hK K
 refine norm_ (a' := ?_) ?_ ?_
 rotate_left
 ·show Act.put _ (some 98) _ = _
  simp only [Act.put, List.setIfInBounds_toArray, List.set_cons_zero, List.set_cons_succ, i64_w, i32_w]
  rfl
 refine one_ (i := 4) (N := some 101) #[true, true, true, true, true, false, false, false, false, false] rfl rfl (one_of HT_.out (by kernel_rfl)) (by decide) (fun K hK => ?_)
 refine goes_ Tryd.func14 (by kernel_rfl) rfl #[.agg #[.int .i64 (x : Int), .string sl, .string sg], .slice Av va.length cv, .string s7, .int .i64 7, .string qq] (by rfl) rfl rfl (by simp only [List.map_toArray, List.map_cons, List.map_nil]; rfl) ?_
 refine (HO1.out _ _ _ hcv HVv.out).mono ?_
 rintro e W17 ⟨rfl, hb0⟩
 refine ⟨_, rfl, ?_⟩
 have hb := hb0
 replace HB := Lib.hid (below_step HB.out hb)
 replace HXn := Lib.hid (blk_below HXn.out hb)
 replace HXb := Lib.hid (blk_below HXb.out hb)
 replace HXc := Lib.hid (blk_below HXc.out hb)
 replace HVv := Lib.hid (Kd.C_below HVv.out hb)
 clear hb hb0
 refine hK.out _ _ ⟨(cell_of_blk HXb.out rfl), (cell_of_blk HXb.out rfl), (cell_of_blk HXb.out rfl)⟩ (fun hHeld => ?_)
 clear hK K
 refine norm_ (a' := ?_) ?_ ?_
 rotate_left
 ·show Act.put _ (some 101) _ = _
  simp only [Act.put, List.setIfInBounds_toArray, List.set_cons_zero, List.set_cons_succ, i64_w, i32_w]
  rfl
 refine pure_ (i := 5) (N := some 96) (v := ?_) (a' := ?_) #[true, true, true, true, true, true, false, false, false, false] rfl rfl (any_of HT_.out (by kernel_rfl)) (fun _ _ _ h => h) (Or.inl ⟨by rfl, ?_⟩) ?_ ?_
 rotate_left
 ·intro w'
  go_simp
  with_reducible rfl
 rotate_left
 ·simp only [Act.put, List.setIfInBounds_toArray, List.set_cons_zero, List.set_cons_succ, i64_w, i32_w]
  rfl
 refine pure_ (i := 6) (N := some 102) (v := ?_) (a' := ?_) #[true, true, true, true, true, true, true, false, false, false] rfl rfl (any_of HT_.out (by kernel_rfl)) (fun _ _ _ h => h) (Or.inl ⟨by rfl, ?_⟩) ?_ ?_
 rotate_left
 ·intro w'
  go_simp
  with_reducible rfl
 rotate_left
 ·simp only [Act.put, List.setIfInBounds_toArray, List.set_cons_zero, List.set_cons_succ, i64_w, i32_w]
  rfl
 refine pure_ (i := 7) (N := some 103) (v := ?_) (a' := ?_) #[true, true, true, true, true, true, true, true, false, false] rfl rfl (any_of HT_.out (by kernel_rfl)) (fun _ _ _ h => h) (Or.inl ⟨by rfl, ?_⟩) ?_ ?_
 rotate_left
 ·intro w'
  go_simp
  with_reducible rfl
 rotate_left
 ·simp only [Act.put, List.setIfInBounds_toArray, List.set_cons_zero, List.set_cons_succ, i64_w, i32_w]
  rfl
 refine pure_ (i := 8) (N := some 25) (v := ?_) (a' := ?_) #[true, true, true, true, true, true, true, true, true, false] rfl rfl (any_of HT_.out (by kernel_rfl)) (fun _ _ _ h => h) (Or.inl ⟨by rfl, ?_⟩) ?_ ?_
 rotate_left
 ·intro w'
  go_simp
  with_reducible rfl
 rotate_left
 ·simp only [Act.put, List.setIfInBounds_toArray, List.set_cons_zero, List.set_cons_succ, i64_w, i32_w]
  rfl
 refine pure_ (i := 9) (N := some 26) (v := ?_) (a' := ?_) #[true, true, true, true, true, true, true, true, true, true] rfl rfl (any_of HT_.out (by kernel_rfl)) (fun _ _ _ h => h) (Or.inl ⟨by rfl, ?_⟩) ?_ ?_
 rotate_left
 ·intro w'
  go_simp
  with_reducible rfl
 rotate_left
 ·simp only [Act.put, List.setIfInBounds_toArray, List.set_cons_zero, List.set_cons_succ, i64_w, i32_w]
  rfl
 refine done_ (done_of HT_.out (by kernel_rfl)) ?_
 clear HT_
 go_wp2_with fail
 have hb0 : Below W17.heap.size W17 W17.drew := below_drew (Below.refl _ _)
 have hb := hb0
 replace HB := Lib.hid (below_step HB.out hb)
 replace HXn := Lib.hid (blk_below HXn.out hb)
 replace HXb := Lib.hid (blk_below HXb.out hb)
 replace HXc := Lib.hid (blk_below HXc.out hb)
 replace HVv := Lib.hid (Kd.C_below HVv.out hb)
 clear hb hb0
 refine start_ (n := 10) (S := fun w' => w'.cell? ⟨W15.heap.size, 0, none⟩ = some (.int .i64 (x : Int)) ∧ w'.cell? ⟨W15.heap.size, 1, none⟩ = some (.string sl) ∧ w'.cell? ⟨W15.heap.size, 2, none⟩ = some (.string sh)) (ds := []) #[false, false, false, false, false, false, false, false, false, false] (by kernel_rfl) rfl rfl ⟨(cell_of_blk HXc.out rfl), (cell_of_blk HXc.out rfl), (cell_of_blk HXc.out rfl)⟩ (fun hHeld => ?_)
 refine with_tabW mv9.tab14 mv9.bits14 (fun HT_ HW_ => ?_)
 refine pure_ (i := 2) (N := some 107) (v := ?_) (a' := ?_) #[false, false, true, false, false, false, false, false, false, false] rfl rfl (any_of HT_.out (by kernel_rfl)) (fun _ _ _ h => h) (Or.inl ⟨by rfl, ?_⟩) ?_ ?_
 rotate_left
 ·intro w'
  go_simp
  with_reducible rfl
 rotate_left
 ·simp only [Act.put, List.setIfInBounds_toArray, List.set_cons_zero, List.set_cons_succ, i64_w, i32_w]
  rfl
 refine pure_ (i := 3) (N := some 108) (v := ?_) (a' := ?_) #[false, false, true, true, false, false, false, false, false, false] rfl rfl (any_of HT_.out (by kernel_rfl)) (fun _ _ _ h => h) (Or.inl ⟨by rfl, ?_⟩) ?_ ?_
 rotate_left
 ·intro w'
  go_simp
  with_reducible rfl
 rotate_left
 ·simp only [Act.put, List.setIfInBounds_toArray, List.set_cons_zero, List.set_cons_succ, i64_w, i32_w]
  rfl
 refine take_ (i := 0) (N := some 105) (v := ?_) (a' := ?_) #[true, false, true, true, false, false, false, false, false, false] rfl rfl (take_ofW HT_.out HW_.out (by kernel_rfl)) (fun _ _ _ h => h) (Or.inl ⟨by rfl, ?_⟩) hHeld ?_ ?_
 rotate_left
 ·rintro w' ⟨s0, s1, s2⟩
  go_simp
  with_reducible rfl
 rotate_left
 ·simp only [Act.put, List.setIfInBounds_toArray, List.set_cons_zero, List.set_cons_succ, i64_w, i32_w]
  rfl
 refine one_ (i := 1) (N := some 106) #[true, true, true, true, false, false, false, false, false, false] rfl rfl (one_of HT_.out (by kernel_rfl)) (by decide) (fun K hK => ?_)
 refine goes_ Tryd.func15 (by kernel_rfl) rfl #[.int .i64 7] (by rfl) rfl rfl (by simp only [List.map_toArray, List.map_cons, List.map_nil]; rfl) ?_
 refine (HV8.out _).mono ?_
 rintro e W18 ⟨vv, rfl, hr, hb0⟩
 refine ⟨_, rfl, ?_⟩
 have hb := hb0
 replace HB := Lib.hid (below_step HB.out hb)
 replace HXn := Lib.hid (blk_below HXn.out hb)
 replace HXb := Lib.hid (blk_below HXb.out hb)
 replace HXc := Lib.hid (blk_below HXc.out hb)
 replace HVv := Lib.hid (Kd.C_below HVv.out hb)
 clear hb hb0
 obtain ⟨Ap, cp, rfl⟩ := Kd.R_slice hr
 have hcp := (Kd.R_reads' hr).2.1
 have HVp := Lib.hid (Kd.R_reads' hr).2.2
 clear hr
 refine hK.out _ _ ⟨(cell_of_blk HXc.out rfl), (cell_of_blk HXc.out rfl), (cell_of_blk HXc.out rfl)⟩ (fun hHeld => ?_)
 clear hK K
 refine norm_ (a' := ?_) ?_ ?_
 rotate_left
 ·show Act.put _ (some 106) _ = _
  simp only [Act.put, List.setIfInBounds_toArray, List.set_cons_zero, List.set_cons_succ, i64_w, i32_w]
  rfl
 refine one_ (i := 4) (N := some 109) #[true, true, true, true, true, false, false, false, false, false] rfl rfl (one_of HT_.out (by kernel_rfl)) (by decide) (fun K hK => ?_)
 refine goes_ Tryd.func14 (by kernel_rfl) rfl #[.agg #[.int .i64 (x : Int), .string sl, .string sh], .slice Ap va.length cp, .string s7, .int .i64 7, .string pp] (by rfl) rfl rfl (by simp only [List.map_toArray, List.map_cons, List.map_nil]; rfl) ?_
 refine (HO2.out _ _ _ hcp HVp.out).mono ?_
 rintro e W19 ⟨rfl, hb0⟩
 refine ⟨_, rfl, ?_⟩
 have hb := hb0
 replace HB := Lib.hid (below_step HB.out hb)
 replace HXn := Lib.hid (blk_below HXn.out hb)
 replace HXb := Lib.hid (blk_below HXb.out hb)
 replace HXc := Lib.hid (blk_below HXc.out hb)
 replace HVv := Lib.hid (Kd.C_below HVv.out hb)
 replace HVp := Lib.hid (Kd.C_below HVp.out hb)
 clear hb hb0
 refine hK.out _ _ ⟨(cell_of_blk HXc.out rfl), (cell_of_blk HXc.out rfl), (cell_of_blk HXc.out rfl)⟩ (fun hHeld => ?_)
 clear hK K
 refine norm_ (a' := ?_) ?_ ?_
 rotate_left
 ·show Act.put _ (some 109) _ = _
  simp only [Act.put, List.setIfInBounds_toArray, List.set_cons_zero, List.set_cons_succ, i64_w, i32_w]
  rfl
 refine pure_ (i := 5) (N := some 104) (v := ?_) (a' := ?_) #[true, true, true, true, true, true, false, false, false, false] rfl rfl (any_of HT_.out (by kernel_rfl)) (fun _ _ _ h => h) (Or.inl ⟨by rfl, ?_⟩) ?_ ?_
 rotate_left
 ·intro w'
  go_simp
  with_reducible rfl
 rotate_left
 ·simp only [Act.put, List.setIfInBounds_toArray, List.set_cons_zero, List.set_cons_succ, i64_w, i32_w]
  rfl
 refine pure_ (i := 6) (N := some 110) (v := ?_) (a' := ?_) #[true, true, true, true, true, true, true, false, false, false] rfl rfl (any_of HT_.out (by kernel_rfl)) (fun _ _ _ h => h) (Or.inl ⟨by rfl, ?_⟩) ?_ ?_
 rotate_left
 ·intro w'
  go_simp
  with_reducible rfl
 rotate_left
 ·simp only [Act.put, List.setIfInBounds_toArray, List.set_cons_zero, List.set_cons_succ, i64_w, i32_w]
  rfl
 refine pure_ (i := 7) (N := some 111) (v := ?_) (a' := ?_) #[true, true, true, true, true, true, true, true, false, false] rfl rfl (any_of HT_.out (by kernel_rfl)) (fun _ _ _ h => h) (Or.inl ⟨by rfl, ?_⟩) ?_ ?_
 rotate_left
 ·intro w'
  go_simp
  with_reducible rfl
 rotate_left
 ·simp only [Act.put, List.setIfInBounds_toArray, List.set_cons_zero, List.set_cons_succ, i64_w, i32_w]
  rfl
 refine pure_ (i := 8) (N := some 27) (v := ?_) (a' := ?_) #[true, true, true, true, true, true, true, true, true, false] rfl rfl (any_of HT_.out (by kernel_rfl)) (fun _ _ _ h => h) (Or.inl ⟨by rfl, ?_⟩) ?_ ?_
 rotate_left
 ·intro w'
  go_simp
  with_reducible rfl
 rotate_left
 ·simp only [Act.put, List.setIfInBounds_toArray, List.set_cons_zero, List.set_cons_succ, i64_w, i32_w]
  rfl
 refine pure_ (i := 9) (N := some 28) (v := ?_) (a' := ?_) #[true, true, true, true, true, true, true, true, true, true] rfl rfl (any_of HT_.out (by kernel_rfl)) (fun _ _ _ h => h) (Or.inl ⟨by rfl, ?_⟩) ?_ ?_
 rotate_left
 ·intro w'
  go_simp
  with_reducible rfl
 rotate_left
 ·simp only [Act.put, List.setIfInBounds_toArray, List.set_cons_zero, List.set_cons_succ, i64_w, i32_w]
  rfl
 refine done_ (done_of HT_.out (by kernel_rfl)) ?_
 clear HT_
 have xb0 := cell_of_blk (j := 0) (v := .int .i64 (x : Int)) HXb.out rfl
 have xb1 := cell_of_blk (j := 1) (v := .string sl) HXb.out rfl
 have xb2 := cell_of_blk (j := 2) (v := .string sg) HXb.out rfl
 have zb := free_of_blk (j := 0) HXb.out
 go_wp2_with fail
 clear xb0 xb1 xb2
 have hM := Moved.setCell (S := (· = W13.heap.size)) W19 (a := ⟨W13.heap.size, 0, none⟩) rfl (.int .i64 (y : Int))
 have hlb := HBB.out
 replace HB := Lib.hid (Moved.below HB.out hM HB.out.size (fun j hj => by subst hj; exact hlb))
 replace HXb := Lib.hid (blk_setCell (j := 0) (u := .int .i64 (y : Int)) HXb.out)
 clear hM hlb zb
 generalize W19.setCell ⟨W13.heap.size, 0, none⟩ (.int .i64 (y : Int)) = WS at HB HXb ⊢
 clear HXc HXn
 replace HXb : Hid (WS.heap[W13.heap.size]? = some (.cells #[.int .i64 (y : Int), .string sl, .string sg] 29 (0, 0))) := HXb
 go_wp2_with fail
 have hb0 : Below WS.heap.size WS WS.drew := below_drew (Below.refl _ _)
 have hb := hb0
 replace HB := Lib.hid (below_step HB.out hb)
 replace HXb := Lib.hid (blk_below HXb.out hb)
 clear hb hb0
 refine start_ (n := 10) (S := fun w' => w'.cell? ⟨W13.heap.size, 0, none⟩ = some (.int .i64 (y : Int)) ∧ w'.cell? ⟨W13.heap.size, 1, none⟩ = some (.string sl) ∧ w'.cell? ⟨W13.heap.size, 2, none⟩ = some (.string sg)) (ds := []) #[false, false, false, false, false, false, false, false, false, false] (by kernel_rfl) rfl rfl ⟨(cell_of_blk HXb.out rfl), (cell_of_blk HXb.out rfl), (cell_of_blk HXb.out rfl)⟩ (fun hHeld => ?_)
 refine with_tabW mv9.tab16 mv9.bits16 (fun HT_ HW_ => ?_)
 refine pure_ (i := 2) (N := some 117) (v := ?_) (a' := ?_) #[false, false, true, false, false, false, false, false, false, false] rfl rfl (any_of HT_.out (by kernel_rfl)) (fun _ _ _ h => h) (Or.inl ⟨by rfl, ?_⟩) ?_ ?_
 rotate_left
 ·intro w'
  go_simp
  with_reducible rfl
 rotate_left
 ·simp only [Act.put, List.setIfInBounds_toArray, List.set_cons_zero, List.set_cons_succ, i64_w, i32_w]
  rfl
 refine pure_ (i := 3) (N := some 118) (v := ?_) (a' := ?_) #[false, false, true, true, false, false, false, false, false, false] rfl rfl (any_of HT_.out (by kernel_rfl)) (fun _ _ _ h => h) (Or.inl ⟨by rfl, ?_⟩) ?_ ?_
 rotate_left
 ·intro w'
  go_simp
  with_reducible rfl
 rotate_left
 ·simp only [Act.put, List.setIfInBounds_toArray, List.set_cons_zero, List.set_cons_succ, i64_w, i32_w]
  rfl
 refine take_ (i := 0) (N := some 115) (v := ?_) (a' := ?_) #[true, false, true, true, false, false, false, false, false, false] rfl rfl (take_ofW HT_.out HW_.out (by kernel_rfl)) (fun _ _ _ h => h) (Or.inl ⟨by rfl, ?_⟩) hHeld ?_ ?_
 rotate_left
 ·rintro w' ⟨s0, s1, s2⟩
  go_simp
  with_reducible rfl
 rotate_left
 ·simp only [Act.put, List.setIfInBounds_toArray, List.set_cons_zero, List.set_cons_succ, i64_w, i32_w]
  rfl
 refine one_ (i := 1) (N := some 116) #[true, true, true, true, false, false, false, false, false, false] rfl rfl (one_of HT_.out (by kernel_rfl)) (by decide) (fun K hK => ?_)
 refine goes_ Tryd.func15 (by kernel_rfl) rfl #[.int .i64 7] (by rfl) rfl rfl (by simp only [List.map_toArray, List.map_cons, List.map_nil]; rfl) ?_
 refine (HV8.out _).mono ?_
 rintro e W20 ⟨vv, rfl, hr, hb0⟩
 refine ⟨_, rfl, ?_⟩
 have hb := hb0
 replace HB := Lib.hid (below_step HB.out hb)
 replace HXb := Lib.hid (blk_below HXb.out hb)
 clear hb hb0
 obtain ⟨Aq, cq, rfl⟩ := Kd.R_slice hr
 have hcq := (Kd.R_reads' hr).2.1
 have HVq := Lib.hid (Kd.R_reads' hr).2.2
 clear hr
 refine hK.out _ _ ⟨(cell_of_blk HXb.out rfl), (cell_of_blk HXb.out rfl), (cell_of_blk HXb.out rfl)⟩ (fun hHeld => ?_)
 clear hK K
 refine norm_ (a' := ?_) ?_ ?_
 rotate_left
 ·show Act.put _ (some 116) _ = _
  simp only [Act.put, List.setIfInBounds_toArray, List.set_cons_zero, List.set_cons_succ, i64_w, i32_w]
  rfl
 refine one_ (i := 4) (N := some 119) #[true, true, true, true, true, false, false, false, false, false] rfl rfl (one_of HT_.out (by kernel_rfl)) (by decide) (fun K hK => ?_)
 refine goes_ Tryd.func14 (by kernel_rfl) rfl #[.agg #[.int .i64 (y : Int), .string sl, .string sg], .slice Aq va.length cq, .string s7, .int .i64 7, .string pp] (by rfl) rfl rfl (by simp only [List.map_toArray, List.map_cons, List.map_nil]; rfl) ?_
 refine (HO3.out _ _ _ hcq HVq.out).mono ?_
 rintro e W21 ⟨rfl, hb0⟩
 refine ⟨_, rfl, ?_⟩
 have hb := hb0
 replace HB := Lib.hid (below_step HB.out hb)
 replace HXb := Lib.hid (blk_below HXb.out hb)
 replace HVq := Lib.hid (Kd.C_below HVq.out hb)
 clear hb hb0
 refine hK.out _ _ ⟨(cell_of_blk HXb.out rfl), (cell_of_blk HXb.out rfl), (cell_of_blk HXb.out rfl)⟩ (fun hHeld => ?_)
 clear hK K
 refine norm_ (a' := ?_) ?_ ?_
 rotate_left
 ·show Act.put _ (some 119) _ = _
  simp only [Act.put, List.setIfInBounds_toArray, List.set_cons_zero, List.set_cons_succ, i64_w, i32_w]
  rfl
 refine pure_ (i := 5) (N := some 114) (v := ?_) (a' := ?_) #[true, true, true, true, true, true, false, false, false, false] rfl rfl (any_of HT_.out (by kernel_rfl)) (fun _ _ _ h => h) (Or.inl ⟨by rfl, ?_⟩) ?_ ?_
 rotate_left
 ·intro w'
  go_simp
  with_reducible rfl
 rotate_left
 ·simp only [Act.put, List.setIfInBounds_toArray, List.set_cons_zero, List.set_cons_succ, i64_w, i32_w]
  rfl
 refine pure_ (i := 6) (N := some 120) (v := ?_) (a' := ?_) #[true, true, true, true, true, true, true, false, false, false] rfl rfl (any_of HT_.out (by kernel_rfl)) (fun _ _ _ h => h) (Or.inl ⟨by rfl, ?_⟩) ?_ ?_
 rotate_left
 ·intro w'
  go_simp
  with_reducible rfl
 rotate_left
 ·simp only [Act.put, List.setIfInBounds_toArray, List.set_cons_zero, List.set_cons_succ, i64_w, i32_w]
  rfl
 refine pure_ (i := 7) (N := some 121) (v := ?_) (a' := ?_) #[true, true, true, true, true, true, true, true, false, false] rfl rfl (any_of HT_.out (by kernel_rfl)) (fun _ _ _ h => h) (Or.inl ⟨by rfl, ?_⟩) ?_ ?_
 rotate_left
 ·intro w'
  go_simp
  with_reducible rfl
 rotate_left
 ·simp only [Act.put, List.setIfInBounds_toArray, List.set_cons_zero, List.set_cons_succ, i64_w, i32_w]
  rfl
 refine pure_ (i := 8) (N := some 29) (v := ?_) (a' := ?_) #[true, true, true, true, true, true, true, true, true, false] rfl rfl (any_of HT_.out (by kernel_rfl)) (fun _ _ _ h => h) (Or.inl ⟨by rfl, ?_⟩) ?_ ?_
 rotate_left
 ·intro w'
  go_simp
  with_reducible rfl
 rotate_left
 ·simp only [Act.put, List.setIfInBounds_toArray, List.set_cons_zero, List.set_cons_succ, i64_w, i32_w]
  rfl
 refine pure_ (i := 9) (N := some 30) (v := ?_) (a' := ?_) #[true, true, true, true, true, true, true, true, true, true] rfl rfl (any_of HT_.out (by kernel_rfl)) (fun _ _ _ h => h) (Or.inl ⟨by rfl, ?_⟩) ?_ ?_
 rotate_left
 ·intro w'
  go_simp
  with_reducible rfl
 rotate_left
 ·simp only [Act.put, List.setIfInBounds_toArray, List.set_cons_zero, List.set_cons_succ, i64_w, i32_w]
  rfl
 refine done_ (done_of HT_.out (by kernel_rfl)) ?_
 clear HT_
 by_cases hp : pp = qq
 ·skip
  have k1 : (R1.2 != 0) = false := by rw [← H1.out, if_pos hp]; rfl
  have r1 : (R1.2 == 0) = true := by rw [← H1.out, if_pos hp]; rfl
  have r2 : (pp.toList == qq.toList) = true := by rw [beq_iff_eq]; exact (toL _ _).2 hp
  by_cases hxy : x = y
  ·skip
   have k2 : R2.2 = 0 := by rw [← H2.out, if_pos hxy]
   have m1 : (R2.2 == 0) = true := by rw [k2]; rfl
   have m2 : (R2.2 == 7) = false := by rw [k2]; rfl
   have m3 : ((x : Int) == (y : Int)) = true := by rw [hxy]; simp
   clear k2
   go_wp2
   go_ret
   exact ⟨rfl, HB.out⟩
  ·skip
   have k2 : R2.2 = 7 := by rw [← H2.out, if_neg hxy]
   have m1 : (R2.2 == 0) = false := by rw [k2]; rfl
   have m2 : (R2.2 == 7) = true := by rw [k2]; rfl
   have m3 : ((x : Int) == (y : Int)) = false := by rw [beq_eq_false_iff_ne]; omega
   clear k2
   go_wp2
   go_ret
   exact ⟨rfl, HB.out⟩
 ·skip
  have k1 : (R1.2 != 0) = true := by rw [← H1.out, if_neg hp]; rfl
  have k3 : (R1.2 != 7) = false := by rw [← H1.out, if_neg hp]; rfl
  have k4 : (R1.1.toList == []) = true := by rw [← H1.out, if_neg hp, bytes_toList]; rfl
  have r1 : (R1.2 == 0) = false := by rw [← H1.out, if_neg hp]; rfl
  have r2 : (pp.toList == qq.toList) = false := by rw [beq_eq_false_iff_ne]; exact fun h => hp ((toL _ _).1 h)
  by_cases hxy : x = y
  ·skip
   have k2 : R2.2 = 0 := by rw [← H2.out, if_pos hxy]
   have m1 : (R2.2 == 0) = true := by rw [k2]; rfl
   have m2 : (R2.2 == 7) = false := by rw [k2]; rfl
   have m3 : ((x : Int) == (y : Int)) = true := by rw [hxy]; simp
   clear k2
   go_wp2
   go_ret
   exact ⟨rfl, HB.out⟩
  ·skip
   have k2 : R2.2 = 7 := by rw [← H2.out, if_neg hxy]
   have m1 : (R2.2 == 0) = false := by rw [k2]; rfl
   have m2 : (R2.2 == 7) = true := by rw [k2]; rfl
   have m3 : ((x : Int) == (y : Int)) = false := by rw [beq_eq_false_iff_ne]; omega
   clear k2
   go_wp2
   go_ret
   exact ⟨rfl, HB.out⟩
end Go.Proofs.YtphehoidkmficaaDoor
end
