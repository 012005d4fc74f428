/- Contracts and laws that the statement of LawDataBack leans on (packed from this claim's own texts): part 13. -/
import Derived.Test.YtphehoidkmficaaDoorQB12
section

namespace Go.Proofs.YtphehoidkmficaaDoor
open Go.RowKit Go.Proofs.YtphehoidkmficaaDoorW.PrintWords Go.Proofs.YtphehoidkmficaaDoorW.PrintLast Go.Proofs.YtphehoidkmficaaDoor.Ref
set_option linter.unusedVariables false
set_option linter.unusedSimpArgs false
theorem open_early {i e e' r j m y : Nat} (hi : i < 1000) (he : e ≤ 7) (he' : e' ≤ 7) (hy : y ≤ 7) (hr : r < 1000) (hj : j ≤ 7) (hm : m ≤ 7) {pa ct : Bs} {pa' : ByteArray} (hp : pa.length ≤ 300) (hc : ct.length ≤ 64)
  {vs : List ByteArray} (hv : vs.length = y + 1) (h : ¬ e' ≤ y) :
  openBl ⟨(e' : Int), tm (sealT r j pa ct), tm (sigT i e r j pa ct)⟩ vs (tm (hT m (rT r))) (y : Int) pa' = (⟨#[]⟩, 7) := by
 unfold openBl openOk epochB
 rw [rightBl_tm hi e' he' (by omega) hr hj hp hc, right_state hr (by omega), hv, if_pos (by simp; omega), if_pos (by simp only; omega)]
def note : ByteArray := ⟨#[97, 110, 110, 97, 47, 110, 111, 116, 101]⟩
theorem note_ne : notes ≠ note := fun h => absurd (congrArg ByteArray.size h) (by decide)
theorem i64_of {n : Int} (hn : (Lit.int .i64 n).wf = true) : I64 n := by simpa [Lit.wf, IntKind.min, IntKind.max, IntKind.bits, IntKind.signed] using hn
theorem addr_add (ad : Addr) (m : Nat) : (ad.add 1).add m = ad.add (1 + m) := by
 unfold Addr.add
 repeat' split
 all_goals first | (exfalso; omega) | (simp only [Addr.mk.injEq, true_and, and_true]; omega) | (congr 1; omega) | skip
theorem C_drop {w : World} {ad : Addr} {l : List ByteArray} (h : Kd.C Kd.string w (some ad) l.length l) : Kd.C Kd.string w (some (ad.add 1)) (l.drop 1).length (l.drop 1) := by
 obtain ⟨_, h2, h3⟩ := h
 refine ⟨rfl, by simp only [List.length_drop]; omega, fun hp => ⟨_, rfl, fun j p hj => ?_⟩⟩
 simp only [List.length_drop] at hp
 obtain ⟨ad', e, hc⟩ := h3 (by omega)
 obtain rfl := Option.some.inj e
 rw [List.getElem?_drop] at hj
 obtain ⟨c, hl, hk, hcell⟩ := hc (1 + j) p hj
 refine ⟨c, hl, hk, fun i u hi => ?_⟩
 have := hcell i u hi
 rw [addr_add, show 1 + (j * Kd.string.sz + i) = (1 + j) * Kd.string.sz + i from by show 1 + (j * 1 + i) = (1 + j) * 1 + i; omega]
 exact this
theorem cat_size (s : ByteArray) (l : List ByteArray) (h : s.size ≤ 1000000) : (catT (s :: l)).size ≤ 9 + s.size + (catT l).size := by
 have := size_numB (n := s.size) (by omega)
 rw [catT_cons, ByteArray.size_append, ByteArray.size_append]; omega
theorem put_size {b : Bl} (h : rightBl b = true) : (putBl b).1.size ≤ 1000000 := by
 obtain ⟨h1, h2, h3⟩ := rightBl_inv h
 have h4 := right_kind h2 (by decide)
 have h5 := right_kind h3 (by decide)
 have h6 := size_numB (n := b.e.toNat) (by omega)
 have h7 := size_numB (n := 3) (by omega)
 have c1 := cat_size (numB b.e.toNat) [b.s, b.g] (by omega)
 have c2 := cat_size b.s [b.g] (by omega)
 have c3 := cat_size b.g [] (by omega)
 have c4 : (catT []).size = 0 := by rw [catT_nil]; rfl
 unfold putBl
 rw [if_pos h]
 simp only [allB]
 rw [ByteArray.size_append]
 change (numB 3).size + _ ≤ _
 omega
def bk9.T13 : Bool × List (List Nat × List Nat) := (true, [([], []), ([], []), ([1], [1]), ([], []), ([], []), ([0, 2, 3, 4, 2], [0, 2, 3, 4]), ([5], [5]), ([6], [6]), ([6], [6]), ([7, 5, 0, 1, 2, 3, 4, 5, 6, 7], [7]), ([8, 9, 0, 1, 2, 3, 4, 5, 6, 7, 8, 9], [8])])
def bk9.B13 : List Nat := [0, 0, 2, 0, 0, 31, 63, 127, 127, 255, 1023]
theorem bk9.tab13 : rtab .any (opsOf Tryd.f6 13) = bk9.T13 := by kernel_rfl
theorem bk9.bits13 : waitsOk bk9.T13.2 bk9.B13 = true := by kernel_rfl
def bk9.T18 : Bool × List (List Nat × List Nat) := (true, [([], []), ([], []), ([1], [1]), ([], []), ([], []), ([0, 2, 3, 4, 2], [0, 2, 3, 4]), ([5], [5]), ([6], [6]), ([6], [6]), ([7, 5, 0, 1, 2, 3, 4, 5, 6, 7], [7]), ([8, 9, 0, 1, 2, 3, 4, 5, 6, 7, 8, 9], [8])])
def bk9.B18 : List Nat := [0, 0, 2, 0, 0, 31, 63, 127, 127, 255, 1023]
theorem bk9.tab18 : rtab .any (opsOf Tryd.f6 18) = bk9.T18 := by kernel_rfl
theorem bk9.bits18 : waitsOk bk9.T18.2 bk9.B18 = true := by kernel_rfl
def bk9.T19 : Bool × List (List Nat × List Nat) := (true, [([], []), ([], []), ([1], [1]), ([2], [2]), ([3], [3]), ([], []), ([], []), ([0, 4, 5, 6, 3], [0, 4, 5, 6]), ([7], [7]), ([8], [8]), ([8], [8]), ([9, 7, 0, 1, 2, 3, 4, 5, 6, 7, 8, 9], [9]), ([10, 11, 0, 1, 2, 3, 4, 5, 6, 7, 8, 9, 10, 11], [10])])
def bk9.B19 : List Nat := [0, 0, 2, 6, 14, 0, 0, 127, 255, 511, 511, 1023, 4095]
theorem bk9.tab19 : rtab .any (opsOf Tryd.f6 19) = bk9.T19 := by kernel_rfl
theorem bk9.bits19 : waitsOk bk9.T19.2 bk9.B19 = true := by kernel_rfl
def bk9.T20 : Bool × List (List Nat × List Nat) := (true, [([], []), ([], []), ([1], [1]), ([], []), ([], []), ([0, 2, 3, 4, 2], [0, 2, 3, 4]), ([5], [5]), ([6], [6]), ([6], [6]), ([7, 5, 0, 1, 2, 3, 4, 5, 6, 7], [7]), ([8, 9, 0, 1, 2, 3, 4, 5, 6, 7, 8, 9], [8])])
def bk9.B20 : List Nat := [0, 0, 2, 0, 0, 31, 63, 127, 127, 255, 1023]
theorem bk9.tab20 : rtab .any (opsOf Tryd.f6 20) = bk9.T20 := by kernel_rfl
theorem bk9.bits20 : waitsOk bk9.T20.2 bk9.B20 = true := by kernel_rfl
set_option maxRecDepth 100000 in
set_option maxHeartbeats 8000000 in
theorem back9_any (root a b : Int) (ct : ByteArray) (w : World) (HTB : Aside0 (Tabs w)) (h0 : (Lit.int .i64 root).wf = true) (h1 : (Lit.int .i64 a).wf = true) (h2 : (Lit.int .i64 b).wf = true) (h3 : ct.size ≤ 140737488351232) :
  Calls Tryd.prog 6 #[.int .i64 root, .int .i64 a, .int .i64 b, .string ct] w fun e w' => e = .returned (.bool true) ∧ Below w.heap.size w w' := by
 have HSH := Lib.hid (fun (W : World) (hb : Below w.heap.size w W) => shown9_call W ⟨HTB.out.below hb⟩)
 have hr := pick_lt root (n := 5) (by omega)
 have hx := pick_lt a (n := 8) (by omega)
 have hy := pick_lt b (n := 8) (by omega)
 have HPA := Lib.hid (fun W => pick_call a 8 (by omega) (by omega) (i64_of h1) W)
 have HPB := Lib.hid (fun W => pick_call b 8 (by omega) (by omega) (i64_of h2) W)
 have HRT := Lib.hid (root_call root (i64_of h0))
 generalize pickN root 5 = r at *
 generalize pickN a 8 = x at *
 generalize pickN b 8 = y at *
 have HSX := Lib.hid (fun W => state_call (r := r) (e := x) (by omega) (by omega) W)
 have HSY := Lib.hid (fun W => state_call (r := r) (e := y) (by omega) (by omega) W)
 have HSG := Lib.hid (fun W => signer_call (i := x) (by omega) W)
 have hsz := st_small (r := r) (j := 7 - x) (by omega) (by omega)
 have hsy := st_small (r := r) (j := 7 - y) (by omega) (by omega)
 have hgz := sg_small (i := x) (by omega)
 have HB := Lib.hid (Below.refl w.heap.size w)
 go_enter Tryd.func6, Tryd.ntmps6
 go_wp2_with fail
 refine (HSH.out _ HB.out).mono ?_
 rintro e W1 ⟨rfl, hb0⟩
 have hb := hb0
 replace HB := Lib.hid (below_step HB.out hb)
 clear hb hb0
 by_cases q200 : ct.size ≤ 200
 rotate_left
 ·have t0 : decide (200 < (ct.size : Int)) = true := decide_eq_true (by omega)
  go_wp2
  go_ret
  exact ⟨rfl, HB.out⟩
 have t0 : decide (200 < (ct.size : Int)) = false := decide_eq_false (by omega)
 go_wp2_with fail
 refine (HPA.out _).mono ?_
 rintro e W2 ⟨rfl, hb0⟩
 have hb := hb0
 replace HB := Lib.hid (below_step HB.out hb)
 clear hb hb0
 go_wp2_with fail
 refine (HPB.out _).mono ?_
 rintro e W3 ⟨rfl, hb0⟩
 have hb := hb0
 replace HB := Lib.hid (below_step HB.out hb)
 clear hb hb0
 go_wp2_with fail
 refine (HRT.out _).mono ?_
 rintro e W4 ⟨rfl, hb0⟩
 have hb := hb0
 replace HB := Lib.hid (below_step HB.out hb)
 clear hb hb0
 go_wp2_with fail
 refine (HSX.out _).mono ?_
 rintro e W5 ⟨rfl, hb0⟩
 have hb := hb0
 replace HB := Lib.hid (below_step HB.out hb)
 clear hb hb0
 go_wp2_with fail
 refine (HRT.out _).mono ?_
 rintro e W6 ⟨rfl, hb0⟩
 have hb := hb0
 replace HB := Lib.hid (below_step HB.out hb)
 clear hb hb0
 go_wp2_with fail
 refine (HSY.out _).mono ?_
 rintro e W7 ⟨rfl, hb0⟩
 have hb := hb0
 replace HB := Lib.hid (below_step HB.out hb)
 clear hb hb0
 go_wp2_with fail
 refine (HSG.out _).mono ?_
 rintro e W8 ⟨rfl, hb0⟩
 have hb := hb0
 replace HB := Lib.hid (below_step HB.out hb)
 clear hb hb0
 by_cases q64 : ct.size ≤ 64
 rotate_left
 ·skip
  have t1 : decide (64 < (ct.size : Int)) = true := decide_eq_true (by omega)
  have HBD := Lib.hid (bl_at hsz hgz (show notes.size ≤ 1000000 by decide) HTB (build_long (i := x) (e := x) (r := r) (j := 7 - x) (pa := notes) (ct := ct) (by omega) (by omega) (by omega) (by omega) split_notes q64))
  have hrn := rightBl_call noBl (by decide) (by decide)
  rw [show rightBl noBl = false from by decide +kernel] at hrn
  have HRN : Hid (∀ W : World, Calls Tryd.prog 17 #[.agg #[.int .i64 0, .string ⟨#[]⟩, .string ⟨#[]⟩]] W fun e w' => e = .returned (.bool false) ∧ Below W.heap.size W w') := Lib.hid hrn
  clear hrn
  go_wp2_with fail
  refine (HBD.out _ HB.out).mono ?_
  rintro e W9 ⟨rfl, hb0⟩
  have hb := hb0
  replace HB := Lib.hid (below_step HB.out hb)
  clear hb hb0
  go_wp2_with fail
  refine (HRN.out _).mono ?_
  rintro e W10 ⟨rfl, hb0⟩
  have hb := below_step (below_alloc (Below.refl _ _) _) hb0
  replace HB := Lib.hid (below_step HB.out hb)
  have HXd := Lib.hid (blk_below (blk_new W9 (.cells #[.int .i64 0, .string ⟨#[]⟩, .string ⟨#[]⟩] 29)) hb0)
  clear hb hb0
  go_wp2
  go_ret
  exact ⟨rfl, HB.out⟩
 have t1 : decide (64 < (ct.size : Int)) = false := decide_eq_false (by omega)
 have HBD := Lib.hid (bl_at hsz hgz (show notes.size ≤ 1000000 by decide) HTB (build_tm (i := x) (e := x) (r := r) (j := 7 - x) (pa := notes) (ct := ct) (by omega) (by omega) (by omega) (by omega) split_notes q64))
 have hcl : (bytes ct).length ≤ 64 := by rw [bytes_length]; exact q64
 have hnl : (bytes notes).length ≤ 300 := by decide
 have hrb := rightBl_tm (i := x) (e := x) (r := r) (j := 7 - x) (pa := bytes notes) (ct := bytes ct) (by omega) x (by omega) (by omega) (by omega) (by omega) hnl hcl
 obtain ⟨z1, z2⟩ := bl_small (i := x) (e := x) (r := r) (j := 7 - x) (pa := bytes notes) (ct := bytes ct) (by omega) (by omega) (by omega) (by omega) hnl hcl
 obtain ⟨hp1, hp2⟩ := take_put_bl hrb
 have hps : (putBl ⟨(x : Int), tm (sealT r (7 - x) (bytes notes) (bytes ct)), tm (sigT x x r (7 - x) (bytes notes) (bytes ct))⟩).1.size ≤ 1000000 := put_size hrb
 have hPT := putBl_call ⟨(x : Int), tm (sealT r (7 - x) (bytes notes) (bytes ct)), tm (sigT x x r (7 - x) (bytes notes) (bytes ct))⟩ z1 z2
 have hTK := takeBl_call _ hps
 rw [hp1] at hTK
 rw [hp2] at hPT
 have ho1 := open_tm (i := x) (e := x) (e' := x) (i' := x) (r := r) (j := 7 - x) (m := 7 - y) (y := y) (pa := bytes notes) (ct := bytes ct) (pa' := notes) (vs := pubs (y + 1)) (by omega) (by omega) (by omega) (by omega) (by omega) (by omega) (by omega) (by omega) hnl hcl (pubs_len _)
 have ho2 := open_tm (i := x) (e := x) (e' := x) (i' := x) (r := r) (j := 7 - x) (m := 7 - y) (y := y) (pa := bytes notes) (ct := bytes ct) (pa' := note) (vs := pubs (y + 1)) (by omega) (by omega) (by omega) (by omega) (by omega) (by omega) (by omega) (by omega) hnl hcl (pubs_len _)
 have ho3 := open_tm (i := x) (e := x) (e' := x) (i' := x + 1) (r := r) (j := 7 - x) (m := 7 - y) (y := y) (pa := bytes notes) (ct := bytes ct) (pa' := notes) (vs := (pubs (y + 2)).drop 1) (by omega) (by omega) (by omega) (by omega) (by omega) (by omega) (by omega) (by omega) hnl hcl (by rw [List.length_drop, pubs_len]; omega)
 have ho4 := open_tm (i := x) (e := x) (e' := x) (i' := x) (r := r) (j := 7 - x) (m := 7 - x) (y := y) (pa := bytes notes) (ct := bytes ct) (pa' := notes) (vs := pubs (y + 1)) (by omega) (by omega) (by omega) (by omega) (by omega) (by omega) (by omega) (by omega) hnl hcl (pubs_len _)
 rw [ofBytes_bytes, ofBytes_bytes] at ho1 ho2 ho3 ho4
 have hoe := fun h => open_early (i := x) (e := x) (e' := x) (r := r) (j := 7 - x) (m := 7 - y) (y := y) (pa := bytes notes) (ct := bytes ct) (pa' := notes) (vs := pubs (y + 1)) (by omega) (by omega) (by omega) (by omega) (by omega) (by omega) (by omega) hnl hcl (pubs_len _) h
 have hv1 := pubs_small (y + 1) (by omega)
 have hv2 : ∀ v ∈ (pubs (y + 2)).drop 1, v.size ≤ 1000000 := fun v hv => pubs_small (y + 2) (by omega) v (List.mem_of_mem_drop hv)
 have hl1 := pubs_len (y + 1)
 have hl2 := pubs_len (y + 2)
 have hd2 : ((pubs (y + 2)).drop 1).length = y + 1 := by rw [List.length_drop, hl2]; omega
 have hm1 : (pubs (y + 1)).length ≤ 1000000 := by rw [hl1]; omega
 have hm2 : ((pubs (y + 2)).drop 1).length ≤ 1000000 := by rw [hd2]; omega
 have HVY := Lib.hid (fun W => verifyOf_call (n := (y : Int)) (by omega) (by omega) (m := y + 1) (by omega) W)
 have hw1 : wrap64 ((y : Int) + 1) = (y : Int) + 1 := w64 (by omega) (by omega)
 have HVZ := Lib.hid (fun W => verifyOf_call (n := wrap64 ((y : Int) + 1)) (by rw [hw1]; clear hw1; omega) (by rw [hw1]; clear hw1; omega) (m := y + 2) (by rw [hw1]; clear hw1; omega) W)
 clear hw1
 have hget : x ≤ y → (pubs (y + 1)).getD x ⟨#[]⟩ = tm (.one .u (sT x)) := fun h => pubs_getD (by omega)
 have hget2 : x ≤ y → ((pubs (y + 2)).drop 1).getD x ⟨#[]⟩ = tm (.one .u (sT (x + 1))) := fun h => by
  rw [List.getD_eq_getElem?_getD, List.getElem?_drop, ← List.getD_eq_getElem?_getD, show 1 + x = x + 1 from by omega]
  exact pubs_getD (by omega)
 have HTK := Lib.hid hTK
 have HPT := Lib.hid hPT
 unfold blT at HBD
 simp only at HBD HTK HPT
 generalize (putBl ⟨(x : Int), tm (sealT r (7 - x) (bytes notes) (bytes ct)), tm (sigT x x r (7 - x) (bytes notes) (bytes ct))⟩).1 = pb at *
 generalize tm (sealT r (7 - x) (bytes notes) (bytes ct)) = sl at *
 generalize tm (sigT x x r (7 - x) (bytes notes) (bytes ct)) = sg at *
 generalize tm (hT (7 - x) (rT r)) = sx at *
 generalize tm (hT (7 - y) (rT r)) = sy at *
 generalize tm (sT x) = s2 at *
 generalize tm (rT r) = rt at *
 clear hrb hp1 hp2 hps hPT hTK hcl hnl
 go_wp2_with fail
 refine (HBD.out _ HB.out).mono ?_
 rintro e W9 ⟨rfl, hb0⟩
 have hb := hb0
 replace HB := Lib.hid (below_step HB.out hb)
 clear hb hb0
 go_wp2_with fail
 refine (HPT.out _).mono ?_
 rintro e W10 ⟨rfl, hb0⟩
 have hb := below_step (below_alloc (Below.refl _ _) _) hb0
 replace HB := Lib.hid (below_step HB.out hb)
 have HXd := Lib.hid (blk_below (blk_new W9 (.cells #[.int .i64 (x : Int), .string sl, .string sg] 29)) hb0)
 clear hb hb0
 go_wp2_with fail
 refine (HTK.out _).mono ?_
 rintro e W11 ⟨rfl, hb0⟩
 have hb := hb0
 replace HB := Lib.hid (below_step HB.out hb)
 replace HXd := Lib.hid (blk_below HXd.out hb)
 clear hb hb0
 have i1 : (sl.toList == sl.toList) = true := by simp
 have i2 : (sg.toList == sg.toList) = true := by simp
 have i3 : ((x : Int) == (x : Int)) = true := by simp
 by_cases hxy : x ≤ y
 rotate_left
 ·skip
  have t2 : decide ((y : Int) < (x : Int)) = true := decide_eq_true (by omega)
  have n2 : y < x := by omega
  have HO1 := Lib.hid (op_at (hoe hxy) z1 z2 hsy hv1 hm1)
  clear ho1 ho2 ho3 ho4 hget hget2 hoe
  generalize pubs (y + 1) = va at *
  go_wp2_with fail
  have hb0 : Below (W11.alloc (.cells #[.int .i64 (x : Int), .string sl, .string sg] 29)).heap.size (W11.alloc (.cells #[.int .i64 (x : Int), .string sl, .string sg] 29)) (W11.alloc (.cells #[.int .i64 (x : Int), .string sl, .string sg] 29)).drew := below_drew (Below.refl _ _)
  have hb := below_step (below_alloc (Below.refl _ _) _) hb0
  replace HB := Lib.hid (below_step HB.out hb)
  replace HXd := Lib.hid (blk_below HXd.out hb)
  have HXu := Lib.hid (blk_below (blk_new W11 (.cells #[.int .i64 (x : Int), .string sl, .string sg] 29)) hb0)
  clear hb hb0
  refine start_ (n := 11) (S := fun w' => w'.cell? ⟨W11.heap.size, 0, none⟩ = some (.int .i64 (x : Int)) ∧ w'.cell? ⟨W11.heap.size, 1, none⟩ = some (.string sl) ∧ w'.cell? ⟨W11.heap.size, 2, none⟩ = some (.string sg)) (ds := []) #[false, false, false, false, false, false, false, false, false, false, false] (by kernel_rfl) rfl rfl ⟨(cell_of_blk HXu.out rfl), (cell_of_blk HXu.out rfl), (cell_of_blk HXu.out rfl)⟩ (fun hHeld => ?_)
  refine with_tabW bk9.tab13 bk9.bits13 (fun HT_ HW_ => ?_)
  refine pure_ (i := 1) (N := some 88) (v := ?_) (a' := ?_) #[false, true, false, false, false, false, false, false, false, false, false] rfl rfl (any_of HT_.out (by kernel_rfl)) (fun _ _ _ h => h) (Or.inl ⟨by rfl, ?_⟩) ?_ ?_
  rotate_left
  ·intro w'
   go_simp
   with_reducible rfl
  rotate_left
  ·simp only [Act.put, List.setIfInBounds_toArray, List.set_cons_zero, List.set_cons_succ, i64_w, i32_w]
   rfl
  refine pure_ (i := 3) (N := some 90) (v := ?_) (a' := ?_) #[false, true, false, true, false, false, false, false, false, false, false] rfl rfl (any_of HT_.out (by kernel_rfl)) (fun _ _ _ h => h) (Or.inl ⟨by rfl, ?_⟩) ?_ ?_
  rotate_left
  ·intro w'
   go_simp
   with_reducible rfl
  rotate_left
  ·simp only [Act.put, List.setIfInBounds_toArray, List.set_cons_zero, List.set_cons_succ, i64_w, i32_w]
   rfl
  refine pure_ (i := 4) (N := some 91) (v := ?_) (a' := ?_) #[false, true, false, true, true, false, false, false, false, false, false] rfl rfl (any_of HT_.out (by kernel_rfl)) (fun _ _ _ h => h) (Or.inl ⟨by rfl, ?_⟩) ?_ ?_
  rotate_left
  ·intro w'
   go_simp
   with_reducible rfl
  rotate_left
  ·simp only [Act.put, List.setIfInBounds_toArray, List.set_cons_zero, List.set_cons_succ, i64_w, i32_w]
   rfl
  refine take_ (i := 0) (N := some 87) (v := ?_) (a' := ?_) #[true, true, false, true, true, false, false, false, false, false, false] rfl rfl (take_ofW HT_.out HW_.out (by kernel_rfl)) (fun _ _ _ h => h) (Or.inl ⟨by rfl, ?_⟩) hHeld ?_ ?_
  rotate_left
  ·rintro w' ⟨s0, s1, s2⟩
   go_simp
   with_reducible rfl
  rotate_left
  ·simp only [Act.put, List.setIfInBounds_toArray, List.set_cons_zero, List.set_cons_succ, i64_w, i32_w]
   rfl
  refine one_ (i := 2) (N := some 89) #[true, true, true, true, true, false, false, false, false, false, false] rfl rfl (one_of HT_.out (by kernel_rfl)) (by decide) (fun K hK => ?_)
  refine goes_ Tryd.func15 (by kernel_rfl) rfl #[.int .i64 (y : Int)] (by rfl) rfl rfl (by simp only [List.map_toArray, List.map_cons, List.map_nil]; rfl) ?_
  refine (HVY.out _).mono ?_
  rintro e W12 ⟨vv, rfl, hr, hb0⟩
  refine ⟨_, rfl, ?_⟩
  have hb := hb0
  replace HB := Lib.hid (below_step HB.out hb)
  replace HXd := Lib.hid (blk_below HXd.out hb)
  replace HXu := Lib.hid (blk_below HXu.out hb)
  clear hb hb0
  obtain ⟨Av, cv, rfl⟩ := Kd.R_slice hr
  have hcv := (Kd.R_reads' hr).2.1
  have HVv := Lib.hid (Kd.R_reads' hr).2.2
  clear hr
  refine hK.out _ _ ⟨(cell_of_blk HXu.out rfl), (cell_of_blk HXu.out rfl), (cell_of_blk HXu.out rfl)⟩ (fun hHeld => ?_)
  clear hK K
  refine norm_ (a' := ?_) ?_ ?_
  rotate_left
  ·show Act.put _ (some 89) _ = _
   simp only [Act.put, List.setIfInBounds_toArray, List.set_cons_zero, List.set_cons_succ, i64_w, i32_w]
   rfl
  refine one_ (i := 5) (N := some 92) #[true, true, true, true, true, true, false, false, false, false, false] rfl rfl (one_of HT_.out (by kernel_rfl)) (by decide) (fun K hK => ?_)
  refine goes_ Tryd.func14 (by kernel_rfl) rfl #[.agg #[.int .i64 (x : Int), .string sl, .string sg], .slice Av va.length cv, .string sy, .int .i64 (y : Int), .string ⟨#[97, 110, 110, 97, 47, 110, 111, 116, 101, 115]⟩] (by rfl) rfl rfl (by simp only [List.map_toArray, List.map_cons, List.map_nil]; rfl) ?_
  refine (HO1.out _ _ _ hcv HVv.out).mono ?_
  rintro e W13 ⟨rfl, hb0⟩
  refine ⟨_, rfl, ?_⟩
  have hb := hb0
  replace HB := Lib.hid (below_step HB.out hb)
  replace HXd := Lib.hid (blk_below HXd.out hb)
  replace HXu := Lib.hid (blk_below HXu.out hb)
  replace HVv := Lib.hid (Kd.C_below HVv.out hb)
  clear hb hb0
  refine hK.out _ _ ⟨(cell_of_blk HXu.out rfl), (cell_of_blk HXu.out rfl), (cell_of_blk HXu.out rfl)⟩ (fun hHeld => ?_)
  clear hK K
  refine norm_ (a' := ?_) ?_ ?_
  rotate_left
  ·show Act.put _ (some 92) _ = _
   simp only [Act.put, List.setIfInBounds_toArray, List.set_cons_zero, List.set_cons_succ, i64_w, i32_w]
   rfl
  refine pure_ (i := 6) (N := some 86) (v := ?_) (a' := ?_) #[true, true, true, true, true, true, true, false, false, false, false] rfl rfl (any_of HT_.out (by kernel_rfl)) (fun _ _ _ h => h) (Or.inl ⟨by rfl, ?_⟩) ?_ ?_
  rotate_left
  ·intro w'
   go_simp
   with_reducible rfl
  rotate_left
  ·simp only [Act.put, List.setIfInBounds_toArray, List.set_cons_zero, List.set_cons_succ, i64_w, i32_w]
   rfl
  refine pure_ (i := 7) (N := some 93) (v := ?_) (a' := ?_) #[true, true, true, true, true, true, true, true, false, false, false] rfl rfl (any_of HT_.out (by kernel_rfl)) (fun _ _ _ h => h) (Or.inl ⟨by rfl, ?_⟩) ?_ ?_
  rotate_left
  ·intro w'
   go_simp
   with_reducible rfl
  rotate_left
  ·simp only [Act.put, List.setIfInBounds_toArray, List.set_cons_zero, List.set_cons_succ, i64_w, i32_w]
   rfl
  refine pure_ (i := 8) (N := some 94) (v := ?_) (a' := ?_) #[true, true, true, true, true, true, true, true, true, false, false] rfl rfl (any_of HT_.out (by kernel_rfl)) (fun _ _ _ h => h) (Or.inl ⟨by rfl, ?_⟩) ?_ ?_
  rotate_left
  ·intro w'
   go_simp
   with_reducible rfl
  rotate_left
  ·simp only [Act.put, List.setIfInBounds_toArray, List.set_cons_zero, List.set_cons_succ, i64_w, i32_w]
   rfl
  refine pure_ (i := 9) (N := some 22) (v := ?_) (a' := ?_) #[true, true, true, true, true, true, true, true, true, true, false] rfl rfl (any_of HT_.out (by kernel_rfl)) (fun _ _ _ h => h) (Or.inl ⟨by rfl, ?_⟩) ?_ ?_
  rotate_left
  ·intro w'
   go_simp
   with_reducible rfl
  rotate_left
  ·simp only [Act.put, List.setIfInBounds_toArray, List.set_cons_zero, List.set_cons_succ, i64_w, i32_w]
   rfl
  refine pure_ (i := 10) (N := some 23) (v := ?_) (a' := ?_) #[true, true, true, true, true, true, true, true, true, true, true] rfl rfl (any_of HT_.out (by kernel_rfl)) (fun _ _ _ h => h) (Or.inl ⟨by rfl, ?_⟩) ?_ ?_
  rotate_left
  ·intro w'
   go_simp
   with_reducible rfl
  rotate_left
  ·simp only [Act.put, List.setIfInBounds_toArray, List.set_cons_zero, List.set_cons_succ, i64_w, i32_w]
   rfl
  refine done_ (done_of HT_.out (by kernel_rfl)) ?_
  clear HT_
  have xd0 := cell_of_blk (j := 0) (v := .int .i64 (x : Int)) HXd.out rfl
  have xd1 := cell_of_blk (j := 1) (v := .string sl) HXd.out rfl
  have xd2 := cell_of_blk (j := 2) (v := .string sg) HXd.out rfl
  have xu0 := cell_of_blk (j := 0) (v := .int .i64 (x : Int)) HXu.out rfl
  have xu1 := cell_of_blk (j := 1) (v := .string sl) HXu.out rfl
  have xu2 := cell_of_blk (j := 2) (v := .string sg) HXu.out rfl
  go_wp2
  go_ret
  exact ⟨rfl, HB.out⟩
 have t2 : decide ((y : Int) < (x : Int)) = false := decide_eq_false (by omega)
 have n2 : ¬ y < x := by omega
 have g1 := ho1 (hget hxy)
 have g2 := ho2 (hget hxy)
 have g3 := ho3 (hget2 hxy)
 have g4 : openBl ⟨(x : Int), sl, sg⟩ (pubs (y + 1)) sx (y : Int) notes = if x = y then (ct, 0) else (⟨#[]⟩, 7) := by
  rw [ho4 (hget hxy)]
  by_cases h : x = y
  ·rw [if_pos (by refine ⟨hxy, ?_, ?_, by omega, ?_⟩ <;> trivial), if_pos h]
  ·rw [if_neg (fun hh => h (by omega)), if_neg h]
 obtain ⟨R4, hR4⟩ : ∃ R : ByteArray × Int, (if x = y then (ct, (0 : Int)) else (⟨#[]⟩, 7)) = R := ⟨_, rfl⟩
 rw [hR4] at g4
 have hk4 : R4.2 = if x = y then 0 else 7 := by
  rw [← hR4]
  by_cases h : x = y
  ·rw [if_pos h, if_pos h]
  ·rw [if_neg h, if_neg h]
 rw [if_pos (by refine ⟨hxy, ?_, ?_, by omega, ?_⟩ <;> trivial)] at g1
 rw [if_neg (fun h => note_ne h.2.2.2.2)] at g2
 rw [if_neg (fun h => absurd h.2.2.1 (by omega))] at g3
 have HO1 := Lib.hid (op_at g1 z1 z2 hsy hv1 hm1)
 have HO2 := Lib.hid (op_at g2 z1 z2 hsy hv1 hm1)
 have HO3 := Lib.hid (op_at g3 z1 z2 hsy hv2 hm2)
 have HO4 := Lib.hid (op_at g4 z1 z2 hsz hv1 hm1)
 rw [List.length_drop] at HO3
 clear hR4
 clear ho1 ho2 ho3 ho4 hget hget2 hoe g1 g2 g3 g4
 generalize pubs (y + 1) = va at *
 generalize pubs (y + 2) = vb at *
 have HK4 := Lib.hid hk4
 have HL2 := Lib.hid hl2
 clear hk4 hm1 hm2 z1 z2 hsy hsz hgz hv1 hv2 hl1 hl2 hd2 q200 q64 t0 t1 hxy hr hx hy h0 h1 h2 h3 HPA HPB HRT HSX HSY HSG HSH HBD HPT HTK
 go_wp2_with fail
 have hb0 : Below (W11.alloc (.cells #[.int .i64 (x : Int), .string sl, .string sg] 29)).heap.size (W11.alloc (.cells #[.int .i64 (x : Int), .string sl, .string sg] 29)) (W11.alloc (.cells #[.int .i64 (x : Int), .string sl, .string sg] 29)).drew := below_drew (Below.refl _ _)
 have hb := below_step (below_alloc (Below.refl _ _) _) hb0
 replace HB := Lib.hid (below_step HB.out hb)
 replace HXd := Lib.hid (blk_below HXd.out hb)
 have HXu := Lib.hid (blk_below (blk_new W11 (.cells #[.int .i64 (x : Int), .string sl, .string sg] 29)) hb0)
 clear hb hb0
 refine start_ (n := 11) (S := fun w' => w'.cell? ⟨W11.heap.size, 0, none⟩ = some (.int .i64 (x : Int)) ∧ w'.cell? ⟨W11.heap.size, 1, none⟩ = some (.string sl) ∧ w'.cell? ⟨W11.heap.size, 2, none⟩ = some (.string sg)) (ds := []) #[false, false, false, false, false, false, false, false, false, false, false] (by kernel_rfl) rfl rfl ⟨(cell_of_blk HXu.out rfl), (cell_of_blk HXu.out rfl), (cell_of_blk HXu.out rfl)⟩ (fun hHeld => ?_)
 refine with_tabW bk9.tab13 bk9.bits13 (fun HT_ HW_ => ?_)
 refine pure_ (i := 1) (N := some 88) (v := ?_) (a' := ?_) #[false, true, false, false, false, false, false, false, false, false, false] rfl rfl (any_of HT_.out (by kernel_rfl)) (fun _ _ _ h => h) (Or.inl ⟨by rfl, ?_⟩) ?_ ?_
 rotate_left
 ·intro w'
  go_simp
  with_reducible rfl
 rotate_left
 ·simp only [Act.put, List.setIfInBounds_toArray, List.set_cons_zero, List.set_cons_succ, i64_w, i32_w]
  rfl
 refine pure_ (i := 3) (N := some 90) (v := ?_) (a' := ?_) #[false, true, false, true, false, false, false, false, false, false, false] rfl rfl (any_of HT_.out (by kernel_rfl)) (fun _ _ _ h => h) (Or.inl ⟨by rfl, ?_⟩) ?_ ?_
 rotate_left
 ·intro w'
  go_simp
  with_reducible rfl
 rotate_left
 ·simp only [Act.put, List.setIfInBounds_toArray, List.set_cons_zero, List.set_cons_succ, i64_w, i32_w]
  rfl
 refine pure_ (i := 4) (N := some 91) (v := ?_) (a' := ?_) #[false, true, false, true, true, false, false, false, false, false, false] rfl rfl (any_of HT_.out (by kernel_rfl)) (fun _ _ _ h => h) (Or.inl ⟨by rfl, ?_⟩) ?_ ?_
 rotate_left
 ·intro w'
  go_simp
  with_reducible rfl
 rotate_left
 ·simp only [Act.put, List.setIfInBounds_toArray, List.set_cons_zero, List.set_cons_succ, i64_w, i32_w]
  rfl
 refine take_ (i := 0) (N := some 87) (v := ?_) (a' := ?_) #[true, true, false, true, true, false, false, false, false, false, false] rfl rfl (take_ofW HT_.out HW_.out (by kernel_rfl)) (fun _ _ _ h => h) (Or.inl ⟨by rfl, ?_⟩) hHeld ?_ ?_
 rotate_left
 ·rintro w' ⟨s0, s1, s2⟩
  go_simp
  with_reducible rfl
 rotate_left
 ·simp only [Act.put, List.setIfInBounds_toArray, List.set_cons_zero, List.set_cons_succ, i64_w, i32_w]
  rfl
 refine one_ (i := 2) (N := some 89) #[true, true, true, true, true, false, false, false, false, false, false] rfl rfl (one_of HT_.out (by kernel_rfl)) (by decide) (fun K hK => ?_)
 refine goes_ Tryd.func15 (by kernel_rfl) rfl #[.int .i64 (y : Int)] (by rfl) rfl rfl (by simp only [List.map_toArray, List.map_cons, List.map_nil]; rfl) ?_
 refine (HVY.out _).mono ?_
 rintro e W12 ⟨vv, rfl, hr, hb0⟩
 refine ⟨_, rfl, ?_⟩
 have hb := hb0
 replace HB := Lib.hid (below_step HB.out hb)
 replace HXd := Lib.hid (blk_below HXd.out hb)
 replace HXu := Lib.hid (blk_below HXu.out hb)
 clear hb hb0
 obtain ⟨Av, cv, rfl⟩ := Kd.R_slice hr
 have hcv := (Kd.R_reads' hr).2.1
 have HVv := Lib.hid (Kd.R_reads' hr).2.2
 clear hr
 refine hK.out _ _ ⟨(cell_of_blk HXu.out rfl), (cell_of_blk HXu.out rfl), (cell_of_blk HXu.out rfl)⟩ (fun hHeld => ?_)
 clear hK K
 refine norm_ (a' := ?_) ?_ ?_
 rotate_left
 ·show Act.put _ (some 89) _ = _
  simp only [Act.put, List.setIfInBounds_toArray, List.set_cons_zero, List.set_cons_succ, i64_w, i32_w]
  rfl
 refine one_ (i := 5) (N := some 92) #[true, true, true, true, true, true, false, false, false, false, false] rfl rfl (one_of HT_.out (by kernel_rfl)) (by decide) (fun K hK => ?_)
 refine goes_ Tryd.func14 (by kernel_rfl) rfl #[.agg #[.int .i64 (x : Int), .string sl, .string sg], .slice Av va.length cv, .string sy, .int .i64 (y : Int), .string ⟨#[97, 110, 110, 97, 47, 110, 111, 116, 101, 115]⟩] (by rfl) rfl rfl (by simp only [List.map_toArray, List.map_cons, List.map_nil]; rfl) ?_
 refine (HO1.out _ _ _ hcv HVv.out).mono ?_
 rintro e W13 ⟨rfl, hb0⟩
 refine ⟨_, rfl, ?_⟩
 have hb := hb0
 replace HB := Lib.hid (below_step HB.out hb)
 replace HXd := Lib.hid (blk_below HXd.out hb)
 replace HXu := Lib.hid (blk_below HXu.out hb)
 replace HVv := Lib.hid (Kd.C_below HVv.out hb)
 clear hb hb0
 refine hK.out _ _ ⟨(cell_of_blk HXu.out rfl), (cell_of_blk HXu.out rfl), (cell_of_blk HXu.out rfl)⟩ (fun hHeld => ?_)
 clear hK K
 refine norm_ (a' := ?_) ?_ ?_
 rotate_left
 ·show Act.put _ (some 92) _ = _
  simp only [Act.put, List.setIfInBounds_toArray, List.set_cons_zero, List.set_cons_succ, i64_w, i32_w]
  rfl
 refine pure_ (i := 6) (N := some 86) (v := ?_) (a' := ?_) #[true, true, true, true, true, true, true, false, false, false, false] rfl rfl (any_of HT_.out (by kernel_rfl)) (fun _ _ _ h => h) (Or.inl ⟨by rfl, ?_⟩) ?_ ?_
 rotate_left
 ·intro w'
  go_simp
  with_reducible rfl
 rotate_left
 ·simp only [Act.put, List.setIfInBounds_toArray, List.set_cons_zero, List.set_cons_succ, i64_w, i32_w]
  rfl
 refine pure_ (i := 7) (N := some 93) (v := ?_) (a' := ?_) #[true, true, true, true, true, true, true, true, false, false, false] rfl rfl (any_of HT_.out (by kernel_rfl)) (fun _ _ _ h => h) (Or.inl ⟨by rfl, ?_⟩) ?_ ?_
 rotate_left
 ·intro w'
  go_simp
  with_reducible rfl
 rotate_left
 ·simp only [Act.put, List.setIfInBounds_toArray, List.set_cons_zero, List.set_cons_succ, i64_w, i32_w]
  rfl
 refine pure_ (i := 8) (N := some 94) (v := ?_) (a' := ?_) #[true, true, true, true, true, true, true, true, true, false, false] rfl rfl (any_of HT_.out (by kernel_rfl)) (fun _ _ _ h => h) (Or.inl ⟨by rfl, ?_⟩) ?_ ?_
 rotate_left
 ·intro w'
  go_simp
  with_reducible rfl
 rotate_left
 ·simp only [Act.put, List.setIfInBounds_toArray, List.set_cons_zero, List.set_cons_succ, i64_w, i32_w]
  rfl
 refine pure_ (i := 9) (N := some 22) (v := ?_) (a' := ?_) #[true, true, true, true, true, true, true, true, true, true, false] rfl rfl (any_of HT_.out (by kernel_rfl)) (fun _ _ _ h => h) (Or.inl ⟨by rfl, ?_⟩) ?_ ?_
 rotate_left
 ·intro w'
  go_simp
  with_reducible rfl
 rotate_left
 ·simp only [Act.put, List.setIfInBounds_toArray, List.set_cons_zero, List.set_cons_succ, i64_w, i32_w]
  rfl
 refine pure_ (i := 10) (N := some 23) (v := ?_) (a' := ?_) #[true, true, true, true, true, true, true, true, true, true, true] rfl rfl (any_of HT_.out (by kernel_rfl)) (fun _ _ _ h => h) (Or.inl ⟨by rfl, ?_⟩) ?_ ?_
 rotate_left
 ·intro w'
  go_simp
  with_reducible rfl
 rotate_left
 ·simp only [Act.put, List.setIfInBounds_toArray, List.set_cons_zero, List.set_cons_succ, i64_w, i32_w]
  rfl
 refine done_ (done_of HT_.out (by kernel_rfl)) ?_
 clear HT_
 have xd0 := cell_of_blk (j := 0) (v := .int .i64 (x : Int)) HXd.out rfl
 have xd1 := cell_of_blk (j := 1) (v := .string sl) HXd.out rfl
 have xd2 := cell_of_blk (j := 2) (v := .string sg) HXd.out rfl
 have xu0 := cell_of_blk (j := 0) (v := .int .i64 (x : Int)) HXu.out rfl
 have xu1 := cell_of_blk (j := 1) (v := .string sl) HXu.out rfl
 have xu2 := cell_of_blk (j := 2) (v := .string sg) HXu.out rfl
 go_wp2_with fail
 have hb0 : Below W13.heap.size W13 W13.drew := below_drew (Below.refl _ _)
 have hb := hb0
 replace HB := Lib.hid (below_step HB.out hb)
 replace HXd := Lib.hid (blk_below HXd.out hb)
 replace HXu := Lib.hid (blk_below HXu.out hb)
 replace HVv := Lib.hid (Kd.C_below HVv.out hb)
 clear hb hb0
 refine start_ (n := 11) (S := fun w' => w'.cell? ⟨W11.heap.size, 0, none⟩ = some (.int .i64 (x : Int)) ∧ w'.cell? ⟨W11.heap.size, 1, none⟩ = some (.string sl) ∧ w'.cell? ⟨W11.heap.size, 2, none⟩ = some (.string sg)) (ds := []) #[false, false, false, false, false, false, false, false, false, false, false] (by kernel_rfl) rfl rfl ⟨(cell_of_blk HXu.out rfl), (cell_of_blk HXu.out rfl), (cell_of_blk HXu.out rfl)⟩ (fun hHeld => ?_)
 refine with_tabW bk9.tab18 bk9.bits18 (fun HT_ HW_ => ?_)
 refine pure_ (i := 1) (N := some 127) (v := ?_) (a' := ?_) #[false, true, false, false, false, false, false, false, false, false, false] rfl rfl (any_of HT_.out (by kernel_rfl)) (fun _ _ _ h => h) (Or.inl ⟨by rfl, ?_⟩) ?_ ?_
 rotate_left
 ·intro w'
  go_simp
  with_reducible rfl
 rotate_left
 ·simp only [Act.put, List.setIfInBounds_toArray, List.set_cons_zero, List.set_cons_succ, i64_w, i32_w]
  rfl
 refine pure_ (i := 3) (N := some 129) (v := ?_) (a' := ?_) #[false, true, false, true, false, false, false, false, false, false, false] rfl rfl (any_of HT_.out (by kernel_rfl)) (fun _ _ _ h => h) (Or.inl ⟨by rfl, ?_⟩) ?_ ?_
 rotate_left
 ·intro w'
  go_simp
  with_reducible rfl
 rotate_left
 ·simp only [Act.put, List.setIfInBounds_toArray, List.set_cons_zero, List.set_cons_succ, i64_w, i32_w]
  rfl
 refine pure_ (i := 4) (N := some 130) (v := ?_) (a' := ?_) #[false, true, false, true, true, false, false, false, false, false, false] rfl rfl (any_of HT_.out (by kernel_rfl)) (fun _ _ _ h => h) (Or.inl ⟨by rfl, ?_⟩) ?_ ?_
 rotate_left
 ·intro w'
  go_simp
  with_reducible rfl
 rotate_left
 ·simp only [Act.put, List.setIfInBounds_toArray, List.set_cons_zero, List.set_cons_succ, i64_w, i32_w]
  rfl
 refine take_ (i := 0) (N := some 126) (v := ?_) (a' := ?_) #[true, true, false, true, true, false, false, false, false, false, false] rfl rfl (take_ofW HT_.out HW_.out (by kernel_rfl)) (fun _ _ _ h => h) (Or.inl ⟨by rfl, ?_⟩) hHeld ?_ ?_
 rotate_left
 ·rintro w' ⟨s0, s1, s2⟩
  go_simp
  with_reducible rfl
 rotate_left
 ·simp only [Act.put, List.setIfInBounds_toArray, List.set_cons_zero, List.set_cons_succ, i64_w, i32_w]
  rfl
 refine one_ (i := 2) (N := some 128) #[true, true, true, true, true, false, false, false, false, false, false] rfl rfl (one_of HT_.out (by kernel_rfl)) (by decide) (fun K hK => ?_)
 refine goes_ Tryd.func15 (by kernel_rfl) rfl #[.int .i64 (y : Int)] (by rfl) rfl rfl (by simp only [List.map_toArray, List.map_cons, List.map_nil]; rfl) ?_
 refine (HVY.out _).mono ?_
 rintro e W14 ⟨vv, rfl, hr, hb0⟩
 refine ⟨_, rfl, ?_⟩
 have hb := hb0
 replace HB := Lib.hid (below_step HB.out hb)
 replace HXd := Lib.hid (blk_below HXd.out hb)
 replace HXu := Lib.hid (blk_below HXu.out hb)
 replace HVv := Lib.hid (Kd.C_below HVv.out hb)
 clear hb hb0
 obtain ⟨Ap, cp, rfl⟩ := Kd.R_slice hr
 have hcp := (Kd.R_reads' hr).2.1
 have HVp := Lib.hid (Kd.R_reads' hr).2.2
 clear hr
 refine hK.out _ _ ⟨(cell_of_blk HXu.out rfl), (cell_of_blk HXu.out rfl), (cell_of_blk HXu.out rfl)⟩ (fun hHeld => ?_)
 clear hK K
 refine norm_ (a' := ?_) ?_ ?_
 rotate_left
 ·show Act.put _ (some 128) _ = _
  simp only [Act.put, List.setIfInBounds_toArray, List.set_cons_zero, List.set_cons_succ, i64_w, i32_w]
  rfl
 refine one_ (i := 5) (N := some 131) #[true, true, true, true, true, true, false, false, false, false, false] rfl rfl (one_of HT_.out (by kernel_rfl)) (by decide) (fun K hK => ?_)
 refine goes_ Tryd.func14 (by kernel_rfl) rfl #[.agg #[.int .i64 (x : Int), .string sl, .string sg], .slice Ap va.length cp, .string sy, .int .i64 (y : Int), .string ⟨#[97, 110, 110, 97, 47, 110, 111, 116, 101]⟩] (by rfl) rfl rfl (by simp only [List.map_toArray, List.map_cons, List.map_nil]; rfl) ?_
 refine (HO2.out _ _ _ hcp HVp.out).mono ?_
 rintro e W15 ⟨rfl, hb0⟩
 refine ⟨_, rfl, ?_⟩
 have hb := hb0
 replace HB := Lib.hid (below_step HB.out hb)
 replace HXd := Lib.hid (blk_below HXd.out hb)
 replace HXu := Lib.hid (blk_below HXu.out hb)
 replace HVv := Lib.hid (Kd.C_below HVv.out hb)
 replace HVp := Lib.hid (Kd.C_below HVp.out hb)
 clear hb hb0
 refine hK.out _ _ ⟨(cell_of_blk HXu.out rfl), (cell_of_blk HXu.out rfl), (cell_of_blk HXu.out rfl)⟩ (fun hHeld => ?_)
 clear hK K
 refine norm_ (a' := ?_) ?_ ?_
 rotate_left
 ·show Act.put _ (some 131) _ = _
  simp only [Act.put, List.setIfInBounds_toArray, List.set_cons_zero, List.set_cons_succ, i64_w, i32_w]
  rfl
 refine pure_ (i := 6) (N := some 125) (v := ?_) (a' := ?_) #[true, true, true, true, true, true, true, false, false, false, false] rfl rfl (any_of HT_.out (by kernel_rfl)) (fun _ _ _ h => h) (Or.inl ⟨by rfl, ?_⟩) ?_ ?_
 rotate_left
 ·intro w'
  go_simp
  with_reducible rfl
 rotate_left
 ·simp only [Act.put, List.setIfInBounds_toArray, List.set_cons_zero, List.set_cons_succ, i64_w, i32_w]
  rfl
 refine pure_ (i := 7) (N := some 132) (v := ?_) (a' := ?_) #[true, true, true, true, true, true, true, true, false, false, false] rfl rfl (any_of HT_.out (by kernel_rfl)) (fun _ _ _ h => h) (Or.inl ⟨by rfl, ?_⟩) ?_ ?_
 rotate_left
 ·intro w'
  go_simp
  with_reducible rfl
 rotate_left
 ·simp only [Act.put, List.setIfInBounds_toArray, List.set_cons_zero, List.set_cons_succ, i64_w, i32_w]
  rfl
 refine pure_ (i := 8) (N := some 133) (v := ?_) (a' := ?_) #[true, true, true, true, true, true, true, true, true, false, false] rfl rfl (any_of HT_.out (by kernel_rfl)) (fun _ _ _ h => h) (Or.inl ⟨by rfl, ?_⟩) ?_ ?_
 rotate_left
 ·intro w'
  go_simp
  with_reducible rfl
 rotate_left
 ·simp only [Act.put, List.setIfInBounds_toArray, List.set_cons_zero, List.set_cons_succ, i64_w, i32_w]
  rfl
 refine pure_ (i := 9) (N := some 24) (v := ?_) (a' := ?_) #[true, true, true, true, true, true, true, true, true, true, false] rfl rfl (any_of HT_.out (by kernel_rfl)) (fun _ _ _ h => h) (Or.inl ⟨by rfl, ?_⟩) ?_ ?_
 rotate_left
 ·intro w'
  go_simp
  with_reducible rfl
 rotate_left
 ·simp only [Act.put, List.setIfInBounds_toArray, List.set_cons_zero, List.set_cons_succ, i64_w, i32_w]
  rfl
 refine pure_ (i := 10) (N := some 25) (v := ?_) (a' := ?_) #[true, true, true, true, true, true, true, true, true, true, true] rfl rfl (any_of HT_.out (by kernel_rfl)) (fun _ _ _ h => h) (Or.inl ⟨by rfl, ?_⟩) ?_ ?_
 rotate_left
 ·intro w'
  go_simp
  with_reducible rfl
 rotate_left
 ·simp only [Act.put, List.setIfInBounds_toArray, List.set_cons_zero, List.set_cons_succ, i64_w, i32_w]
  rfl
 refine done_ (done_of HT_.out (by kernel_rfl)) ?_
 clear HT_
 go_wp2_with fail
 have hb0 : Below W15.heap.size W15 W15.drew := below_drew (Below.refl _ _)
 have hb := hb0
 replace HB := Lib.hid (below_step HB.out hb)
 replace HXd := Lib.hid (blk_below HXd.out hb)
 replace HXu := Lib.hid (blk_below HXu.out hb)
 replace HVv := Lib.hid (Kd.C_below HVv.out hb)
 replace HVp := Lib.hid (Kd.C_below HVp.out hb)
 clear hb hb0
 refine start_ (n := 13) (S := fun w' => w'.cell? ⟨W11.heap.size, 0, none⟩ = some (.int .i64 (x : Int)) ∧ w'.cell? ⟨W11.heap.size, 1, none⟩ = some (.string sl) ∧ w'.cell? ⟨W11.heap.size, 2, none⟩ = some (.string sg)) (ds := []) #[false, false, false, false, false, false, false, false, false, false, false, false, false] (by kernel_rfl) rfl rfl ⟨(cell_of_blk HXu.out rfl), (cell_of_blk HXu.out rfl), (cell_of_blk HXu.out rfl)⟩ (fun hHeld => ?_)
 refine with_tabW bk9.tab19 bk9.bits19 (fun HT_ HW_ => ?_)
 refine pure_ (i := 1) (N := some 136) (v := ?_) (a' := ?_) #[false, true, false, false, false, false, false, false, false, false, false, false, false] rfl rfl (any_of HT_.out (by kernel_rfl)) (fun _ _ _ h => h) (Or.inl ⟨by rfl, ?_⟩) ?_ ?_
 rotate_left
 ·intro w'
  go_simp
  with_reducible rfl
 rotate_left
 ·simp only [Act.put, List.setIfInBounds_toArray, List.set_cons_zero, List.set_cons_succ, i64_w, i32_w]
  rfl
 refine pure_ (i := 2) (N := some 137) (v := ?_) (a' := ?_) #[false, true, true, false, false, false, false, false, false, false, false, false, false] rfl rfl (any_of HT_.out (by kernel_rfl)) (fun _ _ _ h => h) (Or.inl ⟨by rfl, ?_⟩) ?_ ?_
 rotate_left
 ·intro w'
  go_simp
  with_reducible rfl
 rotate_left
 ·simp only [Act.put, List.setIfInBounds_toArray, List.set_cons_zero, List.set_cons_succ, i64_w, i32_w]
  rfl
 refine pure_ (i := 5) (N := some 140) (v := ?_) (a' := ?_) #[false, true, true, false, false, true, false, false, false, false, false, false, false] rfl rfl (any_of HT_.out (by kernel_rfl)) (fun _ _ _ h => h) (Or.inl ⟨by rfl, ?_⟩) ?_ ?_
 rotate_left
 ·intro w'
  go_simp
  with_reducible rfl
 rotate_left
 ·simp only [Act.put, List.setIfInBounds_toArray, List.set_cons_zero, List.set_cons_succ, i64_w, i32_w]
  rfl
 refine pure_ (i := 6) (N := some 141) (v := ?_) (a' := ?_) #[false, true, true, false, false, true, true, false, false, false, false, false, false] rfl rfl (any_of HT_.out (by kernel_rfl)) (fun _ _ _ h => h) (Or.inl ⟨by rfl, ?_⟩) ?_ ?_
 rotate_left
 ·intro w'
  go_simp
  with_reducible rfl
 rotate_left
 ·simp only [Act.put, List.setIfInBounds_toArray, List.set_cons_zero, List.set_cons_succ, i64_w, i32_w]
  rfl
 refine take_ (i := 0) (N := some 135) (v := ?_) (a' := ?_) #[true, true, true, false, false, true, true, false, false, false, false, false, false] rfl rfl (take_ofW HT_.out HW_.out (by kernel_rfl)) (fun _ _ _ h => h) (Or.inl ⟨by rfl, ?_⟩) hHeld ?_ ?_
 rotate_left
 ·rintro w' ⟨s0, s1, s2⟩
  go_simp
  with_reducible rfl
 rotate_left
 ·simp only [Act.put, List.setIfInBounds_toArray, List.set_cons_zero, List.set_cons_succ, i64_w, i32_w]
  rfl
 refine one_ (i := 3) (N := some 138) #[true, true, true, true, false, true, true, false, false, false, false, false, false] rfl rfl (one_of HT_.out (by kernel_rfl)) (by decide) (fun K hK => ?_)
 refine goes_ Tryd.func15 (by kernel_rfl) rfl #[.int .i64 (wrap64 ((y : Int) + 1))] (by rfl) rfl rfl (by simp only [List.map_toArray, List.map_cons, List.map_nil]; rfl) ?_
 refine (HVZ.out _).mono ?_
 rintro e W16 ⟨vv, rfl, hr, hb0⟩
 refine ⟨_, rfl, ?_⟩
 have hb := hb0
 replace HB := Lib.hid (below_step HB.out hb)
 replace HXd := Lib.hid (blk_below HXd.out hb)
 replace HXu := Lib.hid (blk_below HXu.out hb)
 replace HVv := Lib.hid (Kd.C_below HVv.out hb)
 replace HVp := Lib.hid (Kd.C_below HVp.out hb)
 clear hb hb0
 obtain ⟨Az, cz, rfl⟩ := Kd.R_slice hr
 have hcz := (Kd.R_reads' hr).2.1
 have HVz := Lib.hid (Kd.R_reads' hr).2.2
 clear hr
 obtain ⟨adz, rfl, _⟩ := HVz.out.2.2 (by rw [HL2.out]; exact Nat.succ_pos _)
 have hz1 : (1 : Int) ≤ (vb.length : Int) := by have := HL2.out; omega
 have hz2 : ¬ cz = 1 := by have := HL2.out; omega
 refine hK.out _ _ ⟨(cell_of_blk HXu.out rfl), (cell_of_blk HXu.out rfl), (cell_of_blk HXu.out rfl)⟩ (fun hHeld => ?_)
 clear hK K
 refine norm_ (a' := ?_) ?_ ?_
 rotate_left
 ·show Act.put _ (some 138) _ = _
  simp only [Act.put, List.setIfInBounds_toArray, List.set_cons_zero, List.set_cons_succ, i64_w, i32_w]
  rfl
 refine pure_ (i := 4) (N := some 139) (v := ?_) (a' := ?_) #[true, true, true, true, true, true, true, false, false, false, false, false, false] rfl rfl (any_of HT_.out (by kernel_rfl)) (fun _ _ _ h => h) (Or.inl ⟨by rfl, ?_⟩) ?_ ?_
 rotate_left
 ·intro w'
  go_simp
  with_reducible rfl
 rotate_left
 ·simp only [Act.put, List.setIfInBounds_toArray, List.set_cons_zero, List.set_cons_succ, i64_w, i32_w]
  rfl
 refine one_ (i := 7) (N := some 142) #[true, true, true, true, true, true, true, true, false, false, false, false, false] rfl rfl (one_of HT_.out (by kernel_rfl)) (by decide) (fun K hK => ?_)
 refine goes_ Tryd.func14 (by kernel_rfl) rfl #[.agg #[.int .i64 (x : Int), .string sl, .string sg], .slice (some (adz.add 1)) (vb.length - 1) (cz - 1), .string sy, .int .i64 (y : Int), .string ⟨#[97, 110, 110, 97, 47, 110, 111, 116, 101, 115]⟩] (by rfl) rfl rfl (by simp only [List.map_toArray, List.map_cons, List.map_nil]; rfl) ?_
 refine (HO3.out _ _ _ (Nat.sub_le_sub_right hcz 1) (by have := C_drop HVz.out; simp only [List.length_drop] at this; exact this)).mono ?_
 rintro e W17 ⟨rfl, hb0⟩
 refine ⟨_, rfl, ?_⟩
 have hb := hb0
 replace HB := Lib.hid (below_step HB.out hb)
 replace HXd := Lib.hid (blk_below HXd.out hb)
 replace HXu := Lib.hid (blk_below HXu.out hb)
 replace HVv := Lib.hid (Kd.C_below HVv.out hb)
 replace HVp := Lib.hid (Kd.C_below HVp.out hb)
 replace HVz := Lib.hid (Kd.C_below HVz.out hb)
 clear hb hb0
 refine hK.out _ _ ⟨(cell_of_blk HXu.out rfl), (cell_of_blk HXu.out rfl), (cell_of_blk HXu.out rfl)⟩ (fun hHeld => ?_)
 clear hK K
 refine norm_ (a' := ?_) ?_ ?_
 rotate_left
 ·show Act.put _ (some 142) _ = _
  simp only [Act.put, List.setIfInBounds_toArray, List.set_cons_zero, List.set_cons_succ, i64_w, i32_w]
  rfl
 refine pure_ (i := 8) (N := some 134) (v := ?_) (a' := ?_) #[true, true, true, true, true, true, true, true, true, false, false, false, false] rfl rfl (any_of HT_.out (by kernel_rfl)) (fun _ _ _ h => h) (Or.inl ⟨by rfl, ?_⟩) ?_ ?_
 rotate_left
 ·intro w'
  go_simp
  with_reducible rfl
 rotate_left
 ·simp only [Act.put, List.setIfInBounds_toArray, List.set_cons_zero, List.set_cons_succ, i64_w, i32_w]
  rfl
 refine pure_ (i := 9) (N := some 143) (v := ?_) (a' := ?_) #[true, true, true, true, true, true, true, true, true, true, false, false, false] rfl rfl (any_of HT_.out (by kernel_rfl)) (fun _ _ _ h => h) (Or.inl ⟨by rfl, ?_⟩) ?_ ?_
 rotate_left
 ·intro w'
  go_simp
  with_reducible rfl
 rotate_left
 ·simp only [Act.put, List.setIfInBounds_toArray, List.set_cons_zero, List.set_cons_succ, i64_w, i32_w]
  rfl
 refine pure_ (i := 10) (N := some 144) (v := ?_) (a' := ?_) #[true, true, true, true, true, true, true, true, true, true, true, false, false] rfl rfl (any_of HT_.out (by kernel_rfl)) (fun _ _ _ h => h) (Or.inl ⟨by rfl, ?_⟩) ?_ ?_
 rotate_left
 ·intro w'
  go_simp
  with_reducible rfl
 rotate_left
 ·simp only [Act.put, List.setIfInBounds_toArray, List.set_cons_zero, List.set_cons_succ, i64_w, i32_w]
  rfl
 refine pure_ (i := 11) (N := some 26) (v := ?_) (a' := ?_) #[true, true, true, true, true, true, true, true, true, true, true, true, false] rfl rfl (any_of HT_.out (by kernel_rfl)) (fun _ _ _ h => h) (Or.inl ⟨by rfl, ?_⟩) ?_ ?_
 rotate_left
 ·intro w'
  go_simp
  with_reducible rfl
 rotate_left
 ·simp only [Act.put, List.setIfInBounds_toArray, List.set_cons_zero, List.set_cons_succ, i64_w, i32_w]
  rfl
 refine pure_ (i := 12) (N := some 27) (v := ?_) (a' := ?_) #[true, true, true, true, true, true, true, true, true, true, true, true, true] rfl rfl (any_of HT_.out (by kernel_rfl)) (fun _ _ _ h => h) (Or.inl ⟨by rfl, ?_⟩) ?_ ?_
 rotate_left
 ·intro w'
  go_simp
  with_reducible rfl
 rotate_left
 ·simp only [Act.put, List.setIfInBounds_toArray, List.set_cons_zero, List.set_cons_succ, i64_w, i32_w]
  rfl
 refine done_ (done_of HT_.out (by kernel_rfl)) ?_
 clear HT_
 go_wp2_with fail
 have hb0 : Below W17.heap.size W17 W17.drew := below_drew (Below.refl _ _)
 have hb := hb0
 replace HB := Lib.hid (below_step HB.out hb)
 replace HXd := Lib.hid (blk_below HXd.out hb)
 replace HXu := Lib.hid (blk_below HXu.out hb)
 replace HVv := Lib.hid (Kd.C_below HVv.out hb)
 replace HVp := Lib.hid (Kd.C_below HVp.out hb)
 replace HVz := Lib.hid (Kd.C_below HVz.out hb)
 clear hb hb0
 refine start_ (n := 11) (S := fun w' => w'.cell? ⟨W11.heap.size, 0, none⟩ = some (.int .i64 (x : Int)) ∧ w'.cell? ⟨W11.heap.size, 1, none⟩ = some (.string sl) ∧ w'.cell? ⟨W11.heap.size, 2, none⟩ = some (.string sg)) (ds := []) #[false, false, false, false, false, false, false, false, false, false, false] (by kernel_rfl) rfl rfl ⟨(cell_of_blk HXu.out rfl), (cell_of_blk HXu.out rfl), (cell_of_blk HXu.out rfl)⟩ (fun hHeld => ?_)
 refine with_tabW bk9.tab20 bk9.bits20 (fun HT_ HW_ => ?_)
 refine pure_ (i := 1) (N := some 147) (v := ?_) (a' := ?_) #[false, true, false, false, false, false, false, false, false, false, false] rfl rfl (any_of HT_.out (by kernel_rfl)) (fun _ _ _ h => h) (Or.inl ⟨by rfl, ?_⟩) ?_ ?_
 rotate_left
 ·intro w'
  go_simp
  with_reducible rfl
 rotate_left
 ·simp only [Act.put, List.setIfInBounds_toArray, List.set_cons_zero, List.set_cons_succ, i64_w, i32_w]
  rfl
 refine pure_ (i := 3) (N := some 149) (v := ?_) (a' := ?_) #[false, true, false, true, false, false, false, false, false, false, false] rfl rfl (any_of HT_.out (by kernel_rfl)) (fun _ _ _ h => h) (Or.inl ⟨by rfl, ?_⟩) ?_ ?_
 rotate_left
 ·intro w'
  go_simp
  with_reducible rfl
 rotate_left
 ·simp only [Act.put, List.setIfInBounds_toArray, List.set_cons_zero, List.set_cons_succ, i64_w, i32_w]
  rfl
 refine pure_ (i := 4) (N := some 150) (v := ?_) (a' := ?_) #[false, true, false, true, true, false, false, false, false, false, false] rfl rfl (any_of HT_.out (by kernel_rfl)) (fun _ _ _ h => h) (Or.inl ⟨by rfl, ?_⟩) ?_ ?_
 rotate_left
 ·intro w'
  go_simp
  with_reducible rfl
 rotate_left
 ·simp only [Act.put, List.setIfInBounds_toArray, List.set_cons_zero, List.set_cons_succ, i64_w, i32_w]
  rfl
 refine take_ (i := 0) (N := some 146) (v := ?_) (a' := ?_) #[true, true, false, true, true, false, false, false, false, false, false] rfl rfl (take_ofW HT_.out HW_.out (by kernel_rfl)) (fun _ _ _ h => h) (Or.inl ⟨by rfl, ?_⟩) hHeld ?_ ?_
 rotate_left
 ·rintro w' ⟨s0, s1, s2⟩
  go_simp
  with_reducible rfl
 rotate_left
 ·simp only [Act.put, List.setIfInBounds_toArray, List.set_cons_zero, List.set_cons_succ, i64_w, i32_w]
  rfl
 refine one_ (i := 2) (N := some 148) #[true, true, true, true, true, false, false, false, false, false, false] rfl rfl (one_of HT_.out (by kernel_rfl)) (by decide) (fun K hK => ?_)
 refine goes_ Tryd.func15 (by kernel_rfl) rfl #[.int .i64 (y : Int)] (by rfl) rfl rfl (by simp only [List.map_toArray, List.map_cons, List.map_nil]; rfl) ?_
 refine (HVY.out _).mono ?_
 rintro e W18 ⟨vv, rfl, hr, hb0⟩
 refine ⟨_, rfl, ?_⟩
 have hb := hb0
 replace HB := Lib.hid (below_step HB.out hb)
 replace HXd := Lib.hid (blk_below HXd.out hb)
 replace HXu := Lib.hid (blk_below HXu.out hb)
 replace HVv := Lib.hid (Kd.C_below HVv.out hb)
 replace HVp := Lib.hid (Kd.C_below HVp.out hb)
 replace HVz := Lib.hid (Kd.C_below HVz.out hb)
 clear hb hb0
 obtain ⟨Aq, cq, rfl⟩ := Kd.R_slice hr
 have hcq := (Kd.R_reads' hr).2.1
 have HVq := Lib.hid (Kd.R_reads' hr).2.2
 clear hr
 refine hK.out _ _ ⟨(cell_of_blk HXu.out rfl), (cell_of_blk HXu.out rfl), (cell_of_blk HXu.out rfl)⟩ (fun hHeld => ?_)
 clear hK K
 refine norm_ (a' := ?_) ?_ ?_
 rotate_left
 ·show Act.put _ (some 148) _ = _
  simp only [Act.put, List.setIfInBounds_toArray, List.set_cons_zero, List.set_cons_succ, i64_w, i32_w]
  rfl
 refine one_ (i := 5) (N := some 151) #[true, true, true, true, true, true, false, false, false, false, false] rfl rfl (one_of HT_.out (by kernel_rfl)) (by decide) (fun K hK => ?_)
 refine goes_ Tryd.func14 (by kernel_rfl) rfl #[.agg #[.int .i64 (x : Int), .string sl, .string sg], .slice Aq va.length cq, .string sx, .int .i64 (y : Int), .string ⟨#[97, 110, 110, 97, 47, 110, 111, 116, 101, 115]⟩] (by rfl) rfl rfl (by simp only [List.map_toArray, List.map_cons, List.map_nil]; rfl) ?_
 refine (HO4.out _ _ _ hcq HVq.out).mono ?_
 rintro e W19 ⟨rfl, hb0⟩
 refine ⟨_, rfl, ?_⟩
 have hb := hb0
 replace HB := Lib.hid (below_step HB.out hb)
 replace HXd := Lib.hid (blk_below HXd.out hb)
 replace HXu := Lib.hid (blk_below HXu.out hb)
 replace HVv := Lib.hid (Kd.C_below HVv.out hb)
 replace HVp := Lib.hid (Kd.C_below HVp.out hb)
 replace HVz := Lib.hid (Kd.C_below HVz.out hb)
 replace HVq := Lib.hid (Kd.C_below HVq.out hb)
 clear hb hb0
 refine hK.out _ _ ⟨(cell_of_blk HXu.out rfl), (cell_of_blk HXu.out rfl), (cell_of_blk HXu.out rfl)⟩ (fun hHeld => ?_)
 clear hK K
 refine norm_ (a' := ?_) ?_ ?_
 rotate_left
 ·show Act.put _ (some 151) _ = _
  simp only [Act.put, List.setIfInBounds_toArray, List.set_cons_zero, List.set_cons_succ, i64_w, i32_w]
  rfl
 refine pure_ (i := 6) (N := some 145) (v := ?_) (a' := ?_) #[true, true, true, true, true, true, true, false, false, false, false] rfl rfl (any_of HT_.out (by kernel_rfl)) (fun _ _ _ h => h) (Or.inl ⟨by rfl, ?_⟩) ?_ ?_
 rotate_left
 ·intro w'
  go_simp
  with_reducible rfl
 rotate_left
 ·simp only [Act.put, List.setIfInBounds_toArray, List.set_cons_zero, List.set_cons_succ, i64_w, i32_w]
  rfl
 refine pure_ (i := 7) (N := some 152) (v := ?_) (a' := ?_) #[true, true, true, true, true, true, true, true, false, false, false] rfl rfl (any_of HT_.out (by kernel_rfl)) (fun _ _ _ h => h) (Or.inl ⟨by rfl, ?_⟩) ?_ ?_
 rotate_left
 ·intro w'
  go_simp
  with_reducible rfl
 rotate_left
 ·simp only [Act.put, List.setIfInBounds_toArray, List.set_cons_zero, List.set_cons_succ, i64_w, i32_w]
  rfl
 refine pure_ (i := 8) (N := some 153) (v := ?_) (a' := ?_) #[true, true, true, true, true, true, true, true, true, false, false] rfl rfl (any_of HT_.out (by kernel_rfl)) (fun _ _ _ h => h) (Or.inl ⟨by rfl, ?_⟩) ?_ ?_
 rotate_left
 ·intro w'
  go_simp
  with_reducible rfl
 rotate_left
 ·simp only [Act.put, List.setIfInBounds_toArray, List.set_cons_zero, List.set_cons_succ, i64_w, i32_w]
  rfl
 refine pure_ (i := 9) (N := some 28) (v := ?_) (a' := ?_) #[true, true, true, true, true, true, true, true, true, true, false] rfl rfl (any_of HT_.out (by kernel_rfl)) (fun _ _ _ h => h) (Or.inl ⟨by rfl, ?_⟩) ?_ ?_
 rotate_left
 ·intro w'
  go_simp
  with_reducible rfl
 rotate_left
 ·simp only [Act.put, List.setIfInBounds_toArray, List.set_cons_zero, List.set_cons_succ, i64_w, i32_w]
  rfl
 refine pure_ (i := 10) (N := some 29) (v := ?_) (a' := ?_) #[true, true, true, true, true, true, true, true, true, true, true] rfl rfl (any_of HT_.out (by kernel_rfl)) (fun _ _ _ h => h) (Or.inl ⟨by rfl, ?_⟩) ?_ ?_
 rotate_left
 ·intro w'
  go_simp
  with_reducible rfl
 rotate_left
 ·simp only [Act.put, List.setIfInBounds_toArray, List.set_cons_zero, List.set_cons_succ, i64_w, i32_w]
  rfl
 refine done_ (done_of HT_.out (by kernel_rfl)) ?_
 clear HT_
 have ic : (ct.toList == ct.toList) = true := by simp
 by_cases hxe : x = y
 ·skip
  subst hxe
  have hk4 := HK4.out
  rw [if_pos rfl] at hk4
  have k1 : (R4.2 == 7) = false := by rw [hk4]; rfl
  have k2 : ((x : Int) == (x : Int)) = true := by simp
  go_wp2
  go_ret
  exact ⟨rfl, HB.out⟩
 ·skip
  have hk4 := HK4.out
  rw [if_neg hxe] at hk4
  have k1 : (R4.2 == 7) = true := by rw [hk4]; rfl
  go_wp2
  go_ret
  exact ⟨rfl, HB.out⟩
end Go.Proofs.YtphehoidkmficaaDoor
end
