/- Contracts and laws that the statement of LawDataSpoils leans on (packed from this claim's own texts): part 13. -/
import Derived.Lib.ConvBytes
import Derived.Test.YtphehoidkmficaaDoorQS12
section

namespace Go.Proofs.YtphehoidkmficaaDoor
open Go.RowKit Go.Proofs.YtphehoidkmficaaDoorW.PrintWords Go.Proofs.YtphehoidkmficaaDoorW.PrintLast Go.Proofs.YtphehoidkmficaaDoor.Ref
set_option linter.unusedVariables false
set_option linter.unusedSimpArgs false
theorem bytes_block (w : World) (s : ByteArray) : ∃ cs n, (Lib.bytesWorld w 5 s).heap[w.heap.size]? = some (.cells cs 5 (n, n + 1)) ∧ s.size ≤ n ∧ ∀ j (h : j < (bytes s).length), cs[j]? = some (.int .u8 ((bytes s)[j]).toNat) := by
 refine ⟨_, _, Lib.bytesWorld_at_new w 5 s, ?_, ?_⟩
 ·simp only [Lib.bytesCells, Array.size_append, Array.size_map]
  have : s.data.size = s.size := rfl
  omega
 ·intro j h
  have hl : (bytes s).length = s.data.size := by simp [bytes]
  have h' : j < s.data.size := by omega
  rw [Lib.bytesCells, Array.getElem?_append_left (by simpa using h'), Array.getElem?_map, Array.getElem?_eq_getElem h']
  simp [bytes]
theorem free_range {w : World} {b j n : Nat} {c : Array Value} {t : TypeId} (h : w.heap[b]? = some (.cells c t (n, n + 1))) (hj : j < n) : w.frozen? ⟨b, j, none⟩ = false := by
 simp only [World.frozen?, h]
 simp
 omega
theorem row_u8 {w : World} {g : Nat} {cs : Array Value} {t : TypeId} {fr : Nat × Nat} (l : Bs) (hl : l.length ≤ 1000000) (h : w.heap[g]? = some (.cells cs t fr)) (hc : ∀ j (hj : j < l.length), cs[j]? = some (.int .u8 (l[j]).toNat)) :
  (Kd.int .u8).C w (some ⟨g, 0, none⟩) l.length (l.map fun c => (c.toNat : Int)) := by
 refine ⟨by simp, by omega, fun _ => ⟨_, rfl, fun j p hj => ⟨[.int .u8 p], rfl, rfl, fun i u hi => ?_⟩⟩⟩
 have hi0 : i = 0 ∧ u = .int .u8 p := by
  cases i with
  | zero => simpa using hi.symm
  | succ i => simp at hi
 obtain ⟨rfl, rfl⟩ := hi0
 have e : Addr.add ⟨g, 0, none⟩ (j * (Kd.int .u8).sz + 0) = ⟨g, j, none⟩ := by simp [Addr.add, Kd.int, Kd.scalar]; exact fun h => h.symm
 rw [e]
 rw [List.getElem?_map] at hj
 obtain ⟨c, h1, h2⟩ := Option.map_eq_some_iff.1 hj
 obtain ⟨h3, h4⟩ := List.getElem?_eq_some_iff.1 h1
 refine cell_of_blk h ?_
 rw [hc j h3, ← h2, h4]
theorem flip_fin : ∀ o : Fin 256, ∀ b : Fin 8, bits BinOp.xor IntKind.u8 ((o.val : Nat) : Int) (IntKind.u8.wrap (2 ^ b.val)) = ((o.val ^^^ 2 ^ b.val : Nat) : Int) ∧ (o.val ^^^ 2 ^ b.val) ≠ o.val ∧ (o.val ^^^ 2 ^ b.val) < 256 := by decide +kernel
theorem flip_byte (o : UInt8) {b : Nat} (hb : b < 8) : ∃ c : UInt8, bits BinOp.xor IntKind.u8 (o.toNat : Int) (IntKind.u8.wrap (2 ^ b)) = (c.toNat : Int) ∧ c ≠ o := by
 obtain ⟨h1, h2, h3⟩ := flip_fin ⟨o.toNat, o.toNat_lt⟩ ⟨b, hb⟩
 simp only at h1 h2 h3
 refine ⟨UInt8.ofNat (o.toNat ^^^ 2 ^ b), ?_, fun h => h2 ?_⟩
 ·rw [h1, UInt8.toNat_ofNat', Nat.mod_eq_of_lt h3]
 ·have := congrArg UInt8.toNat h
  rw [UInt8.toNat_ofNat', Nat.mod_eq_of_lt h3] at this
  exact this
def sp9.T11 : Bool × List (List Nat × List Nat) := (true, [([], []), ([], []), ([], []), ([2], [2]), ([1, 3], [1, 3]), ([0, 4], [0, 4]), ([5], [5]), ([], []), ([7, 4], [7]), ([8], [8]), ([6, 9], [6, 9]), ([0, 4, 0, 1, 2, 3, 4, 5, 6, 7, 8, 9, 10], [0, 4]), ([11, 10, 8, 0, 1, 2, 3, 4, 5, 6, 7, 8, 9, 10], [10, 11])])
def sp9.B11 : List Nat := [0, 0, 0, 4, 14, 31, 63, 0, 158, 414, 1023, 2047, 4095]
theorem sp9.tab11 : rtab .any (opsOf Tryd.f7 11) = sp9.T11 := by kernel_rfl
theorem sp9.bits11 : waitsOk sp9.T11.2 sp9.B11 = true := by kernel_rfl
def sp9.T15 : Bool × List (List Nat × List Nat) := (true, [([], []), ([], []), ([], []), ([2, 1], [2]), ([0, 1, 3, 3], [0, 1, 3]), ([4], [4]), ([5], [5]), ([5], [5]), ([6, 4, 0, 1, 2, 3, 4, 5, 6], [6]), ([7, 8, 0, 1, 2, 3, 4, 5, 6, 7, 8], [7])])
def sp9.B15 : List Nat := [0, 0, 0, 6, 15, 31, 63, 63, 127, 511]
theorem sp9.tab15 : rtab .any (opsOf Tryd.f7 15) = sp9.T15 := by kernel_rfl
theorem sp9.bits15 : waitsOk sp9.T15.2 sp9.B15 = true := by kernel_rfl
set_option maxRecDepth 100000 in
set_option maxHeartbeats 8000000 in
theorem spoils9_any (root a : Int) (ct : ByteArray) (at_ bit : Int) (w : World) (HTB : Aside0 (Tabs w)) (h0 : (Lit.int .i64 root).wf = true) (h1 : (Lit.int .i64 a).wf = true) (h2 : ct.size ≤ 140737488351232) (h3 : (Lit.int .i64 at_).wf = true) (h4 : (Lit.int .i64 bit).wf = true) :
  Calls Tryd.prog 7 #[.int .i64 root, .int .i64 a, .string ct, .int .i64 at_, .int .i64 bit] w fun e w' => e = .returned (.bool true) ∧ Below w.heap.size w w' := by
 have HSH := Lib.hid (fun (W : World) (hb : Below w.heap.size w W) => shown9_call W ⟨HTB.out.below hb⟩)
 have hr := pick_lt root (n := 5) (by omega)
 have hx := pick_lt a (n := 8) (by omega)
 have hbt := pick_lt bit (n := 8) (by omega)
 have HPA := Lib.hid (fun W => pick_call a 8 (by omega) (by omega) (i64_of h1) W)
 have HPT := Lib.hid (fun (n : Nat) (hn : 0 < n) (hm : n ≤ 1000000) W => pick_call at_ n hn hm (i64_of h3) W)
 have HPL := Lib.hid (fun (n : Nat) (hn : 0 < n) => pick_lt at_ hn)
 have HPB := Lib.hid (fun W => pick_call bit 8 (by omega) (by omega) (i64_of h4) W)
 have HRT := Lib.hid (root_call root (i64_of h0))
 generalize pickN root 5 = r at *
 generalize pickN a 8 = x at *
 generalize pickN bit 8 = bt at *
 have HSX := Lib.hid (fun W => state_call (r := r) (e := x) (by omega) (by omega) W)
 have HSG := Lib.hid (fun W => signer_call (i := x) (by omega) W)
 have hsz := st_small (r := r) (j := 7 - x) (by omega) (by omega)
 have hgz := sg_small (i := x) (by omega)
 have hnl : (bytes notes).length ≤ 300 := by decide
 have hnz : notes.size ≤ 1000000 := by decide
 have HB := Lib.hid (Below.refl w.heap.size w)
 go_enter Tryd.func7, Tryd.ntmps7
 go_wp2_with fail
 refine (HSH.out _ HB.out).mono ?_
 rintro e W1 ⟨rfl, hb0⟩
 have hb := hb0
 replace HB := Lib.hid (below_step HB.out hb)
 clear hb hb0
 by_cases q64 : ct.size ≤ 64
 rotate_left
 ·have t0 : decide (64 < (ct.size : Int)) = true := decide_eq_true (by omega)
  go_wp2
  go_ret
  exact ⟨rfl, HB.out⟩
 have t0 : decide (64 < (ct.size : Int)) = false := decide_eq_false (by omega)
 go_wp2_with fail
 refine (HPA.out _).mono ?_
 rintro e W2 ⟨rfl, hb0⟩
 have hb := hb0
 replace HB := Lib.hid (below_step HB.out hb)
 clear hb hb0
 go_wp2_with fail
 refine (HRT.out _).mono ?_
 rintro e W3 ⟨rfl, hb0⟩
 have hb := hb0
 replace HB := Lib.hid (below_step HB.out hb)
 clear hb hb0
 go_wp2_with fail
 refine (HSX.out _).mono ?_
 rintro e W4 ⟨rfl, hb0⟩
 have hb := hb0
 replace HB := Lib.hid (below_step HB.out hb)
 clear hb hb0
 go_wp2_with fail
 refine (HSG.out _).mono ?_
 rintro e W5 ⟨rfl, hb0⟩
 have hb := hb0
 replace HB := Lib.hid (below_step HB.out hb)
 clear hb hb0
 have HBD := Lib.hid (bl_at hsz hgz (show notes.size ≤ 1000000 by decide) HTB (build_tm (i := x) (e := x) (r := r) (j := 7 - x) (pa := notes) (ct := ct) (by omega) (by omega) (by omega) (by omega) split_notes q64))
 have hcl : (bytes ct).length ≤ 64 := by rw [bytes_length]; exact q64
 have hrb := rightBl_tm (i := x) (e := x) (r := r) (j := 7 - x) (pa := bytes notes) (ct := bytes ct) (by omega) x (by omega) (by omega) (by omega) (by omega) hnl hcl
 obtain ⟨z1, z2⟩ := bl_small (i := x) (e := x) (r := r) (j := 7 - x) (pa := bytes notes) (ct := bytes ct) (by omega) (by omega) (by omega) (by omega) hnl hcl
 obtain ⟨_, hp2⟩ := take_put_bl hrb
 have hps := put_size hrb
 have hPT := putBl_call ⟨(x : Int), tm (sealT r (7 - x) (bytes notes) (bytes ct)), tm (sigT x x r (7 - x) (bytes notes) (bytes ct))⟩ z1 z2
 rw [hp2] at hPT
 have hsp := fun (i : Nat) (c : UInt8) (q : ByteArray) => spoil (r := r) (x := x) (i := i) (c := c) (pa := notes) (ct := bytes ct) (q := q) (by omega) (by omega) (by decide) hcl
 have hpos : 0 < (putBl ⟨(x : Int), tm (sealT r (7 - x) (bytes notes) (bytes ct)), tm (sigT x x r (7 - x) (bytes notes) (bytes ct))⟩).1.size := by
  have hb := bytes_put (i := x) (e := x) (r := r) (j := 7 - x) (pa := bytes notes) (ct := bytes ct) hrb
  rw [← bytes_length]
  show 0 < (bytes (putBl (blT x x r (7 - x) (bytes notes) (bytes ct))).1).length
  rw [hb]
  simp [putL]
 unfold blT at HBD hsp
 simp only at HBD hPT
 generalize (putBl ⟨(x : Int), tm (sealT r (7 - x) (bytes notes) (bytes ct)), tm (sigT x x r (7 - x) (bytes notes) (bytes ct))⟩).1 = pb at *
 generalize tm (sealT r (7 - x) (bytes notes) (bytes ct)) = sl at *
 generalize tm (sigT x x r (7 - x) (bytes notes) (bytes ct)) = sg at *
 generalize tm (hT (7 - x) (rT r)) = st at *
 generalize tm (sT x) = s2 at *
 have HPU := Lib.hid hPT
 have HSP := Lib.hid hsp
 have HV8 := Lib.hid (fun W => verifyOf_call (n := 7) (by omega) (by omega) (m := 8) (by omega) W)
 have hm8 : (pubs 8).length ≤ 1000000 := by rw [pubs_len]; omega
 have hrz : (tm (rT r)).size ≤ 1000000 := st_small (r := r) (j := 0) (by omega) (by omega)
 have HM8 := Lib.hid (And.intro hm8 (And.intro (pubs_small 8 (by omega)) hrz))
 have hpe : (pb.toList == []) = false := by
  rw [beq_eq_false_iff_ne]
  intro e
  have h := congrArg List.length e
  rw [bytes_toList, bytes_length] at h
  change pb.size = 0 at h
  omega
 clear hPT hsp hrb z1 z2 hp2 hsz hgz hnl hnz hcl hm8 hrz q64 t0 h0 h1 h2 h3 h4 HSH HPA HSX HSG
 have hx := hx
 go_wp2_with fail
 refine (HBD.out _ HB.out).mono ?_
 rintro e W6 ⟨rfl, hb0⟩
 have hb := hb0
 replace HB := Lib.hid (below_step HB.out hb)
 clear hb hb0
 go_wp2_with fail
 refine (HPU.out _).mono ?_
 rintro e W7 ⟨rfl, hb0⟩
 have hb := below_step (below_alloc (Below.refl _ _) _) hb0
 replace HB := Lib.hid (below_step HB.out hb)
 have HXd := Lib.hid (blk_below (blk_new W6 (.cells #[.int .i64 (x : Int), .string sl, .string sg] 29)) hb0)
 clear hb hb0
 have hcv := Lib.run_convert_string_bytes (P := Tryd.prog) W7 9 43 5 pb Tryd.underlying9 Tryd.underlying43 Tryd.underlying5
 obtain ⟨cs, fn, hbk, hfn, hcs⟩ := bytes_block W7 pb
 have hbw := bytesWorld_below W7 5 pb
 have hlt : W7.heap.size < (Lib.bytesWorld W7 5 pb).heap.size := by rw [Lib.bytesWorld_size]; omega
 have HBQ := Lib.hid HB.out.size
 generalize grownCap W7 pb.size 0 5 = cq at *
 generalize Lib.bytesWorld W7 5 pb = WB at *
 replace HB := Lib.hid (below_step HB.out hbw)
 have HBK := Lib.hid hbk
 have HCS := Lib.hid hcs
 have HFN := Lib.hid hfn
 generalize W7.heap.size = QB at *
 clear hbw hlt hbk hcs hfn
 have hpl := HPL.out pb.size hpos
 have HP1 := Lib.hid (HPT.out pb.size hpos hps)
 generalize pickN at_ pb.size = ix at *
 have hlx : ix < (bytes pb).length := by rw [bytes_length]; exact hpl
 obtain ⟨old, hold⟩ : ∃ o, (bytes pb)[ix] = o := ⟨_, rfl⟩
 have HCO := Lib.hid (HCS.out ix hlx)
 rw [hold] at HCO
 have HOLD := Lib.hid hold
 have hi1 : (ix : Int) < (pb.size : Int) := by omega
 clear hold
 clear HXd
 go_wp2_with fail
 have hb0 : Below WB.heap.size WB WB.drew := below_drew (Below.refl _ _)
 replace HB := Lib.hid (below_step HB.out hb0)
 replace HBK := Lib.hid (blk_below HBK.out hb0)
 clear hb0
 refine start_ (n := 13) (S := fun w' => w'.cell? ⟨QB, ix, none⟩ = some (.int .u8 (old.toNat : Int))) (ds := [12]) #[false, false, false, false, false, false, false, false, false, false, false, false, false] (by kernel_rfl) rfl rfl ((cell_of_blk HBK.out HCO.out)) (fun hHeld => ?_)
 refine with_tabW sp9.tab11 sp9.bits11 (fun HT_ HW_ => ?_)
 refine pure_ (i := 0) (N := some 68) (v := ?_) (a' := ?_) #[true, false, false, false, false, false, false, false, false, false, false, false, false] rfl rfl (any_of HT_.out (by kernel_rfl)) (fun _ _ _ h => h) (Or.inl ⟨by rfl, ?_⟩) ?_ ?_
 rotate_left
 ·intro w'
  go_simp
  with_reducible rfl
 rotate_left
 ·simp only [Act.put, List.setIfInBounds_toArray, List.set_cons_zero, List.set_cons_succ, i64_w, i32_w]
  rfl
 refine pure_ (i := 1) (N := some 69) (v := ?_) (a' := ?_) #[true, true, false, false, false, false, false, false, false, false, false, false, false] rfl rfl (any_of HT_.out (by kernel_rfl)) (fun _ _ _ h => h) (Or.inl ⟨by rfl, ?_⟩) ?_ ?_
 rotate_left
 ·intro w'
  go_simp
  with_reducible rfl
 rotate_left
 ·simp only [Act.put, List.setIfInBounds_toArray, List.set_cons_zero, List.set_cons_succ, i64_w, i32_w]
  rfl
 refine pure_ (i := 2) (N := some 70) (v := ?_) (a' := ?_) #[true, true, true, false, false, false, false, false, false, false, false, false, false] rfl rfl (any_of HT_.out (by kernel_rfl)) (fun _ _ _ h => h) (Or.inl ⟨by rfl, ?_⟩) ?_ ?_
 rotate_left
 ·intro w'
  go_simp
  with_reducible rfl
 rotate_left
 ·simp only [Act.put, List.setIfInBounds_toArray, List.set_cons_zero, List.set_cons_succ, i64_w, i32_w]
  rfl
 refine pure_ (i := 3) (N := some 71) (v := ?_) (a' := ?_) #[true, true, true, true, false, false, false, false, false, false, false, false, false] rfl rfl (any_of HT_.out (by kernel_rfl)) (fun _ _ _ h => h) (Or.inl ⟨by rfl, ?_⟩) ?_ ?_
 rotate_left
 ·intro w'
  go_simp
  with_reducible rfl
 rotate_left
 ·simp only [Act.put, List.setIfInBounds_toArray, List.set_cons_zero, List.set_cons_succ, i64_w, i32_w]
  rfl
 refine pure_ (i := 7) (N := some 75) (v := ?_) (a' := ?_) #[true, true, true, true, false, false, false, true, false, false, false, false, false] rfl rfl (any_of HT_.out (by kernel_rfl)) (fun _ _ _ h => h) (Or.inl ⟨by rfl, ?_⟩) ?_ ?_
 rotate_left
 ·intro w'
  go_simp
  with_reducible rfl
 rotate_left
 ·simp only [Act.put, List.setIfInBounds_toArray, List.set_cons_zero, List.set_cons_succ, i64_w, i32_w]
  rfl
 refine one_ (i := 4) (N := some 72) #[true, true, true, true, true, false, false, true, false, false, false, false, false] rfl rfl (one_of HT_.out (by kernel_rfl)) (by decide) (fun K hK => ?_)
 refine goes_ Tryd.func9 (by kernel_rfl) rfl #[.int .i64 at_, .int .i64 (pb.size : Int)] (by rfl) rfl rfl (by simp only [List.map_toArray, List.map_cons, List.map_nil]; rfl) ?_
 refine (HP1.out _).mono ?_
 rintro e V1 ⟨rfl, hb0⟩
 refine ⟨_, rfl, ?_⟩
 replace HB := Lib.hid (below_step HB.out hb0)
 replace HBK := Lib.hid (blk_below HBK.out hb0)
 clear hb0
 refine hK.out _ _ ((cell_of_blk HBK.out HCO.out)) (fun hHeld => ?_)
 clear hK K
 refine norm_ (a' := ?_) ?_ ?_
 rotate_left
 ·show Act.put _ (some 72) _ = _
  simp only [Act.put, List.setIfInBounds_toArray, List.set_cons_zero, List.set_cons_succ, i64_w, i32_w]
  rfl
 refine pure_ (i := 5) (N := some 73) (v := ?_) (a' := ?_) #[true, true, true, true, true, true, false, true, false, false, false, false, false] rfl rfl (any_of HT_.out (by kernel_rfl)) (fun _ _ _ h => h) (Or.inl ⟨by rfl, ?_⟩) ?_ ?_
 rotate_left
 ·intro w'
  go_simp
  with_reducible rfl
 rotate_left
 ·simp only [Act.put, List.setIfInBounds_toArray, List.set_cons_zero, List.set_cons_succ, i64_w, i32_w]
  rfl
 refine take_ (i := 6) (N := some 74) (v := ?_) (a' := ?_) #[true, true, true, true, true, true, true, true, false, false, false, false, false] rfl rfl (take_ofW HT_.out HW_.out (by kernel_rfl)) (fun _ _ _ h => h) (Or.inl ⟨by rfl, ?_⟩) hHeld ?_ ?_
 rotate_left
 ·intro w' s0
  go_simp
  with_reducible rfl
 rotate_left
 ·simp only [Act.put, List.setIfInBounds_toArray, List.set_cons_zero, List.set_cons_succ, i64_w, i32_w]
  rfl
 refine one_ (i := 8) (N := some 76) #[true, true, true, true, true, true, true, true, true, false, false, false, false] rfl rfl (one_of HT_.out (by kernel_rfl)) (by decide) (fun K hK => ?_)
 refine goes_ Tryd.func9 (by kernel_rfl) rfl #[.int .i64 bit, .int .i64 8] (by rfl) rfl rfl (by simp only [List.map_toArray, List.map_cons, List.map_nil]; rfl) ?_
 refine (HPB.out _).mono ?_
 rintro e V2 ⟨rfl, hb0⟩
 refine ⟨_, rfl, ?_⟩
 replace HB := Lib.hid (below_step HB.out hb0)
 replace HBK := Lib.hid (blk_below HBK.out hb0)
 clear hb0
 refine hK.out _ _ ((cell_of_blk HBK.out HCO.out)) (fun hHeld => ?_)
 clear hK K
 refine norm_ (a' := ?_) ?_ ?_
 rotate_left
 ·show Act.put _ (some 76) _ = _
  simp only [Act.put, List.setIfInBounds_toArray, List.set_cons_zero, List.set_cons_succ, i64_w, i32_w]
  rfl
 refine pure_ (i := 9) (N := some 77) (v := ?_) (a' := ?_) #[true, true, true, true, true, true, true, true, true, true, false, false, false] rfl rfl (any_of HT_.out (by kernel_rfl)) (fun _ _ _ h => h) (Or.inl ⟨by rfl, ?_⟩) ?_ ?_
 rotate_left
 ·intro w'
  go_simp
  with_reducible rfl
 rotate_left
 ·simp only [Act.put, List.setIfInBounds_toArray, List.set_cons_zero, List.set_cons_succ, i64_w, i32_w]
  rfl
 refine pure_ (i := 10) (N := some 78) (v := ?_) (a' := ?_) #[true, true, true, true, true, true, true, true, true, true, true, false, false] rfl rfl (any_of HT_.out (by kernel_rfl)) (fun _ _ _ h => h) (Or.inl ⟨by rfl, ?_⟩) ?_ ?_
 rotate_left
 ·intro w'
  go_simp
  with_reducible rfl
 rotate_left
 ·simp only [Act.put, List.setIfInBounds_toArray, List.set_cons_zero, List.set_cons_succ, i64_w, i32_w]
  rfl
 refine pure_ (i := 11) (N := some 79) (v := ?_) (a' := ?_) #[true, true, true, true, true, true, true, true, true, true, true, true, false] rfl rfl (any_of HT_.out (by kernel_rfl)) (fun _ _ _ h => h) (Or.inl ⟨by rfl, ?_⟩) ?_ ?_
 rotate_left
 ·intro w'
  go_simp
  with_reducible rfl
 rotate_left
 ·simp only [Act.put, List.setIfInBounds_toArray, List.set_cons_zero, List.set_cons_succ, i64_w, i32_w]
  rfl
 refine last_ (i := 12) (N := none) #[true, true, true, true, true, true, true, true, true, true, true, true, true] rfl rfl (one_of HT_.out (by kernel_rfl)) (by decide) (fun K hK => ?_)
 have z0 := free_range (j := ix) HBK.out (by have := HFN.out; omega)
 have z1 := cell_of_blk HBK.out HCO.out
 refine skip_ (w1 := ?_) (by rfl) rfl ?_ ?_
 rotate_left
 ·go_simp
  rfl
 refine hK.out _ _ ?_
 clear hK K
 refine done_ (done_of HT_.out (by kernel_rfl)) ?_
 clear HT_
 clear z0 z1
 obtain ⟨c, hc1, hc2⟩ := flip_byte old hbt
 rw [hc1]
 have hM := Moved.setCell (S := (· = QB)) V2 (a := ⟨QB, ix, none⟩) rfl (.int .u8 (c.toNat : Int))
 replace HB := Lib.hid (Moved.below HB.out hM HB.out.size (fun j hj => by subst hj; exact HBQ.out))
 replace HBK := Lib.hid (blk_setCell (j := ix) (u := .int .u8 (c.toNat : Int)) HBK.out)
 generalize V2.setCell ⟨QB, ix, none⟩ (.int .u8 (c.toNat : Int)) = VS at HB HBK ⊢
 have hll : ((bytes pb).set ix c).length = pb.size := by rw [List.length_set, bytes_length]
 have hrow : (Kd.int .u8).C VS (some ⟨QB, 0, none⟩) ((bytes pb).set ix c).length (((bytes pb).set ix c).map fun c => (c.toNat : Int)) := by
  refine row_u8 _ (by rw [hll]; exact hps) HBK.out fun j hj => ?_
  have hj' : j < (bytes pb).length := by rw [List.length_set] at hj; exact hj
  rw [Array.getElem?_setIfInBounds]
  by_cases h : ix = j
  ·subst h
   have hin : ix < cs.size := by
    have h5 := HCO.out
    rw [Array.getElem?_eq_some_iff] at h5
    exact h5.1
   rw [if_pos rfl, if_pos hin, List.getElem_set_self]
  ·rw [if_neg h, HCS.out j hj', List.getElem_set_ne h]
 rw [hll] at hrow
 have hcv2 := Kd.C_string (P := Tryd.prog) (c := cq) Tryd.underlying43 Tryd.underlying5 Tryd.underlying9 hrow
 obtain ⟨q, hq⟩ : ∃ q, strOfNums (((bytes pb).set ix c).map fun c => (c.toNat : Int)) = q := ⟨_, rfl⟩
 rw [hq] at hcv2
 have hqb : bytes q = (bytes pb).set ix c := by
  rw [← hq, nums_of, bytes_ofBytes, List.map_map]
  refine (List.map_congr_left (g := id) fun a _ => ?_).trans (List.map_id _)
  simp
 have hqz : q.size ≤ 1000000 := by rw [← bytes_length, hqb, hll]; exact hps
 have hne : (bytes pb)[ix]? ≠ some c := by
  rw [List.getElem?_eq_getElem hlx, HOLD.out]
  exact fun h => hc2 (Option.some.inj h).symm
 have hsq := HSP.out ix c q hlx hne hqb
 rw [show hT 0 (rT r) = rT r from rfl] at hsq
 have HSQ := Lib.hid hsq
 clear hsq
 obtain ⟨R, hR⟩ : ∃ R, takeBl q = R := ⟨_, rfl⟩
 have hTQ := takeBl_call q hqz
 have hrr : R.2 = 0 → rightBl R.1 = true := fun h => by rw [← hR] at h ⊢; exact (take_bl_inv h).1
 have hcd := take_bl_codes q
 rw [hR] at hTQ HSQ hcd
 have HTQ := Lib.hid hTQ
 have HRR := Lib.hid hrr
 have HCD := Lib.hid hcd
 clear hM hrow hq hqb hqz hne hR hTQ hrr hcd hll hlx hpl hps hpos HSP HPL HPT HCS HFN HOLD HCO HBK hc1 hc2
 go_wp2_with fail
 refine (HTQ.out _).mono ?_
 rintro e W8 ⟨rfl, hb0⟩
 have hb := hb0
 replace HB := Lib.hid (below_step HB.out hb)
 clear hb hb0
 clear hcv2 hcv
 by_cases q0 : R.2 = 0
 rotate_left
 ·skip
  have hR2 : R.2 = 2 := by
   rcases HCD.out with h | h
   ·exact absurd h q0
   ·rw [h]
  have t1 : (R.2 != 0) = true := by rw [hR2]; rfl
  have t2 : (R.2 == 2) = true := by rw [hR2]; rfl
  clear hR2 q0
  go_wp2
  go_ret
  exact ⟨rfl, below_alloc HB.out _⟩
 have t1 : (R.2 != 0) = false := by rw [q0]; rfl
 have hrB := HRR.out q0
 obtain ⟨hm1, hm2, hm3⟩ := HM8.out
 obtain ⟨_, hk1, hk2⟩ := rightBl_inv hrB
 have HOP := Lib.hid (op_at (HSQ.out q0) (by have := right_kind hk1 (by decide); omega) (by have := right_kind hk2 (by decide); omega) hm3 hm2 hm1)
 clear hrB hm1 hm2 hm3 hk1 hk2 HM8 HSQ HCD HRR HTQ
 generalize pubs 8 = va at *
 generalize tm (rT r) = rt at *
 go_wp2_with fail
 have hb0 : Below (W8.alloc (.cells #[.int .i64 R.1.e, .string R.1.s, .string R.1.g] 29)).heap.size (W8.alloc (.cells #[.int .i64 R.1.e, .string R.1.s, .string R.1.g] 29)) (W8.alloc (.cells #[.int .i64 R.1.e, .string R.1.s, .string R.1.g] 29)).drew := below_drew (Below.refl _ _)
 have hb := below_step (below_alloc (Below.refl _ _) _) hb0
 replace HB := Lib.hid (below_step HB.out hb)
 have HXu := Lib.hid (blk_below (blk_new W8 (.cells #[.int .i64 R.1.e, .string R.1.s, .string R.1.g] 29)) hb0)
 clear hb hb0
 refine start_ (n := 10) (S := fun w' => w'.cell? ⟨W8.heap.size, 0, none⟩ = some (.int .i64 R.1.e) ∧ w'.cell? ⟨W8.heap.size, 1, none⟩ = some (.string R.1.s) ∧ w'.cell? ⟨W8.heap.size, 2, none⟩ = some (.string R.1.g)) (ds := []) #[false, false, false, false, false, false, false, false, false, false] (by kernel_rfl) rfl rfl ⟨(cell_of_blk HXu.out rfl), (cell_of_blk HXu.out rfl), (cell_of_blk HXu.out rfl)⟩ (fun hHeld => ?_)
 refine with_tabW sp9.tab15 sp9.bits15 (fun HT_ HW_ => ?_)
 refine pure_ (i := 2) (N := some 93) (v := ?_) (a' := ?_) #[false, false, true, false, false, false, false, false, false, false] rfl rfl (any_of HT_.out (by kernel_rfl)) (fun _ _ _ h => h) (Or.inl ⟨by rfl, ?_⟩) ?_ ?_
 rotate_left
 ·intro w'
  go_simp
  with_reducible rfl
 rotate_left
 ·simp only [Act.put, List.setIfInBounds_toArray, List.set_cons_zero, List.set_cons_succ, i64_w, i32_w]
  rfl
 refine take_ (i := 0) (N := some 91) (v := ?_) (a' := ?_) #[true, false, true, false, false, false, false, false, false, false] rfl rfl (take_ofW HT_.out HW_.out (by kernel_rfl)) (fun _ _ _ h => h) (Or.inl ⟨by rfl, ?_⟩) hHeld ?_ ?_
 rotate_left
 ·rintro w' ⟨s0, s1, s2⟩
  go_simp
  with_reducible rfl
 rotate_left
 ·simp only [Act.put, List.setIfInBounds_toArray, List.set_cons_zero, List.set_cons_succ, i64_w, i32_w]
  rfl
 refine one_ (i := 1) (N := some 92) #[true, true, true, false, false, false, false, false, false, false] rfl rfl (one_of HT_.out (by kernel_rfl)) (by decide) (fun K hK => ?_)
 refine goes_ Tryd.func15 (by kernel_rfl) rfl #[.int .i64 7] (by rfl) rfl rfl (by simp only [List.map_toArray, List.map_cons, List.map_nil]; rfl) ?_
 refine (HV8.out _).mono ?_
 rintro e W9 ⟨vv, rfl, hr, hb0⟩
 refine ⟨_, rfl, ?_⟩
 have hb := hb0
 replace HB := Lib.hid (below_step HB.out hb)
 replace HXu := Lib.hid (blk_below HXu.out hb)
 clear hb hb0
 obtain ⟨Av, cv, rfl⟩ := Kd.R_slice hr
 have hcv := (Kd.R_reads' hr).2.1
 have HVv := Lib.hid (Kd.R_reads' hr).2.2
 clear hr
 refine hK.out _ _ ⟨(cell_of_blk HXu.out rfl), (cell_of_blk HXu.out rfl), (cell_of_blk HXu.out rfl)⟩ (fun hHeld => ?_)
 clear hK K
 refine norm_ (a' := ?_) ?_ ?_
 rotate_left
 ·show Act.put _ (some 92) _ = _
  simp only [Act.put, List.setIfInBounds_toArray, List.set_cons_zero, List.set_cons_succ, i64_w, i32_w]
  rfl
 refine one_ (i := 3) (N := some 94) #[true, true, true, true, false, false, false, false, false, false] rfl rfl (one_of HT_.out (by kernel_rfl)) (by decide) (fun K hK => ?_)
 refine goes_ Tryd.func11 (by kernel_rfl) rfl #[.int .i64 root] (by rfl) rfl rfl (by simp only [List.map_toArray, List.map_cons, List.map_nil]; rfl) ?_
 refine (HRT.out _).mono ?_
 rintro e W10 ⟨rfl, hb0⟩
 refine ⟨_, rfl, ?_⟩
 have hb := hb0
 replace HB := Lib.hid (below_step HB.out hb)
 replace HXu := Lib.hid (blk_below HXu.out hb)
 replace HVv := Lib.hid (Kd.C_below HVv.out hb)
 clear hb hb0
 refine hK.out _ _ ⟨(cell_of_blk HXu.out rfl), (cell_of_blk HXu.out rfl), (cell_of_blk HXu.out rfl)⟩ (fun hHeld => ?_)
 clear hK K
 refine norm_ (a' := ?_) ?_ ?_
 rotate_left
 ·show Act.put _ (some 94) _ = _
  simp only [Act.put, List.setIfInBounds_toArray, List.set_cons_zero, List.set_cons_succ, i64_w, i32_w]
  rfl
 refine one_ (i := 4) (N := some 95) #[true, true, true, true, true, false, false, false, false, false] rfl rfl (one_of HT_.out (by kernel_rfl)) (by decide) (fun K hK => ?_)
 refine goes_ Tryd.func14 (by kernel_rfl) rfl #[.agg #[.int .i64 R.1.e, .string R.1.s, .string R.1.g], .slice Av va.length cv, .string rt, .int .i64 7, .string ⟨#[97, 110, 110, 97, 47, 110, 111, 116, 101, 115]⟩] (by rfl) rfl rfl (by simp only [List.map_toArray, List.map_cons, List.map_nil]; rfl) ?_
 refine (HOP.out _ _ _ hcv HVv.out).mono ?_
 rintro e W11 ⟨rfl, hb0⟩
 refine ⟨_, rfl, ?_⟩
 have hb := hb0
 replace HB := Lib.hid (below_step HB.out hb)
 replace HXu := Lib.hid (blk_below HXu.out hb)
 replace HVv := Lib.hid (Kd.C_below HVv.out hb)
 clear hb hb0
 refine hK.out _ _ ⟨(cell_of_blk HXu.out rfl), (cell_of_blk HXu.out rfl), (cell_of_blk HXu.out rfl)⟩ (fun hHeld => ?_)
 clear hK K
 refine norm_ (a' := ?_) ?_ ?_
 rotate_left
 ·show Act.put _ (some 95) _ = _
  simp only [Act.put, List.setIfInBounds_toArray, List.set_cons_zero, List.set_cons_succ, i64_w, i32_w]
  rfl
 refine pure_ (i := 5) (N := some 90) (v := ?_) (a' := ?_) #[true, true, true, true, true, true, false, false, false, false] rfl rfl (any_of HT_.out (by kernel_rfl)) (fun _ _ _ h => h) (Or.inl ⟨by rfl, ?_⟩) ?_ ?_
 rotate_left
 ·intro w'
  go_simp
  with_reducible rfl
 rotate_left
 ·simp only [Act.put, List.setIfInBounds_toArray, List.set_cons_zero, List.set_cons_succ, i64_w, i32_w]
  rfl
 refine pure_ (i := 6) (N := some 96) (v := ?_) (a' := ?_) #[true, true, true, true, true, true, true, false, false, false] rfl rfl (any_of HT_.out (by kernel_rfl)) (fun _ _ _ h => h) (Or.inl ⟨by rfl, ?_⟩) ?_ ?_
 rotate_left
 ·intro w'
  go_simp
  with_reducible rfl
 rotate_left
 ·simp only [Act.put, List.setIfInBounds_toArray, List.set_cons_zero, List.set_cons_succ, i64_w, i32_w]
  rfl
 refine pure_ (i := 7) (N := some 97) (v := ?_) (a' := ?_) #[true, true, true, true, true, true, true, true, false, false] rfl rfl (any_of HT_.out (by kernel_rfl)) (fun _ _ _ h => h) (Or.inl ⟨by rfl, ?_⟩) ?_ ?_
 rotate_left
 ·intro w'
  go_simp
  with_reducible rfl
 rotate_left
 ·simp only [Act.put, List.setIfInBounds_toArray, List.set_cons_zero, List.set_cons_succ, i64_w, i32_w]
  rfl
 refine pure_ (i := 8) (N := some 22) (v := ?_) (a' := ?_) #[true, true, true, true, true, true, true, true, true, false] rfl rfl (any_of HT_.out (by kernel_rfl)) (fun _ _ _ h => h) (Or.inl ⟨by rfl, ?_⟩) ?_ ?_
 rotate_left
 ·intro w'
  go_simp
  with_reducible rfl
 rotate_left
 ·simp only [Act.put, List.setIfInBounds_toArray, List.set_cons_zero, List.set_cons_succ, i64_w, i32_w]
  rfl
 refine pure_ (i := 9) (N := some 23) (v := ?_) (a' := ?_) #[true, true, true, true, true, true, true, true, true, true] rfl rfl (any_of HT_.out (by kernel_rfl)) (fun _ _ _ h => h) (Or.inl ⟨by rfl, ?_⟩) ?_ ?_
 rotate_left
 ·intro w'
  go_simp
  with_reducible rfl
 rotate_left
 ·simp only [Act.put, List.setIfInBounds_toArray, List.set_cons_zero, List.set_cons_succ, i64_w, i32_w]
  rfl
 refine done_ (done_of HT_.out (by kernel_rfl)) ?_
 clear HT_
 go_wp2
 go_ret
 exact ⟨rfl, HB.out⟩
end Go.Proofs.YtphehoidkmficaaDoor
end
