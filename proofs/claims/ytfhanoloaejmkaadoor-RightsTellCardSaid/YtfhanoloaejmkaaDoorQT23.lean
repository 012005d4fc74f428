/- Contracts and laws that the statement of LawRightsTell leans on (packed from this claim's own texts): part 23. -/
import Derived.Test.YtfhanoloaejmkaaDoorQT19
import Derived.Test.YtfhanoloaejmkaaDoorQT22
section

namespace Go.Proofs.YtfhanoloaejmkaaDoor
open Go.RowKit Go.Proofs.YtfhanoloaejmkaaDoorW.PrintWords Go.Proofs.YtfhanoloaejmkaaDoorW.PrintLast Go.Proofs.YtfhanoloaejmkaaDoor.Ref
set_option linter.unusedVariables false
set_option linter.unusedSimpArgs false
theorem new_small {o f : ByteArray} (ho : o.size ≤ 1000000) (hf : f.size ≤ 1000000) : smallR (newF o f).1 = true := by
 unfold newF
 split
 ·exact small_mk ho hf (by show (-9223372036854775808 : Int) ≤ 0 ∧ (0 : Int) ≤ 9223372036854775807; omega) (Nat.zero_le _) (Nat.zero_le _) (by simp) (by simp)
 ·exact small_no
theorem take_small (s : ByteArray) : smallR (takeR s).1 = true := by
 by_cases h : (takeR s).2 = 0
 ·exact right_small (take_was h).1
 ·rw [take_not h]; exact small_no
def rgTl.T16 : Bool × List (List Nat × List Nat) := (true, [([], []), ([0], [0]), ([1], [1]), ([1], [1]), ([2, 3, 1, 1], [1, 2, 3]), ([1, 4], [1, 4]), ([5, 4], [5]), ([6], [6]), ([6], [6]), ([7, 8, 6], [6, 7, 8]), ([6, 9], [6, 9]), ([10, 6], [10]), ([11], [11]), ([11], [11]), ([12, 13, 11, 11], [11, 12, 13]), ([11, 14], [11, 14]), ([15, 14], [15]), ([16], [16]), ([16], [16]), ([17, 18, 16], [16, 17, 18]), ([16, 19], [16, 19]), ([20, 16], [20]), ([21], [21]), ([22, 21, 21], [21, 22]), ([21], [21]), ([24, 23, 21], [21, 24]), ([23, 25, 21], [21, 23, 25]), ([21, 26], [21, 26]), ([27, 25], [27]), ([28], [28]), ([28], [28]), ([28], [28]), ([29, 30, 31, 28, 28], [28, 29, 30, 31]), ([28], [28]), ([28], [28]), ([28], [28]), ([33, 34, 35, 32, 28], [28, 33, 34, 35]), ([32, 36, 28], [28, 32, 36]), ([28, 37], [28, 37]), ([38, 36, 0, 1, 2, 3, 4, 5, 6, 7, 8, 9, 10, 11, 12, 13, 14, 15, 16, 17, 18, 19, 20, 21, 22, 23, 24, 25, 26, 27, 28, 29, 30, 31, 32, 33, 34, 35, 36, 37, 38], [38])])
def rgTl.B16 : List Nat := [0, 1, 3, 3, 15, 31, 63, 127, 127, 511, 1023, 2047, 4095, 4095, 16383, 32767, 65535, 131071, 131071, 524287, 1048575, 2097151, 4194303, 8388607, 4194303, 33554431, 67108863, 134217727, 268435455, 536870911, 536870911, 536870911, 4294967295, 536870911, 536870911, 536870911, 68719476735, 137438953471, 274877906943, 549755813887]
theorem rgTl.tab16 : rtab .any (opsOf Tryd.f9 16) = rgTl.T16 := by kernel_rfl
theorem rgTl.bits16 : waitsOk rgTl.T16.2 rgTl.B16 = true := by kernel_rfl
set_option maxHeartbeats 8000000 in
set_option maxRecDepth 100000 in
theorem tell_any (r : Rt) (Ar : Option Addr) (cr : Nat) (Br : Option Addr) (dr : Nat) (user s : ByteArray) (write : Bool) (w : World) (HTB : Aside0 (Tabs w)) (hr : RowsAt w 0 r Ar cr Br dr) (ho : r.o.size ≤ 140737488355328) (hf : r.f.size ≤ 140737488355328) (he : -9223372036854775808 ≤ r.e ∧ r.e ≤ 9223372036854775807) (hu0 : user.size ≤ 140737488351232) (hs0 : s.size ≤ 140737488351232) :
  Calls Tryd.prog 9 #[.agg #[.string r.o, .string r.f, .int .i64 r.e, .slice Ar r.rs.length cr, .slice Br r.ws.length dr], .string user, .string s, .bool write] w fun e w' => e = .returned (.bool true) ∧ Below w.heap.size w w' := by
 have H1 := Lib.hid (shown_call w HTB)
 have HFW := Lib.hid (fun (W : World) (h : RowsAt W 0 r Ar cr Br dr) => few_call r Ar cr Br dr W ho hf h)
 obtain ⟨fw, hfw⟩ : ∃ fw, fewR r = fw := ⟨_, rfl⟩
 rw [hfw] at HFW
 have hb0 : Below w.heap.size w (w.alloc (Obj.cells #[Value.string r.o, Value.string r.f, Value.int IntKind.i64 r.e, .slice Ar r.rs.length cr, .slice Br r.ws.length dr] 26)) := below_alloc (Below.refl _ _) _
 have HB := Lib.hid hb0
 have HXr := Lib.hid (box_new w r (.slice Ar r.rs.length cr) (.slice Br r.ws.length dr))
 have HRr := Lib.hid (hr.below hb0)
 have H1 := Lib.hid (shown_call _ ⟨HTB.out.below hb0⟩)
 clear hb0 hr ho hf
 go_enter Tryd.func9, Tryd.ntmps9
 go_wp2_with fail
 refine (H1.out).mono ?_
 rintro e W1 ⟨rfl, hb⟩
 replace HB := Lib.hid (below_step HB.out hb)
 replace HXr := Lib.hid (HXr.out.below hb)
 replace HRr := Lib.hid (HRr.out.below hb)
 clear hb
 obtain ⟨qr0, qr1, qr2, qr3, qr4⟩ := HXr.out.cell
 go_wp2_with fail
 refine (HFW.out _ HRr.out).mono ?_
 rintro e W2 ⟨rfl, hb⟩
 clear qr0 qr1 qr2 qr3 qr4
 replace HB := Lib.hid (below_step HB.out hb)
 replace HXr := Lib.hid (HXr.out.below hb)
 replace HRr := Lib.hid (HRr.out.below hb)
 clear hb
 cases fw with
 | false =>
  clear hfw
  go_wp2
  go_ret
  exact ⟨rfl, HB.out⟩
 | true =>
  by_cases hu5 : 500 < user.size
  ·go_wp2
   go_ret
   exact ⟨rfl, HB.out⟩
  by_cases hs3 : 3000 < s.size
  ·go_wp2
   go_ret
   exact ⟨rfl, HB.out⟩
  have sr := few_small he hfw
  have hu : user.size ≤ 1000000 := by omega
  have hs : s.size ≤ 1000000 := by omega
  have hs2 : s.size ≤ 100000 := by omega
  obtain ⟨S1, e1⟩ : ∃ S, grantF r user write = S := ⟨_, rfl⟩
  obtain ⟨S2, e2⟩ : ∃ S, revokeF r user = S := ⟨_, rfl⟩
  obtain ⟨S3, e3⟩ : ∃ S, takeR s = S := ⟨_, rfl⟩
  obtain ⟨S4, e4⟩ : ∃ S, newF user s = S := ⟨_, rfl⟩
  obtain ⟨P, e5⟩ : ∃ P, putF r = P := ⟨_, rfl⟩
  obtain ⟨b1, e6⟩ : ∃ b, rightR r = b := ⟨_, rfl⟩
  obtain ⟨b2, e7⟩ : ∃ b, canF r user write = b := ⟨_, rfl⟩
  have s1 : smallR S1.1 = true := e1 ▸ grant_small
  have s2 : smallR S2.1 = true := e2 ▸ revoke_small
  have s3 : smallR S3.1 = true := e3 ▸ take_small s
  have s4 : smallR S4.1 = true := e4 ▸ new_small hu hs
  have HA := Lib.hid (grant_at HTB sr hu write e1 Ar cr Br dr)
  have HA2 := Lib.hid (fun (W : World) (h : RowsAt W 0 r Ar cr Br dr) => e1 ▸ refGrant_call r user write Ar cr Br dr W sr hu h)
  have HC := Lib.hid (revoke_at HTB sr hu e2 Ar cr Br dr)
  have HC2 := Lib.hid (fun (W : World) (h : RowsAt W 0 r Ar cr Br dr) => e2 ▸ refRevoke_call r user Ar cr Br dr W sr hu h)
  have HP := Lib.hid (put_at HTB sr e5 Ar cr Br dr)
  have HP2 := Lib.hid (fun (W : World) (h : RowsAt W 0 r Ar cr Br dr) => e5 ▸ refPut_call r Ar cr Br dr W sr h)
  have HT := Lib.hid (take_at HTB hs2 e3)
  have HT2 := Lib.hid (fun (W : World) => (ref_take s).trans e3 ▸ refTake_call s W hs2)
  have HN := Lib.hid (fun (W : World) (hb : Below w.heap.size w W) => e4 ▸ new_call user s W ⟨HTB.out.below hb⟩ hu hs)
  have HN2 := Lib.hid (fun (W : World) => e4 ▸ refNew_call user s W hu hs)
  have HS1 := Lib.hid (fun A c A' c' D d D' d' => same_at s1 s1 ((same_iff _ _).2 rfl) A c A' c' D d D' d')
  have HS2 := Lib.hid (fun A c A' c' D d D' d' => same_at s2 s2 ((same_iff _ _).2 rfl) A c A' c' D d D' d')
  have HS3 := Lib.hid (fun A c A' c' D d D' d' => same_at s3 s3 ((same_iff _ _).2 rfl) A c A' c' D d D' d')
  have HS4 := Lib.hid (fun A c A' c' D d D' d' => same_at s4 s4 ((same_iff _ _).2 rfl) A c A' c' D d D' d')
  have HR1 := Lib.hid (right_at HTB sr e6 Ar cr Br dr)
  have HR2 := Lib.hid (fun (W : World) (h : RowsAt W 0 r Ar cr Br dr) => e6 ▸ refRight_call r Ar cr Br dr W sr h)
  have HK1 := Lib.hid (can_at HTB sr user write e7 Ar cr Br dr)
  have HK2 := Lib.hid (fun (W : World) (h : RowsAt W 0 r Ar cr Br dr) => e7 ▸ refCan_call r user write Ar cr Br dr W sr h)
  clear e1 e2 e3 e4 e5 e6 e7 s1 s2 s3 s4 sr hfw he hu hs hs2
  have i1 : (S1.2 == S1.2) = true := by simp
  have i2 : (S2.2 == S2.2) = true := by simp
  have i3 : (P.1.toList == P.1.toList) = true := by simp
  have i4 : (P.2 == P.2) = true := by simp
  have i5 : (S3.2 == S3.2) = true := by simp
  have i6 : (S4.2 == S4.2) = true := by simp
  have i7 : (b1 == b1) = true := by simp
  have i8 : (b2 == b2) = true := by simp
  obtain ⟨qr0, qr1, qr2, qr3, qr4⟩ := HXr.out.cell
  go_wp2_with fail
  refine (HA.out _ HB.out HRr.out).mono ?_
  rintro e W3 ⟨Aa, ca, Ba, da, rfl, hr, hb0⟩
  clear qr0 qr1 qr2 qr3 qr4
  obtain ⟨hb, hr'⟩ := boxed hb0 hr
  have HXa := Lib.hid (box_new W3 S1.1 (.slice Aa S1.1.rs.length ca) (.slice Ba S1.1.ws.length da))
  have hla := hb0.size
  replace HB := Lib.hid (below_step HB.out hb)
  replace HXr := Lib.hid (HXr.out.below hb)
  replace HRr := Lib.hid (HRr.out.below hb)
  have HRa := Lib.hid (hr'.lower (Nat.zero_le _))
  clear hr hb0 hb hr' hla
  obtain ⟨qr0, qr1, qr2, qr3, qr4⟩ := HXr.out.cell
  go_wp2_with fail
  refine (HA2.out _ HRr.out).mono ?_
  rintro e W4 ⟨Ab, cb, Bb, db, rfl, hr, hb0⟩
  clear qr0 qr1 qr2 qr3 qr4
  obtain ⟨hb, hr'⟩ := boxed hb0 hr
  have HXb := Lib.hid (box_new W4 S1.1 (.slice Ab S1.1.rs.length cb) (.slice Bb S1.1.ws.length db))
  have hlb := hb0.size
  replace HB := Lib.hid (below_step HB.out hb)
  replace HXr := Lib.hid (HXr.out.below hb)
  replace HRr := Lib.hid (HRr.out.below hb)
  replace HXa := Lib.hid (HXa.out.below hb)
  replace HRa := Lib.hid (HRa.out.below hb)
  have HRb := Lib.hid (hr'.lower (Nat.zero_le _))
  clear hr hb0 hb hr' hlb
  obtain ⟨qr0, qr1, qr2, qr3, qr4⟩ := HXr.out.cell
  go_wp2_with fail
  refine (HC.out _ HB.out HRr.out).mono ?_
  rintro e W5 ⟨Ac, cc, Bc, dc, rfl, hr, hb0⟩
  clear qr0 qr1 qr2 qr3 qr4
  obtain ⟨hb, hr'⟩ := boxed hb0 hr
  have HXc := Lib.hid (box_new W5 S2.1 (.slice Ac S2.1.rs.length cc) (.slice Bc S2.1.ws.length dc))
  have hlc := hb0.size
  replace HB := Lib.hid (below_step HB.out hb)
  replace HXr := Lib.hid (HXr.out.below hb)
  replace HRr := Lib.hid (HRr.out.below hb)
  replace HXa := Lib.hid (HXa.out.below hb)
  replace HRa := Lib.hid (HRa.out.below hb)
  replace HXb := Lib.hid (HXb.out.below hb)
  replace HRb := Lib.hid (HRb.out.below hb)
  have HRc := Lib.hid (hr'.lower (Nat.zero_le _))
  clear hr hb0 hb hr' hlc
  obtain ⟨qr0, qr1, qr2, qr3, qr4⟩ := HXr.out.cell
  go_wp2_with fail
  refine (HC2.out _ HRr.out).mono ?_
  rintro e W6 ⟨Ad, cd, Bd, dd, rfl, hr, hb0⟩
  clear qr0 qr1 qr2 qr3 qr4
  obtain ⟨hb, hr'⟩ := boxed hb0 hr
  have HXd := Lib.hid (box_new W6 S2.1 (.slice Ad S2.1.rs.length cd) (.slice Bd S2.1.ws.length dd))
  have hld := hb0.size
  replace HB := Lib.hid (below_step HB.out hb)
  replace HXr := Lib.hid (HXr.out.below hb)
  replace HRr := Lib.hid (HRr.out.below hb)
  replace HXa := Lib.hid (HXa.out.below hb)
  replace HRa := Lib.hid (HRa.out.below hb)
  replace HXb := Lib.hid (HXb.out.below hb)
  replace HRb := Lib.hid (HRb.out.below hb)
  replace HXc := Lib.hid (HXc.out.below hb)
  replace HRc := Lib.hid (HRc.out.below hb)
  have HRd := Lib.hid (hr'.lower (Nat.zero_le _))
  clear hr hb0 hb hr' hld
  obtain ⟨qr0, qr1, qr2, qr3, qr4⟩ := HXr.out.cell
  go_wp2_with fail
  refine (HP.out _ HB.out HRr.out).mono ?_
  rintro e W7 ⟨rfl, hb⟩
  clear qr0 qr1 qr2 qr3 qr4
  replace HB := Lib.hid (below_step HB.out hb)
  replace HXr := Lib.hid (HXr.out.below hb)
  replace HRr := Lib.hid (HRr.out.below hb)
  replace HXa := Lib.hid (HXa.out.below hb)
  replace HRa := Lib.hid (HRa.out.below hb)
  replace HXb := Lib.hid (HXb.out.below hb)
  replace HRb := Lib.hid (HRb.out.below hb)
  replace HXc := Lib.hid (HXc.out.below hb)
  replace HRc := Lib.hid (HRc.out.below hb)
  replace HXd := Lib.hid (HXd.out.below hb)
  replace HRd := Lib.hid (HRd.out.below hb)
  clear hb
  obtain ⟨qr0, qr1, qr2, qr3, qr4⟩ := HXr.out.cell
  go_wp2_with fail
  refine (HP2.out _ HRr.out).mono ?_
  rintro e W8 ⟨rfl, hb⟩
  clear qr0 qr1 qr2 qr3 qr4
  replace HB := Lib.hid (below_step HB.out hb)
  replace HXr := Lib.hid (HXr.out.below hb)
  replace HRr := Lib.hid (HRr.out.below hb)
  replace HXa := Lib.hid (HXa.out.below hb)
  replace HRa := Lib.hid (HRa.out.below hb)
  replace HXb := Lib.hid (HXb.out.below hb)
  replace HRb := Lib.hid (HRb.out.below hb)
  replace HXc := Lib.hid (HXc.out.below hb)
  replace HRc := Lib.hid (HRc.out.below hb)
  replace HXd := Lib.hid (HXd.out.below hb)
  replace HRd := Lib.hid (HRd.out.below hb)
  clear hb
  go_wp2_with fail
  refine (HT.out _ HB.out).mono ?_
  rintro e W9 ⟨Au, cu, Bu, du, rfl, hr, hb0⟩
  obtain ⟨hb, hr'⟩ := boxed hb0 hr
  have HXu := Lib.hid (box_new W9 S3.1 (.slice Au S3.1.rs.length cu) (.slice Bu S3.1.ws.length du))
  have hlu := hb0.size
  replace HB := Lib.hid (below_step HB.out hb)
  replace HXr := Lib.hid (HXr.out.below hb)
  replace HRr := Lib.hid (HRr.out.below hb)
  replace HXa := Lib.hid (HXa.out.below hb)
  replace HRa := Lib.hid (HRa.out.below hb)
  replace HXb := Lib.hid (HXb.out.below hb)
  replace HRb := Lib.hid (HRb.out.below hb)
  replace HXc := Lib.hid (HXc.out.below hb)
  replace HRc := Lib.hid (HRc.out.below hb)
  replace HXd := Lib.hid (HXd.out.below hb)
  replace HRd := Lib.hid (HRd.out.below hb)
  have HRu := Lib.hid (hr'.lower (Nat.zero_le _))
  clear hr hb0 hb hr' hlu
  go_wp2_with fail
  refine (HT2.out _).mono ?_
  rintro e W10 ⟨Av, cv, Bv, dv, rfl, hr, hb0⟩
  obtain ⟨hb, hr'⟩ := boxed hb0 hr
  have HXv := Lib.hid (box_new W10 S3.1 (.slice Av S3.1.rs.length cv) (.slice Bv S3.1.ws.length dv))
  have hlv := hb0.size
  replace HB := Lib.hid (below_step HB.out hb)
  replace HXr := Lib.hid (HXr.out.below hb)
  replace HRr := Lib.hid (HRr.out.below hb)
  replace HXa := Lib.hid (HXa.out.below hb)
  replace HRa := Lib.hid (HRa.out.below hb)
  replace HXb := Lib.hid (HXb.out.below hb)
  replace HRb := Lib.hid (HRb.out.below hb)
  replace HXc := Lib.hid (HXc.out.below hb)
  replace HRc := Lib.hid (HRc.out.below hb)
  replace HXd := Lib.hid (HXd.out.below hb)
  replace HRd := Lib.hid (HRd.out.below hb)
  replace HXu := Lib.hid (HXu.out.below hb)
  replace HRu := Lib.hid (HRu.out.below hb)
  have HRv := Lib.hid (hr'.lower (Nat.zero_le _))
  clear hr hb0 hb hr' hlv
  go_wp2_with fail
  refine (HN.out _ HB.out).mono ?_
  rintro e W11 ⟨Ap, cp, Bp, dp, rfl, hr, hb0⟩
  obtain ⟨hb, hr'⟩ := boxed hb0 hr
  have HXp := Lib.hid (box_new W11 S4.1 (.slice Ap S4.1.rs.length cp) (.slice Bp S4.1.ws.length dp))
  have hlp := hb0.size
  replace HB := Lib.hid (below_step HB.out hb)
  replace HXr := Lib.hid (HXr.out.below hb)
  replace HRr := Lib.hid (HRr.out.below hb)
  replace HXa := Lib.hid (HXa.out.below hb)
  replace HRa := Lib.hid (HRa.out.below hb)
  replace HXb := Lib.hid (HXb.out.below hb)
  replace HRb := Lib.hid (HRb.out.below hb)
  replace HXc := Lib.hid (HXc.out.below hb)
  replace HRc := Lib.hid (HRc.out.below hb)
  replace HXd := Lib.hid (HXd.out.below hb)
  replace HRd := Lib.hid (HRd.out.below hb)
  replace HXu := Lib.hid (HXu.out.below hb)
  replace HRu := Lib.hid (HRu.out.below hb)
  replace HXv := Lib.hid (HXv.out.below hb)
  replace HRv := Lib.hid (HRv.out.below hb)
  have HRp := Lib.hid (hr'.lower (Nat.zero_le _))
  clear hr hb0 hb hr' hlp
  go_wp2_with fail
  refine (HN2.out _).mono ?_
  rintro e W12 ⟨Aq, cq, Bq, dq, rfl, hr, hb0⟩
  obtain ⟨hb, hr'⟩ := boxed hb0 hr
  have HXq := Lib.hid (box_new W12 S4.1 (.slice Aq S4.1.rs.length cq) (.slice Bq S4.1.ws.length dq))
  have hlq := hb0.size
  replace HB := Lib.hid (below_step HB.out hb)
  replace HXr := Lib.hid (HXr.out.below hb)
  replace HRr := Lib.hid (HRr.out.below hb)
  replace HXa := Lib.hid (HXa.out.below hb)
  replace HRa := Lib.hid (HRa.out.below hb)
  replace HXb := Lib.hid (HXb.out.below hb)
  replace HRb := Lib.hid (HRb.out.below hb)
  replace HXc := Lib.hid (HXc.out.below hb)
  replace HRc := Lib.hid (HRc.out.below hb)
  replace HXd := Lib.hid (HXd.out.below hb)
  replace HRd := Lib.hid (HRd.out.below hb)
  replace HXu := Lib.hid (HXu.out.below hb)
  replace HRu := Lib.hid (HRu.out.below hb)
  replace HXv := Lib.hid (HXv.out.below hb)
  replace HRv := Lib.hid (HRv.out.below hb)
  replace HXp := Lib.hid (HXp.out.below hb)
  replace HRp := Lib.hid (HRp.out.below hb)
  have HRq := Lib.hid (hr'.lower (Nat.zero_le _))
  clear hr hb0 hb hr' hlq
  obtain ⟨qa0, qa1, qa2, qa3, qa4⟩ := HXa.out.cell
  obtain ⟨qb0, qb1, qb2, qb3, qb4⟩ := HXb.out.cell
  go_wp2_with fail
  refine (HS1.out Aa ca Ba da Ab cb Bb db _ HRa.out HRb.out).mono ?_
  rintro e W13 ⟨rfl, hb⟩
  clear qa0 qa1 qa2 qa3 qa4 qb0 qb1 qb2 qb3 qb4
  replace HB := Lib.hid (below_step HB.out hb)
  replace HXr := Lib.hid (HXr.out.below hb)
  replace HRr := Lib.hid (HRr.out.below hb)
  replace HXa := Lib.hid (HXa.out.below hb)
  replace HRa := Lib.hid (HRa.out.below hb)
  replace HXb := Lib.hid (HXb.out.below hb)
  replace HRb := Lib.hid (HRb.out.below hb)
  replace HXc := Lib.hid (HXc.out.below hb)
  replace HRc := Lib.hid (HRc.out.below hb)
  replace HXd := Lib.hid (HXd.out.below hb)
  replace HRd := Lib.hid (HRd.out.below hb)
  replace HXu := Lib.hid (HXu.out.below hb)
  replace HRu := Lib.hid (HRu.out.below hb)
  replace HXv := Lib.hid (HXv.out.below hb)
  replace HRv := Lib.hid (HRv.out.below hb)
  replace HXp := Lib.hid (HXp.out.below hb)
  replace HRp := Lib.hid (HRp.out.below hb)
  replace HXq := Lib.hid (HXq.out.below hb)
  replace HRq := Lib.hid (HRq.out.below hb)
  clear hb
  obtain ⟨qc0, qc1, qc2, qc3, qc4⟩ := HXc.out.cell
  obtain ⟨qd0, qd1, qd2, qd3, qd4⟩ := HXd.out.cell
  go_wp2_with fail
  refine (HS2.out Ac cc Bc dc Ad cd Bd dd _ HRc.out HRd.out).mono ?_
  rintro e W14 ⟨rfl, hb⟩
  clear qc0 qc1 qc2 qc3 qc4 qd0 qd1 qd2 qd3 qd4
  replace HB := Lib.hid (below_step HB.out hb)
  replace HXr := Lib.hid (HXr.out.below hb)
  replace HRr := Lib.hid (HRr.out.below hb)
  replace HXa := Lib.hid (HXa.out.below hb)
  replace HRa := Lib.hid (HRa.out.below hb)
  replace HXb := Lib.hid (HXb.out.below hb)
  replace HRb := Lib.hid (HRb.out.below hb)
  replace HXc := Lib.hid (HXc.out.below hb)
  replace HRc := Lib.hid (HRc.out.below hb)
  replace HXd := Lib.hid (HXd.out.below hb)
  replace HRd := Lib.hid (HRd.out.below hb)
  replace HXu := Lib.hid (HXu.out.below hb)
  replace HRu := Lib.hid (HRu.out.below hb)
  replace HXv := Lib.hid (HXv.out.below hb)
  replace HRv := Lib.hid (HRv.out.below hb)
  replace HXp := Lib.hid (HXp.out.below hb)
  replace HRp := Lib.hid (HRp.out.below hb)
  replace HXq := Lib.hid (HXq.out.below hb)
  replace HRq := Lib.hid (HRq.out.below hb)
  clear hb
  clear HXa HXb HXc HXd HRa HRb HRc HRd
  go_wp2_with fail
  have hb : Below W14.heap.size W14 W14.drew := below_drew (Below.refl _ _)
  replace HB := Lib.hid (below_step HB.out hb)
  replace HXr := Lib.hid (HXr.out.below hb)
  replace HRr := Lib.hid (HRr.out.below hb)
  replace HXu := Lib.hid (HXu.out.below hb)
  replace HRu := Lib.hid (HRu.out.below hb)
  replace HXv := Lib.hid (HXv.out.below hb)
  replace HRv := Lib.hid (HRv.out.below hb)
  replace HXp := Lib.hid (HXp.out.below hb)
  replace HRp := Lib.hid (HRp.out.below hb)
  replace HXq := Lib.hid (HXq.out.below hb)
  replace HRq := Lib.hid (HRq.out.below hb)
  clear hb
  refine start_ (n := 40) (S := fun w' => w'.cell? ⟨W9.heap.size, 0, none⟩ = some (.string S3.1.o) ∧ w'.cell? ⟨W9.heap.size, 1, none⟩ = some (.string S3.1.f) ∧ w'.cell? ⟨W9.heap.size, 2, none⟩ = some (.int .i64 S3.1.e) ∧ w'.cell? ⟨W9.heap.size, 3, none⟩ = some (.slice Au S3.1.rs.length cu) ∧ w'.cell? ⟨W9.heap.size, 4, none⟩ = some (.slice Bu S3.1.ws.length du) ∧ w'.cell? ⟨W10.heap.size, 0, none⟩ = some (.string S3.1.o) ∧ w'.cell? ⟨W10.heap.size, 1, none⟩ = some (.string S3.1.f) ∧ w'.cell? ⟨W10.heap.size, 2, none⟩ = some (.int .i64 S3.1.e) ∧ w'.cell? ⟨W10.heap.size, 3, none⟩ = some (.slice Av S3.1.rs.length cv) ∧ w'.cell? ⟨W10.heap.size, 4, none⟩ = some (.slice Bv S3.1.ws.length dv) ∧ w'.cell? ⟨W11.heap.size, 0, none⟩ = some (.string S4.1.o) ∧ w'.cell? ⟨W11.heap.size, 1, none⟩ = some (.string S4.1.f) ∧ w'.cell? ⟨W11.heap.size, 2, none⟩ = some (.int .i64 S4.1.e) ∧ w'.cell? ⟨W11.heap.size, 3, none⟩ = some (.slice Ap S4.1.rs.length cp) ∧ w'.cell? ⟨W11.heap.size, 4, none⟩ = some (.slice Bp S4.1.ws.length dp) ∧ w'.cell? ⟨W12.heap.size, 0, none⟩ = some (.string S4.1.o) ∧ w'.cell? ⟨W12.heap.size, 1, none⟩ = some (.string S4.1.f) ∧ w'.cell? ⟨W12.heap.size, 2, none⟩ = some (.int .i64 S4.1.e) ∧ w'.cell? ⟨W12.heap.size, 3, none⟩ = some (.slice Aq S4.1.rs.length cq) ∧ w'.cell? ⟨W12.heap.size, 4, none⟩ = some (.slice Bq S4.1.ws.length dq) ∧ w'.cell? ⟨w.heap.size, 0, none⟩ = some (.string r.o) ∧ w'.cell? ⟨w.heap.size, 1, none⟩ = some (.string r.f) ∧ w'.cell? ⟨w.heap.size, 2, none⟩ = some (.int .i64 r.e) ∧ w'.cell? ⟨w.heap.size, 3, none⟩ = some (.slice Ar r.rs.length cr) ∧ w'.cell? ⟨w.heap.size, 4, none⟩ = some (.slice Br r.ws.length dr)) (ds := []) #[false, false, false, false, false, false, false, false, false, false, false, false, false, false, false, false, false, false, false, false, false, false, false, false, false, false, false, false, false, false, false, false, false, false, false, false, false, false, false, false] (by kernel_rfl) rfl rfl ⟨HXu.out.cell.1, HXu.out.cell.2.1, HXu.out.cell.2.2.1, HXu.out.cell.2.2.2.1, HXu.out.cell.2.2.2.2, HXv.out.cell.1, HXv.out.cell.2.1, HXv.out.cell.2.2.1, HXv.out.cell.2.2.2.1, HXv.out.cell.2.2.2.2, HXp.out.cell.1, HXp.out.cell.2.1, HXp.out.cell.2.2.1, HXp.out.cell.2.2.2.1, HXp.out.cell.2.2.2.2, HXq.out.cell.1, HXq.out.cell.2.1, HXq.out.cell.2.2.1, HXq.out.cell.2.2.2.1, HXq.out.cell.2.2.2.2, HXr.out.cell.1, HXr.out.cell.2.1, HXr.out.cell.2.2.1, HXr.out.cell.2.2.2.1, HXr.out.cell.2.2.2.2⟩ (fun hHeld => ?_)
  refine with_tabW rgTl.tab16 rgTl.bits16 (fun HT_ HW_ => ?_)
  refine pure_ (i := 0) (N := some 138) (v := ?_) (a' := ?_) #[true, false, false, false, false, false, false, false, false, false, false, false, false, false, false, false, false, false, false, false, false, false, false, false, false, false, false, false, false, false, false, false, false, false, false, false, false, false, false, false] rfl rfl (any_of HT_.out (by kernel_rfl)) (fun _ _ _ h => h) (Or.inl ⟨by rfl, ?_⟩) ?_ ?_
  rotate_left
  ·intro w'
   go_simp
   with_reducible rfl
  rotate_left
  ·simp only [Act.put, List.setIfInBounds_toArray, List.set_cons_zero, List.set_cons_succ, i64_w, i32_w]
   rfl
  refine pure_ (i := 1) (N := some 139) (v := ?_) (a' := ?_) #[true, true, false, false, false, false, false, false, false, false, false, false, false, false, false, false, false, false, false, false, false, false, false, false, false, false, false, false, false, false, false, false, false, false, false, false, false, false, false, false] rfl rfl (any_of HT_.out (by kernel_rfl)) (fun _ _ _ h => h) (Or.inl ⟨by rfl, ?_⟩) ?_ ?_
  rotate_left
  ·intro w'
   go_simp
   with_reducible rfl
  rotate_left
  ·simp only [Act.put, List.setIfInBounds_toArray, List.set_cons_zero, List.set_cons_succ, i64_w, i32_w]
   rfl
  refine take_ (i := 2) (N := some 140) (v := ?_) (a' := ?_) #[true, true, true, false, false, false, false, false, false, false, false, false, false, false, false, false, false, false, false, false, false, false, false, false, false, false, false, false, false, false, false, false, false, false, false, false, false, false, false, false] rfl rfl (take_ofW HT_.out HW_.out (by kernel_rfl)) (fun _ _ _ h => h) (Or.inl ⟨by rfl, ?_⟩) hHeld ?_ ?_
  rotate_left
  ·rintro w' ⟨s0, s1, s2, s3, s4, s5, s6, s7, s8, s9, s10, s11, s12, s13, s14, s15, s16, s17, s18, s19, s20, s21, s22, s23, s24⟩
   go_simp
   with_reducible rfl
  rotate_left
  ·simp only [Act.put, List.setIfInBounds_toArray, List.set_cons_zero, List.set_cons_succ, i64_w, i32_w]
   rfl
  refine take_ (i := 3) (N := some 141) (v := ?_) (a' := ?_) #[true, true, true, true, false, false, false, false, false, false, false, false, false, false, false, false, false, false, false, false, false, false, false, false, false, false, false, false, false, false, false, false, false, false, false, false, false, false, false, false] rfl rfl (take_ofW HT_.out HW_.out (by kernel_rfl)) (fun _ _ _ h => h) (Or.inl ⟨by rfl, ?_⟩) hHeld ?_ ?_
  rotate_left
  ·rintro w' ⟨s0, s1, s2, s3, s4, s5, s6, s7, s8, s9, s10, s11, s12, s13, s14, s15, s16, s17, s18, s19, s20, s21, s22, s23, s24⟩
   go_simp
   with_reducible rfl
  rotate_left
  ·simp only [Act.put, List.setIfInBounds_toArray, List.set_cons_zero, List.set_cons_succ, i64_w, i32_w]
   rfl
  refine one_ (i := 4) (N := some 142) #[true, true, true, true, true, false, false, false, false, false, false, false, false, false, false, false, false, false, false, false, false, false, false, false, false, false, false, false, false, false, false, false, false, false, false, false, false, false, false, false] rfl rfl (one_of HT_.out (by kernel_rfl)) (by decide) (fun K hK => ?_)
  refine goes_ Tryd.func20 (by kernel_rfl) rfl #[.agg #[.string S3.1.o, .string S3.1.f, .int .i64 S3.1.e, .slice Au S3.1.rs.length cu, .slice Bu S3.1.ws.length du], .agg #[.string S3.1.o, .string S3.1.f, .int .i64 S3.1.e, .slice Av S3.1.rs.length cv, .slice Bv S3.1.ws.length dv]] (by rfl) rfl rfl (by simp only [List.map_toArray, List.map_cons, List.map_nil]; rfl) ?_
  with_reducible refine (HS3.out Au cu Bu du Av cv Bv dv _ HRu.out HRv.out).mono ?_
  rintro e w9 ⟨rfl, hb⟩
  refine ⟨_, rfl, ?_⟩
  replace HB := Lib.hid (below_step HB.out hb)
  replace HXr := Lib.hid (HXr.out.below hb)
  replace HRr := Lib.hid (HRr.out.below hb)
  replace HXu := Lib.hid (HXu.out.below hb)
  replace HRu := Lib.hid (HRu.out.below hb)
  replace HXv := Lib.hid (HXv.out.below hb)
  replace HRv := Lib.hid (HRv.out.below hb)
  replace HXp := Lib.hid (HXp.out.below hb)
  replace HRp := Lib.hid (HRp.out.below hb)
  replace HXq := Lib.hid (HXq.out.below hb)
  replace HRq := Lib.hid (HRq.out.below hb)
  clear hb
  refine hK.out _ _ ⟨HXu.out.cell.1, HXu.out.cell.2.1, HXu.out.cell.2.2.1, HXu.out.cell.2.2.2.1, HXu.out.cell.2.2.2.2, HXv.out.cell.1, HXv.out.cell.2.1, HXv.out.cell.2.2.1, HXv.out.cell.2.2.2.1, HXv.out.cell.2.2.2.2, HXp.out.cell.1, HXp.out.cell.2.1, HXp.out.cell.2.2.1, HXp.out.cell.2.2.2.1, HXp.out.cell.2.2.2.2, HXq.out.cell.1, HXq.out.cell.2.1, HXq.out.cell.2.2.1, HXq.out.cell.2.2.2.1, HXq.out.cell.2.2.2.2, HXr.out.cell.1, HXr.out.cell.2.1, HXr.out.cell.2.2.1, HXr.out.cell.2.2.2.1, HXr.out.cell.2.2.2.2⟩ (fun hHeld => ?_)
  clear hK K
  refine norm_ (a' := ?_) ?_ ?_
  rotate_left
  ·show Act.put _ (some 142) _ = _
   simp only [Act.put, List.setIfInBounds_toArray, List.set_cons_zero, List.set_cons_succ, i64_w, i32_w]
   rfl
  refine pure_ (i := 5) (N := some 143) (v := ?_) (a' := ?_) #[true, true, true, true, true, true, false, false, false, false, false, false, false, false, false, false, false, false, false, false, false, false, false, false, false, false, false, false, false, false, false, false, false, false, false, false, false, false, false, false] rfl rfl (any_of HT_.out (by kernel_rfl)) (fun _ _ _ h => h) (Or.inl ⟨by rfl, ?_⟩) ?_ ?_
  rotate_left
  ·intro w'
   go_simp
   with_reducible rfl
  rotate_left
  ·simp only [Act.put, List.setIfInBounds_toArray, List.set_cons_zero, List.set_cons_succ, i64_w, i32_w]
   rfl
  refine pure_ (i := 6) (N := some 144) (v := ?_) (a' := ?_) #[true, true, true, true, true, true, true, false, false, false, false, false, false, false, false, false, false, false, false, false, false, false, false, false, false, false, false, false, false, false, false, false, false, false, false, false, false, false, false, false] rfl rfl (any_of HT_.out (by kernel_rfl)) (fun _ _ _ h => h) (Or.inl ⟨by rfl, ?_⟩) ?_ ?_
  rotate_left
  ·intro w'
   go_simp
   with_reducible rfl
  rotate_left
  ·simp only [Act.put, List.setIfInBounds_toArray, List.set_cons_zero, List.set_cons_succ, i64_w, i32_w]
   rfl
  refine pure_ (i := 7) (N := some 145) (v := ?_) (a' := ?_) #[true, true, true, true, true, true, true, true, false, false, false, false, false, false, false, false, false, false, false, false, false, false, false, false, false, false, false, false, false, false, false, false, false, false, false, false, false, false, false, false] rfl rfl (any_of HT_.out (by kernel_rfl)) (fun _ _ _ h => h) (Or.inl ⟨by rfl, ?_⟩) ?_ ?_
  rotate_left
  ·intro w'
   go_simp
   with_reducible rfl
  rotate_left
  ·simp only [Act.put, List.setIfInBounds_toArray, List.set_cons_zero, List.set_cons_succ, i64_w, i32_w]
   rfl
  refine pure_ (i := 8) (N := some 146) (v := ?_) (a' := ?_) #[true, true, true, true, true, true, true, true, true, false, false, false, false, false, false, false, false, false, false, false, false, false, false, false, false, false, false, false, false, false, false, false, false, false, false, false, false, false, false, false] rfl rfl (any_of HT_.out (by kernel_rfl)) (fun _ _ _ h => h) (Or.inl ⟨by rfl, ?_⟩) ?_ ?_
  rotate_left
  ·intro w'
   go_simp
   with_reducible rfl
  rotate_left
  ·simp only [Act.put, List.setIfInBounds_toArray, List.set_cons_zero, List.set_cons_succ, i64_w, i32_w]
   rfl
  refine pure_ (i := 9) (N := some 147) (v := ?_) (a' := ?_) #[true, true, true, true, true, true, true, true, true, true, false, false, false, false, false, false, false, false, false, false, false, false, false, false, false, false, false, false, false, false, false, false, false, false, false, false, false, false, false, false] rfl rfl (any_of HT_.out (by kernel_rfl)) (fun _ _ _ h => h) (Or.inl ⟨by rfl, ?_⟩) ?_ ?_
  rotate_left
  ·intro w'
   go_simp
   with_reducible rfl
  rotate_left
  ·simp only [Act.put, List.setIfInBounds_toArray, List.set_cons_zero, List.set_cons_succ, i64_w, i32_w]
   rfl
  refine pure_ (i := 10) (N := some 148) (v := ?_) (a' := ?_) #[true, true, true, true, true, true, true, true, true, true, true, false, false, false, false, false, false, false, false, false, false, false, false, false, false, false, false, false, false, false, false, false, false, false, false, false, false, false, false, false] rfl rfl (any_of HT_.out (by kernel_rfl)) (fun _ _ _ h => h) (Or.inl ⟨by rfl, ?_⟩) ?_ ?_
  rotate_left
  ·intro w'
   go_simp
   with_reducible rfl
  rotate_left
  ·simp only [Act.put, List.setIfInBounds_toArray, List.set_cons_zero, List.set_cons_succ, i64_w, i32_w]
   rfl
  refine pure_ (i := 11) (N := some 149) (v := ?_) (a' := ?_) #[true, true, true, true, true, true, true, true, true, true, true, true, false, false, false, false, false, false, false, false, false, false, false, false, false, false, false, false, false, false, false, false, false, false, false, false, false, false, false, false] rfl rfl (any_of HT_.out (by kernel_rfl)) (fun _ _ _ h => h) (Or.inl ⟨by rfl, ?_⟩) ?_ ?_
  rotate_left
  ·intro w'
   go_simp
   with_reducible rfl
  rotate_left
  ·simp only [Act.put, List.setIfInBounds_toArray, List.set_cons_zero, List.set_cons_succ, i64_w, i32_w]
   rfl
  refine take_ (i := 12) (N := some 150) (v := ?_) (a' := ?_) #[true, true, true, true, true, true, true, true, true, true, true, true, true, false, false, false, false, false, false, false, false, false, false, false, false, false, false, false, false, false, false, false, false, false, false, false, false, false, false, false] rfl rfl (take_ofW HT_.out HW_.out (by kernel_rfl)) (fun _ _ _ h => h) (Or.inl ⟨by rfl, ?_⟩) hHeld ?_ ?_
  rotate_left
  ·rintro w' ⟨s0, s1, s2, s3, s4, s5, s6, s7, s8, s9, s10, s11, s12, s13, s14, s15, s16, s17, s18, s19, s20, s21, s22, s23, s24⟩
   go_simp
   with_reducible rfl
  rotate_left
  ·simp only [Act.put, List.setIfInBounds_toArray, List.set_cons_zero, List.set_cons_succ, i64_w, i32_w]
   rfl
  refine take_ (i := 13) (N := some 151) (v := ?_) (a' := ?_) #[true, true, true, true, true, true, true, true, true, true, true, true, true, true, false, false, false, false, false, false, false, false, false, false, false, false, false, false, false, false, false, false, false, false, false, false, false, false, false, false] rfl rfl (take_ofW HT_.out HW_.out (by kernel_rfl)) (fun _ _ _ h => h) (Or.inl ⟨by rfl, ?_⟩) hHeld ?_ ?_
  rotate_left
  ·rintro w' ⟨s0, s1, s2, s3, s4, s5, s6, s7, s8, s9, s10, s11, s12, s13, s14, s15, s16, s17, s18, s19, s20, s21, s22, s23, s24⟩
   go_simp
   with_reducible rfl
  rotate_left
  ·simp only [Act.put, List.setIfInBounds_toArray, List.set_cons_zero, List.set_cons_succ, i64_w, i32_w]
   rfl
  refine one_ (i := 14) (N := some 152) #[true, true, true, true, true, true, true, true, true, true, true, true, true, true, true, false, false, false, false, false, false, false, false, false, false, false, false, false, false, false, false, false, false, false, false, false, false, false, false, false] rfl rfl (one_of HT_.out (by kernel_rfl)) (by decide) (fun K hK => ?_)
  refine goes_ Tryd.func20 (by kernel_rfl) rfl #[.agg #[.string S4.1.o, .string S4.1.f, .int .i64 S4.1.e, .slice Ap S4.1.rs.length cp, .slice Bp S4.1.ws.length dp], .agg #[.string S4.1.o, .string S4.1.f, .int .i64 S4.1.e, .slice Aq S4.1.rs.length cq, .slice Bq S4.1.ws.length dq]] (by rfl) rfl rfl (by simp only [List.map_toArray, List.map_cons, List.map_nil]; rfl) ?_
  with_reducible refine (HS4.out Ap cp Bp dp Aq cq Bq dq _ HRp.out HRq.out).mono ?_
  rintro e w9 ⟨rfl, hb⟩
  refine ⟨_, rfl, ?_⟩
  replace HB := Lib.hid (below_step HB.out hb)
  replace HXr := Lib.hid (HXr.out.below hb)
  replace HRr := Lib.hid (HRr.out.below hb)
  replace HXu := Lib.hid (HXu.out.below hb)
  replace HRu := Lib.hid (HRu.out.below hb)
  replace HXv := Lib.hid (HXv.out.below hb)
  replace HRv := Lib.hid (HRv.out.below hb)
  replace HXp := Lib.hid (HXp.out.below hb)
  replace HRp := Lib.hid (HRp.out.below hb)
  replace HXq := Lib.hid (HXq.out.below hb)
  replace HRq := Lib.hid (HRq.out.below hb)
  clear hb
  refine hK.out _ _ ⟨HXu.out.cell.1, HXu.out.cell.2.1, HXu.out.cell.2.2.1, HXu.out.cell.2.2.2.1, HXu.out.cell.2.2.2.2, HXv.out.cell.1, HXv.out.cell.2.1, HXv.out.cell.2.2.1, HXv.out.cell.2.2.2.1, HXv.out.cell.2.2.2.2, HXp.out.cell.1, HXp.out.cell.2.1, HXp.out.cell.2.2.1, HXp.out.cell.2.2.2.1, HXp.out.cell.2.2.2.2, HXq.out.cell.1, HXq.out.cell.2.1, HXq.out.cell.2.2.1, HXq.out.cell.2.2.2.1, HXq.out.cell.2.2.2.2, HXr.out.cell.1, HXr.out.cell.2.1, HXr.out.cell.2.2.1, HXr.out.cell.2.2.2.1, HXr.out.cell.2.2.2.2⟩ (fun hHeld => ?_)
  clear hK K
  refine norm_ (a' := ?_) ?_ ?_
  rotate_left
  ·show Act.put _ (some 152) _ = _
   simp only [Act.put, List.setIfInBounds_toArray, List.set_cons_zero, List.set_cons_succ, i64_w, i32_w]
   rfl
  refine pure_ (i := 15) (N := some 153) (v := ?_) (a' := ?_) #[true, true, true, true, true, true, true, true, true, true, true, true, true, true, true, true, false, false, false, false, false, false, false, false, false, false, false, false, false, false, false, false, false, false, false, false, false, false, false, false] rfl rfl (any_of HT_.out (by kernel_rfl)) (fun _ _ _ h => h) (Or.inl ⟨by rfl, ?_⟩) ?_ ?_
  rotate_left
  ·intro w'
   go_simp
   with_reducible rfl
  rotate_left
  ·simp only [Act.put, List.setIfInBounds_toArray, List.set_cons_zero, List.set_cons_succ, i64_w, i32_w]
   rfl
  refine pure_ (i := 16) (N := some 154) (v := ?_) (a' := ?_) #[true, true, true, true, true, true, true, true, true, true, true, true, true, true, true, true, true, false, false, false, false, false, false, false, false, false, false, false, false, false, false, false, false, false, false, false, false, false, false, false] rfl rfl (any_of HT_.out (by kernel_rfl)) (fun _ _ _ h => h) (Or.inl ⟨by rfl, ?_⟩) ?_ ?_
  rotate_left
  ·intro w'
   go_simp
   with_reducible rfl
  rotate_left
  ·simp only [Act.put, List.setIfInBounds_toArray, List.set_cons_zero, List.set_cons_succ, i64_w, i32_w]
   rfl
  refine pure_ (i := 17) (N := some 155) (v := ?_) (a' := ?_) #[true, true, true, true, true, true, true, true, true, true, true, true, true, true, true, true, true, true, false, false, false, false, false, false, false, false, false, false, false, false, false, false, false, false, false, false, false, false, false, false] rfl rfl (any_of HT_.out (by kernel_rfl)) (fun _ _ _ h => h) (Or.inl ⟨by rfl, ?_⟩) ?_ ?_
  rotate_left
  ·intro w'
   go_simp
   with_reducible rfl
  rotate_left
  ·simp only [Act.put, List.setIfInBounds_toArray, List.set_cons_zero, List.set_cons_succ, i64_w, i32_w]
   rfl
  refine pure_ (i := 18) (N := some 156) (v := ?_) (a' := ?_) #[true, true, true, true, true, true, true, true, true, true, true, true, true, true, true, true, true, true, true, false, false, false, false, false, false, false, false, false, false, false, false, false, false, false, false, false, false, false, false, false] rfl rfl (any_of HT_.out (by kernel_rfl)) (fun _ _ _ h => h) (Or.inl ⟨by rfl, ?_⟩) ?_ ?_
  rotate_left
  ·intro w'
   go_simp
   with_reducible rfl
  rotate_left
  ·simp only [Act.put, List.setIfInBounds_toArray, List.set_cons_zero, List.set_cons_succ, i64_w, i32_w]
   rfl
  refine pure_ (i := 19) (N := some 157) (v := ?_) (a' := ?_) #[true, true, true, true, true, true, true, true, true, true, true, true, true, true, true, true, true, true, true, true, false, false, false, false, false, false, false, false, false, false, false, false, false, false, false, false, false, false, false, false] rfl rfl (any_of HT_.out (by kernel_rfl)) (fun _ _ _ h => h) (Or.inl ⟨by rfl, ?_⟩) ?_ ?_
  rotate_left
  ·intro w'
   go_simp
   with_reducible rfl
  rotate_left
  ·simp only [Act.put, List.setIfInBounds_toArray, List.set_cons_zero, List.set_cons_succ, i64_w, i32_w]
   rfl
  refine pure_ (i := 20) (N := some 158) (v := ?_) (a' := ?_) #[true, true, true, true, true, true, true, true, true, true, true, true, true, true, true, true, true, true, true, true, true, false, false, false, false, false, false, false, false, false, false, false, false, false, false, false, false, false, false, false] rfl rfl (any_of HT_.out (by kernel_rfl)) (fun _ _ _ h => h) (Or.inl ⟨by rfl, ?_⟩) ?_ ?_
  rotate_left
  ·intro w'
   go_simp
   with_reducible rfl
  rotate_left
  ·simp only [Act.put, List.setIfInBounds_toArray, List.set_cons_zero, List.set_cons_succ, i64_w, i32_w]
   rfl
  refine pure_ (i := 21) (N := some 159) (v := ?_) (a' := ?_) #[true, true, true, true, true, true, true, true, true, true, true, true, true, true, true, true, true, true, true, true, true, true, false, false, false, false, false, false, false, false, false, false, false, false, false, false, false, false, false, false] rfl rfl (any_of HT_.out (by kernel_rfl)) (fun _ _ _ h => h) (Or.inl ⟨by rfl, ?_⟩) ?_ ?_
  rotate_left
  ·intro w'
   go_simp
   with_reducible rfl
  rotate_left
  ·simp only [Act.put, List.setIfInBounds_toArray, List.set_cons_zero, List.set_cons_succ, i64_w, i32_w]
   rfl
  refine take_ (i := 22) (N := some 160) (v := ?_) (a' := ?_) #[true, true, true, true, true, true, true, true, true, true, true, true, true, true, true, true, true, true, true, true, true, true, true, false, false, false, false, false, false, false, false, false, false, false, false, false, false, false, false, false] rfl rfl (take_ofW HT_.out HW_.out (by kernel_rfl)) (fun _ _ _ h => h) (Or.inl ⟨by rfl, ?_⟩) hHeld ?_ ?_
  rotate_left
  ·rintro w' ⟨s0, s1, s2, s3, s4, s5, s6, s7, s8, s9, s10, s11, s12, s13, s14, s15, s16, s17, s18, s19, s20, s21, s22, s23, s24⟩
   go_simp
   with_reducible rfl
  rotate_left
  ·simp only [Act.put, List.setIfInBounds_toArray, List.set_cons_zero, List.set_cons_succ, i64_w, i32_w]
   rfl
  refine take_ (i := 24) (N := some 162) (v := ?_) (a' := ?_) #[true, true, true, true, true, true, true, true, true, true, true, true, true, true, true, true, true, true, true, true, true, true, true, false, true, false, false, false, false, false, false, false, false, false, false, false, false, false, false, false] rfl rfl (take_ofW HT_.out HW_.out (by kernel_rfl)) (fun _ _ _ h => h) (Or.inl ⟨by rfl, ?_⟩) hHeld ?_ ?_
  rotate_left
  ·rintro w' ⟨s0, s1, s2, s3, s4, s5, s6, s7, s8, s9, s10, s11, s12, s13, s14, s15, s16, s17, s18, s19, s20, s21, s22, s23, s24⟩
   go_simp
   with_reducible rfl
  rotate_left
  ·simp only [Act.put, List.setIfInBounds_toArray, List.set_cons_zero, List.set_cons_succ, i64_w, i32_w]
   rfl
  refine one_ (i := 23) (N := some 161) #[true, true, true, true, true, true, true, true, true, true, true, true, true, true, true, true, true, true, true, true, true, true, true, true, true, false, false, false, false, false, false, false, false, false, false, false, false, false, false, false] rfl rfl (one_of HT_.out (by kernel_rfl)) (by decide) (fun K hK => ?_)
  refine goes_ Tryd.func17 (by kernel_rfl) rfl #[.agg #[.string r.o, .string r.f, .int .i64 r.e, .slice Ar r.rs.length cr, .slice Br r.ws.length dr]] (by rfl) rfl rfl (by simp only [List.map_toArray, List.map_cons, List.map_nil]; rfl) ?_
  with_reducible refine (HR1.out _ HB.out HRr.out).mono ?_
  rintro e w9 ⟨rfl, hb⟩
  refine ⟨_, rfl, ?_⟩
  replace HB := Lib.hid (below_step HB.out hb)
  replace HXr := Lib.hid (HXr.out.below hb)
  replace HRr := Lib.hid (HRr.out.below hb)
  replace HXu := Lib.hid (HXu.out.below hb)
  replace HRu := Lib.hid (HRu.out.below hb)
  replace HXv := Lib.hid (HXv.out.below hb)
  replace HRv := Lib.hid (HRv.out.below hb)
  replace HXp := Lib.hid (HXp.out.below hb)
  replace HRp := Lib.hid (HRp.out.below hb)
  replace HXq := Lib.hid (HXq.out.below hb)
  replace HRq := Lib.hid (HRq.out.below hb)
  clear hb
  refine hK.out _ _ ⟨HXu.out.cell.1, HXu.out.cell.2.1, HXu.out.cell.2.2.1, HXu.out.cell.2.2.2.1, HXu.out.cell.2.2.2.2, HXv.out.cell.1, HXv.out.cell.2.1, HXv.out.cell.2.2.1, HXv.out.cell.2.2.2.1, HXv.out.cell.2.2.2.2, HXp.out.cell.1, HXp.out.cell.2.1, HXp.out.cell.2.2.1, HXp.out.cell.2.2.2.1, HXp.out.cell.2.2.2.2, HXq.out.cell.1, HXq.out.cell.2.1, HXq.out.cell.2.2.1, HXq.out.cell.2.2.2.1, HXq.out.cell.2.2.2.2, HXr.out.cell.1, HXr.out.cell.2.1, HXr.out.cell.2.2.1, HXr.out.cell.2.2.2.1, HXr.out.cell.2.2.2.2⟩ (fun hHeld => ?_)
  clear hK K
  refine norm_ (a' := ?_) ?_ ?_
  rotate_left
  ·show Act.put _ (some 161) _ = _
   simp only [Act.put, List.setIfInBounds_toArray, List.set_cons_zero, List.set_cons_succ, i64_w, i32_w]
   rfl
  refine one_ (i := 25) (N := some 163) #[true, true, true, true, true, true, true, true, true, true, true, true, true, true, true, true, true, true, true, true, true, true, true, true, true, true, false, false, false, false, false, false, false, false, false, false, false, false, false, false] rfl rfl (one_of HT_.out (by kernel_rfl)) (by decide) (fun K hK => ?_)
  refine goes_ Tryd.func29 (by kernel_rfl) rfl #[.agg #[.string r.o, .string r.f, .int .i64 r.e, .slice Ar r.rs.length cr, .slice Br r.ws.length dr]] (by rfl) rfl rfl (by simp only [List.map_toArray, List.map_cons, List.map_nil]; rfl) ?_
  with_reducible refine (HR2.out _ HRr.out).mono ?_
  rintro e w9 ⟨rfl, hb⟩
  refine ⟨_, rfl, ?_⟩
  replace HB := Lib.hid (below_step HB.out hb)
  replace HXr := Lib.hid (HXr.out.below hb)
  replace HRr := Lib.hid (HRr.out.below hb)
  replace HXu := Lib.hid (HXu.out.below hb)
  replace HRu := Lib.hid (HRu.out.below hb)
  replace HXv := Lib.hid (HXv.out.below hb)
  replace HRv := Lib.hid (HRv.out.below hb)
  replace HXp := Lib.hid (HXp.out.below hb)
  replace HRp := Lib.hid (HRp.out.below hb)
  replace HXq := Lib.hid (HXq.out.below hb)
  replace HRq := Lib.hid (HRq.out.below hb)
  clear hb
  refine hK.out _ _ ⟨HXu.out.cell.1, HXu.out.cell.2.1, HXu.out.cell.2.2.1, HXu.out.cell.2.2.2.1, HXu.out.cell.2.2.2.2, HXv.out.cell.1, HXv.out.cell.2.1, HXv.out.cell.2.2.1, HXv.out.cell.2.2.2.1, HXv.out.cell.2.2.2.2, HXp.out.cell.1, HXp.out.cell.2.1, HXp.out.cell.2.2.1, HXp.out.cell.2.2.2.1, HXp.out.cell.2.2.2.2, HXq.out.cell.1, HXq.out.cell.2.1, HXq.out.cell.2.2.1, HXq.out.cell.2.2.2.1, HXq.out.cell.2.2.2.2, HXr.out.cell.1, HXr.out.cell.2.1, HXr.out.cell.2.2.1, HXr.out.cell.2.2.2.1, HXr.out.cell.2.2.2.2⟩ (fun hHeld => ?_)
  clear hK K
  refine norm_ (a' := ?_) ?_ ?_
  rotate_left
  ·show Act.put _ (some 163) _ = _
   simp only [Act.put, List.setIfInBounds_toArray, List.set_cons_zero, List.set_cons_succ, i64_w, i32_w]
   rfl
  refine pure_ (i := 26) (N := some 164) (v := ?_) (a' := ?_) #[true, true, true, true, true, true, true, true, true, true, true, true, true, true, true, true, true, true, true, true, true, true, true, true, true, true, true, false, false, false, false, false, false, false, false, false, false, false, false, false] rfl rfl (any_of HT_.out (by kernel_rfl)) (fun _ _ _ h => h) (Or.inl ⟨by rfl, ?_⟩) ?_ ?_
  rotate_left
  ·intro w'
   go_simp
   with_reducible rfl
  rotate_left
  ·simp only [Act.put, List.setIfInBounds_toArray, List.set_cons_zero, List.set_cons_succ, i64_w, i32_w]
   rfl
  refine pure_ (i := 27) (N := some 165) (v := ?_) (a' := ?_) #[true, true, true, true, true, true, true, true, true, true, true, true, true, true, true, true, true, true, true, true, true, true, true, true, true, true, true, true, false, false, false, false, false, false, false, false, false, false, false, false] rfl rfl (any_of HT_.out (by kernel_rfl)) (fun _ _ _ h => h) (Or.inl ⟨by rfl, ?_⟩) ?_ ?_
  rotate_left
  ·intro w'
   go_simp
   with_reducible rfl
  rotate_left
  ·simp only [Act.put, List.setIfInBounds_toArray, List.set_cons_zero, List.set_cons_succ, i64_w, i32_w]
   rfl
  refine pure_ (i := 28) (N := some 166) (v := ?_) (a' := ?_) #[true, true, true, true, true, true, true, true, true, true, true, true, true, true, true, true, true, true, true, true, true, true, true, true, true, true, true, true, true, false, false, false, false, false, false, false, false, false, false, false] rfl rfl (any_of HT_.out (by kernel_rfl)) (fun _ _ _ h => h) (Or.inl ⟨by rfl, ?_⟩) ?_ ?_
  rotate_left
  ·intro w'
   go_simp
   with_reducible rfl
  rotate_left
  ·simp only [Act.put, List.setIfInBounds_toArray, List.set_cons_zero, List.set_cons_succ, i64_w, i32_w]
   rfl
  refine pure_ (i := 30) (N := some 168) (v := ?_) (a' := ?_) #[true, true, true, true, true, true, true, true, true, true, true, true, true, true, true, true, true, true, true, true, true, true, true, true, true, true, true, true, true, false, true, false, false, false, false, false, false, false, false, false] rfl rfl (any_of HT_.out (by kernel_rfl)) (fun _ _ _ h => h) (Or.inl ⟨by rfl, ?_⟩) ?_ ?_
  rotate_left
  ·intro w'
   go_simp
   with_reducible rfl
  rotate_left
  ·simp only [Act.put, List.setIfInBounds_toArray, List.set_cons_zero, List.set_cons_succ, i64_w, i32_w]
   rfl
  refine pure_ (i := 31) (N := some 169) (v := ?_) (a' := ?_) #[true, true, true, true, true, true, true, true, true, true, true, true, true, true, true, true, true, true, true, true, true, true, true, true, true, true, true, true, true, false, true, true, false, false, false, false, false, false, false, false] rfl rfl (any_of HT_.out (by kernel_rfl)) (fun _ _ _ h => h) (Or.inl ⟨by rfl, ?_⟩) ?_ ?_
  rotate_left
  ·intro w'
   go_simp
   with_reducible rfl
  rotate_left
  ·simp only [Act.put, List.setIfInBounds_toArray, List.set_cons_zero, List.set_cons_succ, i64_w, i32_w]
   rfl
  refine pure_ (i := 34) (N := some 172) (v := ?_) (a' := ?_) #[true, true, true, true, true, true, true, true, true, true, true, true, true, true, true, true, true, true, true, true, true, true, true, true, true, true, true, true, true, false, true, true, false, false, true, false, false, false, false, false] rfl rfl (any_of HT_.out (by kernel_rfl)) (fun _ _ _ h => h) (Or.inl ⟨by rfl, ?_⟩) ?_ ?_
  rotate_left
  ·intro w'
   go_simp
   with_reducible rfl
  rotate_left
  ·simp only [Act.put, List.setIfInBounds_toArray, List.set_cons_zero, List.set_cons_succ, i64_w, i32_w]
   rfl
  refine pure_ (i := 35) (N := some 173) (v := ?_) (a' := ?_) #[true, true, true, true, true, true, true, true, true, true, true, true, true, true, true, true, true, true, true, true, true, true, true, true, true, true, true, true, true, false, true, true, false, false, true, true, false, false, false, false] rfl rfl (any_of HT_.out (by kernel_rfl)) (fun _ _ _ h => h) (Or.inl ⟨by rfl, ?_⟩) ?_ ?_
  rotate_left
  ·intro w'
   go_simp
   with_reducible rfl
  rotate_left
  ·simp only [Act.put, List.setIfInBounds_toArray, List.set_cons_zero, List.set_cons_succ, i64_w, i32_w]
   rfl
  refine take_ (i := 29) (N := some 167) (v := ?_) (a' := ?_) #[true, true, true, true, true, true, true, true, true, true, true, true, true, true, true, true, true, true, true, true, true, true, true, true, true, true, true, true, true, true, true, true, false, false, true, true, false, false, false, false] rfl rfl (take_ofW HT_.out HW_.out (by kernel_rfl)) (fun _ _ _ h => h) (Or.inl ⟨by rfl, ?_⟩) hHeld ?_ ?_
  rotate_left
  ·rintro w' ⟨s0, s1, s2, s3, s4, s5, s6, s7, s8, s9, s10, s11, s12, s13, s14, s15, s16, s17, s18, s19, s20, s21, s22, s23, s24⟩
   go_simp
   with_reducible rfl
  rotate_left
  ·simp only [Act.put, List.setIfInBounds_toArray, List.set_cons_zero, List.set_cons_succ, i64_w, i32_w]
   rfl
  refine take_ (i := 33) (N := some 171) (v := ?_) (a' := ?_) #[true, true, true, true, true, true, true, true, true, true, true, true, true, true, true, true, true, true, true, true, true, true, true, true, true, true, true, true, true, true, true, true, false, true, true, true, false, false, false, false] rfl rfl (take_ofW HT_.out HW_.out (by kernel_rfl)) (fun _ _ _ h => h) (Or.inl ⟨by rfl, ?_⟩) hHeld ?_ ?_
  rotate_left
  ·rintro w' ⟨s0, s1, s2, s3, s4, s5, s6, s7, s8, s9, s10, s11, s12, s13, s14, s15, s16, s17, s18, s19, s20, s21, s22, s23, s24⟩
   go_simp
   with_reducible rfl
  rotate_left
  ·simp only [Act.put, List.setIfInBounds_toArray, List.set_cons_zero, List.set_cons_succ, i64_w, i32_w]
   rfl
  refine one_ (i := 32) (N := some 170) #[true, true, true, true, true, true, true, true, true, true, true, true, true, true, true, true, true, true, true, true, true, true, true, true, true, true, true, true, true, true, true, true, true, true, true, true, false, false, false, false] rfl rfl (one_of HT_.out (by kernel_rfl)) (by decide) (fun K hK => ?_)
  refine goes_ Tryd.func16 (by kernel_rfl) rfl #[.agg #[.string r.o, .string r.f, .int .i64 r.e, .slice Ar r.rs.length cr, .slice Br r.ws.length dr], .string user, .bool write] (by rfl) rfl rfl (by simp only [List.map_toArray, List.map_cons, List.map_nil]; rfl) ?_
  with_reducible refine (HK1.out _ HB.out HRr.out).mono ?_
  rintro e w9 ⟨rfl, hb⟩
  refine ⟨_, rfl, ?_⟩
  replace HB := Lib.hid (below_step HB.out hb)
  replace HXr := Lib.hid (HXr.out.below hb)
  replace HRr := Lib.hid (HRr.out.below hb)
  replace HXu := Lib.hid (HXu.out.below hb)
  replace HRu := Lib.hid (HRu.out.below hb)
  replace HXv := Lib.hid (HXv.out.below hb)
  replace HRv := Lib.hid (HRv.out.below hb)
  replace HXp := Lib.hid (HXp.out.below hb)
  replace HRp := Lib.hid (HRp.out.below hb)
  replace HXq := Lib.hid (HXq.out.below hb)
  replace HRq := Lib.hid (HRq.out.below hb)
  clear hb
  refine hK.out _ _ ⟨HXu.out.cell.1, HXu.out.cell.2.1, HXu.out.cell.2.2.1, HXu.out.cell.2.2.2.1, HXu.out.cell.2.2.2.2, HXv.out.cell.1, HXv.out.cell.2.1, HXv.out.cell.2.2.1, HXv.out.cell.2.2.2.1, HXv.out.cell.2.2.2.2, HXp.out.cell.1, HXp.out.cell.2.1, HXp.out.cell.2.2.1, HXp.out.cell.2.2.2.1, HXp.out.cell.2.2.2.2, HXq.out.cell.1, HXq.out.cell.2.1, HXq.out.cell.2.2.1, HXq.out.cell.2.2.2.1, HXq.out.cell.2.2.2.2, HXr.out.cell.1, HXr.out.cell.2.1, HXr.out.cell.2.2.1, HXr.out.cell.2.2.2.1, HXr.out.cell.2.2.2.2⟩ (fun hHeld => ?_)
  clear hK K
  refine norm_ (a' := ?_) ?_ ?_
  rotate_left
  ·show Act.put _ (some 170) _ = _
   simp only [Act.put, List.setIfInBounds_toArray, List.set_cons_zero, List.set_cons_succ, i64_w, i32_w]
   rfl
  refine one_ (i := 36) (N := some 174) #[true, true, true, true, true, true, true, true, true, true, true, true, true, true, true, true, true, true, true, true, true, true, true, true, true, true, true, true, true, true, true, true, true, true, true, true, true, false, false, false] rfl rfl (one_of HT_.out (by kernel_rfl)) (by decide) (fun K hK => ?_)
  refine goes_ Tryd.func30 (by kernel_rfl) rfl #[.agg #[.string r.o, .string r.f, .int .i64 r.e, .slice Ar r.rs.length cr, .slice Br r.ws.length dr], .string user, .bool write] (by rfl) rfl rfl (by simp only [List.map_toArray, List.map_cons, List.map_nil]; rfl) ?_
  with_reducible refine (HK2.out _ HRr.out).mono ?_
  rintro e w9 ⟨rfl, hb⟩
  refine ⟨_, rfl, ?_⟩
  replace HB := Lib.hid (below_step HB.out hb)
  replace HXr := Lib.hid (HXr.out.below hb)
  replace HRr := Lib.hid (HRr.out.below hb)
  replace HXu := Lib.hid (HXu.out.below hb)
  replace HRu := Lib.hid (HRu.out.below hb)
  replace HXv := Lib.hid (HXv.out.below hb)
  replace HRv := Lib.hid (HRv.out.below hb)
  replace HXp := Lib.hid (HXp.out.below hb)
  replace HRp := Lib.hid (HRp.out.below hb)
  replace HXq := Lib.hid (HXq.out.below hb)
  replace HRq := Lib.hid (HRq.out.below hb)
  clear hb
  refine hK.out _ _ ⟨HXu.out.cell.1, HXu.out.cell.2.1, HXu.out.cell.2.2.1, HXu.out.cell.2.2.2.1, HXu.out.cell.2.2.2.2, HXv.out.cell.1, HXv.out.cell.2.1, HXv.out.cell.2.2.1, HXv.out.cell.2.2.2.1, HXv.out.cell.2.2.2.2, HXp.out.cell.1, HXp.out.cell.2.1, HXp.out.cell.2.2.1, HXp.out.cell.2.2.2.1, HXp.out.cell.2.2.2.2, HXq.out.cell.1, HXq.out.cell.2.1, HXq.out.cell.2.2.1, HXq.out.cell.2.2.2.1, HXq.out.cell.2.2.2.2, HXr.out.cell.1, HXr.out.cell.2.1, HXr.out.cell.2.2.1, HXr.out.cell.2.2.2.1, HXr.out.cell.2.2.2.2⟩ (fun hHeld => ?_)
  clear hK K
  refine norm_ (a' := ?_) ?_ ?_
  rotate_left
  ·show Act.put _ (some 174) _ = _
   simp only [Act.put, List.setIfInBounds_toArray, List.set_cons_zero, List.set_cons_succ, i64_w, i32_w]
   rfl
  refine pure_ (i := 37) (N := some 175) (v := ?_) (a' := ?_) #[true, true, true, true, true, true, true, true, true, true, true, true, true, true, true, true, true, true, true, true, true, true, true, true, true, true, true, true, true, true, true, true, true, true, true, true, true, true, false, false] rfl rfl (any_of HT_.out (by kernel_rfl)) (fun _ _ _ h => h) (Or.inl ⟨by rfl, ?_⟩) ?_ ?_
  rotate_left
  ·intro w'
   go_simp
   with_reducible rfl
  rotate_left
  ·simp only [Act.put, List.setIfInBounds_toArray, List.set_cons_zero, List.set_cons_succ, i64_w, i32_w]
   rfl
  refine pure_ (i := 38) (N := some 176) (v := ?_) (a' := ?_) #[true, true, true, true, true, true, true, true, true, true, true, true, true, true, true, true, true, true, true, true, true, true, true, true, true, true, true, true, true, true, true, true, true, true, true, true, true, true, true, false] rfl rfl (any_of HT_.out (by kernel_rfl)) (fun _ _ _ h => h) (Or.inl ⟨by rfl, ?_⟩) ?_ ?_
  rotate_left
  ·intro w'
   go_simp
   with_reducible rfl
  rotate_left
  ·simp only [Act.put, List.setIfInBounds_toArray, List.set_cons_zero, List.set_cons_succ, i64_w, i32_w]
   rfl
  refine pure_ (i := 39) (N := some 8) (v := ?_) (a' := ?_) #[true, true, true, true, true, true, true, true, true, true, true, true, true, true, true, true, true, true, true, true, true, true, true, true, true, true, true, true, true, true, true, true, true, true, true, true, true, true, true, true] rfl rfl (any_of HT_.out (by kernel_rfl)) (fun _ _ _ h => h) (Or.inl ⟨by rfl, ?_⟩) ?_ ?_
  rotate_left
  ·intro w'
   go_simp
   with_reducible rfl
  rotate_left
  ·simp only [Act.put, List.setIfInBounds_toArray, List.set_cons_zero, List.set_cons_succ, i64_w, i32_w]
   rfl
  refine done_ (done_of HT_.out (by kernel_rfl)) ?_
  go_wp2
  go_ret
  exact ⟨rfl, HB.out⟩
end Go.Proofs.YtfhanoloaejmkaaDoor
end
