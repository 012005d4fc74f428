/- Contracts and laws that the statement of LawRightsUndo,LawRightsBack,LawRightsErrs leans on (packed from this claim's own texts): part 21. -/
import Derived.LoopTactic
import Derived.Test.YtfhanoloaejmkaaDoorQM20
section

namespace Go.Proofs.YtfhanoloaejmkaaDoor
open Go.RowKit Go.Proofs.YtfhanoloaejmkaaDoorW.PrintWords Go.Proofs.YtfhanoloaejmkaaDoorW.PrintLast Go.Proofs.YtfhanoloaejmkaaDoor.Ref
set_option linter.unusedVariables false
set_option linter.unusedSimpArgs false
def rgUn.T18 : Bool × List (List Nat × List Nat) := (true, [([], []), ([], []), ([1], [1]), ([0, 2, 2], [0, 2]), ([], []), ([], []), ([5, 3], [5]), ([4, 6, 6], [4, 6]), ([3, 7], [3, 7]), ([8, 7], [8]), ([9], [9]), ([9], [9]), ([11, 9, 9], [9, 11]), ([10, 12, 12, 9], [9, 10, 12]), ([9], [9]), ([9], [9]), ([15, 13, 9], [9, 15]), ([14, 16, 16, 9], [9, 14, 16]), ([13, 17, 9], [9, 13, 17]), ([9, 18], [9, 18])])
def rgUn.B18 : List Nat := [0, 0, 2, 7, 0, 0, 47, 127, 255, 511, 1023, 1023, 3071, 8191, 1023, 1023, 49151, 131071, 262143, 524287]
theorem rgUn.tab18 : rtab .any (opsOf Tryd.f4 18) = rgUn.T18 := by kernel_rfl
theorem rgUn.bits18 : waitsOk rgUn.T18.2 rgUn.B18 = true := by kernel_rfl
set_option maxHeartbeats 8000000 in
set_option maxRecDepth 100000 in
theorem undo_any (A : Option Addr) (c : Nat) (l : List (Int × Int)) (user : Int) (x : Bool) (w : World) (HTB : Aside0 (Tabs w)) (hr : Kd.C actK w A l.length l) (g : l.length ≤ 9223372036854775807 ∧ ∀ a ∈ l, (Lit.int .i64 a.1).wf = true ∧ (Lit.int .i64 a.2).wf = true) (hu0 : (Lit.int .i64 user).wf = true) :
  Calls Tryd.prog 4 #[.slice A l.length c, .int .i64 user, .bool x] w fun e w' => e = .returned (.bool true) ∧ Below w.heap.size w w' := by
 have H1 := Lib.hid (shown_call w HTB)
 have hU := i64_wf hu0
 obtain ⟨r, hr0⟩ : ∃ r, doneF l = r := ⟨_, rfl⟩
 have HD := Lib.hid (done_at hr c g.1 (acts_ok g.2) hr0)
 have HG : Hid (Good7 r) := Lib.hid (hr0 ▸ good_done l)
 have HWu := Lib.hid (fun W => who_call user W hU)
 have hu := who_good user
 generalize whoF user = u at HWu hu
 have HU := Lib.hid hu
 clear hr0 hU hu0 hr g hu
 go_enter Tryd.func4, Tryd.ntmps4
 have HB := Lib.hid (Below.refl w.heap.size w)
 go_wp2_with fail
 refine (H1.out).mono ?_
 rintro e W1 ⟨rfl, hb⟩
 replace HB := Lib.hid (below_step HB.out hb)
 clear hb
 go_wp2_with fail
 refine (HD.out _ HB.out).mono ?_
 rintro e W2 ⟨Ar, cr, Br, dr, rfl, hr, hb0⟩
 obtain ⟨hb, hr'⟩ := boxed hb0 hr
 have HXr := Lib.hid (box_new W2 r (.slice Ar r.rs.length cr) (.slice Br r.ws.length dr))
 have hlr := hb0.size
 replace HB := Lib.hid (below_step HB.out hb)
 have HRr := Lib.hid (hr'.lower (Nat.zero_le _))
 clear hr hb0 hb hr' hlr
 go_wp2_with fail
 refine (HWu.out _).mono ?_
 rintro e W3 ⟨rfl, hb⟩
 replace HB := Lib.hid (below_step HB.out hb)
 replace HXr := Lib.hid (HXr.out.below hb)
 replace HRr := Lib.hid (HRr.out.below hb)
 clear hb
 cases hc : canF r u false with
 | true =>
  have HGS := Lib.hid (fun A c A' c' => grant_at HTB (right_small HG.out.1) (name_small HU.out) x (show grantF r u x = (noRt, 5) by rw [grant_cases HG.out.1 HU.out, if_pos hc]) A c A' c')
  have HCN := Lib.hid (fun A c A' c' => can_at HTB (right_small HG.out.1) u false hc A c A' c')
  clear hc
  obtain ⟨qr0, qr1, qr2, qr3, qr4⟩ := HXr.out.cell
  go_wp2_with fail
  refine (HGS.out Ar cr Br dr _ HB.out HRr.out).mono ?_
  rintro e W4 ⟨As, cs, Bs, ds, rfl, hr, hb0⟩
  clear qr0 qr1 qr2 qr3 qr4
  obtain ⟨hb, hr'⟩ := boxed hb0 hr
  have HXs := Lib.hid (box_new W4 noRt (.slice As noRt.rs.length cs) (.slice Bs noRt.ws.length ds))
  have hls := hb0.size
  replace HB := Lib.hid (below_step HB.out hb)
  replace HXr := Lib.hid (HXr.out.below hb)
  replace HRr := Lib.hid (HRr.out.below hb)
  have HRs := Lib.hid (hr'.lower (Nat.zero_le _))
  clear hr hb0 hb hr' hls
  obtain ⟨qr0, qr1, qr2, qr3, qr4⟩ := HXr.out.cell
  go_wp2_with fail
  refine (HCN.out Ar cr Br dr _ HB.out HRr.out).mono ?_
  rintro e W5 ⟨rfl, hb⟩
  clear qr0 qr1 qr2 qr3 qr4
  replace HB := Lib.hid (below_step HB.out hb)
  replace HXr := Lib.hid (HXr.out.below hb)
  replace HRr := Lib.hid (HRr.out.below hb)
  replace HXs := Lib.hid (HXs.out.below hb)
  replace HRs := Lib.hid (HRs.out.below hb)
  clear hb
  go_wp2
  go_ret
  exact ⟨rfl, HB.out⟩
 | false =>
  by_cases h5 : 5 ≤ r.rs.length + r.ws.length
  ·have h5' : r.rs.length + r.ws.length = 5 := by have := (right_parts HG.out.1).2.2.2.1; omega
   have h5i : ((r.rs.length : Int) + (r.ws.length : Int) == 5) = true := by rw [beq_iff_eq]; omega
   have HGS := Lib.hid (fun A c A' c' => grant_at HTB (right_small HG.out.1) (name_small HU.out) x (show grantF r u x = (noRt, 10) by rw [grant_cases HG.out.1 HU.out, if_neg (by rw [hc]; simp), if_pos h5]) A c A' c')
   have HCN := Lib.hid (fun A c A' c' => can_at HTB (right_small HG.out.1) u false hc A c A' c')
   clear hc h5
   obtain ⟨qr0, qr1, qr2, qr3, qr4⟩ := HXr.out.cell
   go_wp2_with fail
   refine (HGS.out Ar cr Br dr _ HB.out HRr.out).mono ?_
   rintro e W4 ⟨As, cs, Bs, ds, rfl, hr, hb0⟩
   clear qr0 qr1 qr2 qr3 qr4
   obtain ⟨hb, hr'⟩ := boxed hb0 hr
   have HXs := Lib.hid (box_new W4 noRt (.slice As noRt.rs.length cs) (.slice Bs noRt.ws.length ds))
   have hls := hb0.size
   replace HB := Lib.hid (below_step HB.out hb)
   replace HXr := Lib.hid (HXr.out.below hb)
   replace HRr := Lib.hid (HRr.out.below hb)
   have HRs := Lib.hid (hr'.lower (Nat.zero_le _))
   clear hr hb0 hb hr' hls
   obtain ⟨qr0, qr1, qr2, qr3, qr4⟩ := HXr.out.cell
   go_wp2_with fail
   refine (HCN.out Ar cr Br dr _ HB.out HRr.out).mono ?_
   rintro e W5 ⟨rfl, hb⟩
   clear qr0 qr1 qr2 qr3 qr4
   replace HB := Lib.hid (below_step HB.out hb)
   replace HXr := Lib.hid (HXr.out.below hb)
   replace HRr := Lib.hid (HRr.out.below hb)
   replace HXs := Lib.hid (HXs.out.below hb)
   replace HRs := Lib.hid (HRs.out.below hb)
   clear hb
   go_wp2
   go_ret
   exact ⟨rfl, HB.out⟩
  ·obtain ⟨S, eS, rS, cS1, cS2, hS7, hS⟩ := undo_law HG.out.1 HU.out x hc (by omega)
   have HGS := Lib.hid (fun A c A' c' => grant_at HTB (right_small HG.out.1) (name_small HU.out) x eS A c A' c')
   have he0 : 0 ≤ r.e := (right_parts HG.out.1).2.2.1.1
   have he1 : r.e ≤ 7 := (right_parts HG.out.1).2.2.1.2
   clear hc h5
   obtain ⟨qr0, qr1, qr2, qr3, qr4⟩ := HXr.out.cell
   go_wp2_with fail
   refine (HGS.out Ar cr Br dr _ HB.out HRr.out).mono ?_
   rintro e W4 ⟨As, cs, Bs, ds, rfl, hr, hb0⟩
   clear qr0 qr1 qr2 qr3 qr4
   obtain ⟨hb, hr'⟩ := boxed hb0 hr
   have HXs := Lib.hid (box_new W4 S (.slice As S.rs.length cs) (.slice Bs S.ws.length ds))
   have hls := hb0.size
   replace HB := Lib.hid (below_step HB.out hb)
   replace HXr := Lib.hid (HXr.out.below hb)
   replace HRr := Lib.hid (HRr.out.below hb)
   have HRs := Lib.hid (hr'.lower (Nat.zero_le _))
   clear hr hb0 hb hr' hls
   by_cases h7 : r.e = 7
   ·have HRV := Lib.hid (fun A c A' c' => revoke_at HTB (right_small rS) (name_small HU.out) (hS7 h7) A c A' c')
    have e7 : (r.e == 7) = true := by rw [h7]; rfl
    clear hS hS7 h7 he0 he1 cS1 cS2 rS eS
    obtain ⟨qs0, qs1, qs2, qs3, qs4⟩ := HXs.out.cell
    go_wp2_with fail
    refine (HRV.out As cs Bs ds _ HB.out HRs.out).mono ?_
    rintro e W5 ⟨At, ct, Bt, dt, rfl, hr, hb0⟩
    clear qs0 qs1 qs2 qs3 qs4
    obtain ⟨hb, hr'⟩ := boxed hb0 hr
    have HXt := Lib.hid (box_new W5 noRt (.slice At noRt.rs.length ct) (.slice Bt noRt.ws.length dt))
    have hlt := hb0.size
    replace HB := Lib.hid (below_step HB.out hb)
    replace HXr := Lib.hid (HXr.out.below hb)
    replace HRr := Lib.hid (HRr.out.below hb)
    replace HXs := Lib.hid (HXs.out.below hb)
    replace HRs := Lib.hid (HRs.out.below hb)
    have HRt := Lib.hid (hr'.lower (Nat.zero_le _))
    clear hr hb0 hb hr' hlt
    obtain ⟨qr0, qr1, qr2, qr3, qr4⟩ := HXr.out.cell
    go_wp2
    go_ret
    exact ⟨rfl, HB.out⟩
   ·obtain ⟨T, V, eT, eV, rT, rV, iT, iV, l1, l2, hcan, c1, c2, c3⟩ := hS h7
    have HRV := Lib.hid (fun A c A' c' => revoke_at HTB (right_small rS) (name_small HU.out) eT A c A' c')
    have HGV := Lib.hid (fun A c A' c' => grant_at HTB (right_small rT) (name_small HU.out) (!x) eV A c A' c')
    have HC1 := Lib.hid (fun A c A' c' => can_at HTB (right_small rS) u x cS1 A c A' c')
    have HC2 := Lib.hid (fun A c A' c' => can_at HTB (right_small rS) u true cS2 A c A' c')
    have HC3 := Lib.hid (fun A c A' c' => can_at HTB (right_small rT) u false c1 A c A' c')
    have HC4 := Lib.hid (fun A c A' c' => can_at HTB (right_small rV) u false c2 A c A' c')
    have HC5 := Lib.hid (fun A c A' c' => can_at HTB (right_small rV) u true c3 A c A' c')
    have HCr := Lib.hid (fun (v : ByteArray) (b : Bool) A c A' c' => can_at HTB (right_small HG.out.1) v b rfl A c A' c')
    have HCt := Lib.hid (fun (v : ByteArray) (b : Bool) A c A' c' => can_at HTB (right_small rT) v b (hcan v b) A c A' c')
    have e7 : (r.e == 7) = false := by rw [beq_eq_false_iff_ne]; exact h7
    have t1 : (T.e != r.e + 1) = false := by rw [iT]; simp
    have t2 : (V.e != T.e) = false := by rw [iV]; simp
    have t3 : ((T.rs.length : Int) != (r.rs.length : Int)) = false := by rw [l1]; simp
    have t4 : ((T.ws.length : Int) != (r.ws.length : Int)) = false := by rw [l2]; simp
    clear hS hS7 h7 cS1 cS2 rS eS eT eV rT rV iT iV l1 l2 hcan c1 c2 c3
    obtain ⟨qs0, qs1, qs2, qs3, qs4⟩ := HXs.out.cell
    go_wp2_with fail
    refine (HRV.out As cs Bs ds _ HB.out HRs.out).mono ?_
    rintro e W5 ⟨At, ct, Bt, dt, rfl, hr, hb0⟩
    clear qs0 qs1 qs2 qs3 qs4
    obtain ⟨hb, hr'⟩ := boxed hb0 hr
    have HXt := Lib.hid (box_new W5 T (.slice At T.rs.length ct) (.slice Bt T.ws.length dt))
    have hlt := hb0.size
    replace HB := Lib.hid (below_step HB.out hb)
    replace HXr := Lib.hid (HXr.out.below hb)
    replace HRr := Lib.hid (HRr.out.below hb)
    replace HXs := Lib.hid (HXs.out.below hb)
    replace HRs := Lib.hid (HRs.out.below hb)
    have HRt := Lib.hid (hr'.lower (Nat.zero_le _))
    clear hr hb0 hb hr' hlt
    obtain ⟨qt0, qt1, qt2, qt3, qt4⟩ := HXt.out.cell
    obtain ⟨qr0, qr1, qr2, qr3, qr4⟩ := HXr.out.cell
    go_wp2_with fail
    refine (HGV.out At ct Bt dt _ HB.out HRt.out).mono ?_
    rintro e W6 ⟨Av, cv, Bv, dv, rfl, hr, hb0⟩
    clear qt0 qt1 qt2 qt3 qt4 qr0 qr1 qr2 qr3 qr4
    obtain ⟨hb, hr'⟩ := boxed hb0 hr
    have HXv := Lib.hid (box_new W6 V (.slice Av V.rs.length cv) (.slice Bv V.ws.length dv))
    have hlv := hb0.size
    replace HB := Lib.hid (below_step HB.out hb)
    replace HXr := Lib.hid (HXr.out.below hb)
    replace HRr := Lib.hid (HRr.out.below hb)
    replace HXs := Lib.hid (HXs.out.below hb)
    replace HRs := Lib.hid (HRs.out.below hb)
    replace HXt := Lib.hid (HXt.out.below hb)
    replace HRt := Lib.hid (HRt.out.below hb)
    have HRv := Lib.hid (hr'.lower (Nat.zero_le _))
    clear hr hb0 hb hr' hlv
    obtain ⟨qr0, qr1, qr2, qr3, qr4⟩ := HXr.out.cell
    obtain ⟨qt0, qt1, qt2, qt3, qt4⟩ := HXt.out.cell
    obtain ⟨qv0, qv1, qv2, qv3, qv4⟩ := HXv.out.cell
    go_wp2_with fail
    clear qr0 qr1 qr2 qr3 qr4 qt0 qt1 qt2 qt3 qt4 qv0 qv1 qv2 qv3 qv4
    clear e7 t1 t2 t3 t4 he0 he1
    generalize W2.heap.size = Pr at HXr ⊢
    generalize W4.heap.size = Ps at HXs ⊢
    generalize W5.heap.size = Pt at HXt ⊢
    generalize W6.heap.size = Pv at HXv ⊢
    go_loopw [16] (fun j wr => ∃ i : Nat, i ≤ 8 ∧ j = .int .i64 i ∧ Below w.heap.size w wr ∧ BoxAt wr Pr r (.slice Ar r.rs.length cr) (.slice Br r.ws.length dr) ∧ BoxAt wr Ps S (.slice As S.rs.length cs) (.slice Bs S.ws.length ds) ∧ BoxAt wr Pt T (.slice At T.rs.length ct) (.slice Bt T.ws.length dt) ∧ BoxAt wr Pv V (.slice Av V.rs.length cv) (.slice Bv V.ws.length dv) ∧ RowsAt wr 0 r Ar cr Br dr ∧ RowsAt wr 0 S As cs Bs ds ∧ RowsAt wr 0 T At ct Bt dt ∧ RowsAt wr 0 V Av cv Bv dv) (fun j _ => 8 - (intOf j).toNat)
    case atStart => exact ⟨0, Nat.zero_le _, rfl, HB.out, HXr.out, HXs.out, HXt.out, HXv.out, HRr.out, HRs.out, HRt.out, HRv.out⟩
    case round =>
     clear HB HXr HXs HXt HXv HRr HRs HRt HRv
     obtain ⟨i, hi, rfl, hB, hXr, hXs, hXt, hXv, hRr, hRs, hRt, hRv⟩ := hrel
     have HB := Lib.hid hB
     clear hB
     have HXr := Lib.hid hXr
     clear hXr
     have HXs := Lib.hid hXs
     clear hXs
     have HXt := Lib.hid hXt
     clear hXt
     have HXv := Lib.hid hXv
     clear hXv
     have HRr := Lib.hid hRr
     clear hRr
     have HRs := Lib.hid hRs
     clear hRs
     have HRt := Lib.hid hRt
     clear hRt
     have HRv := Lib.hid hRv
     clear hRv
     by_cases hi8 : i < 8
     ·have HWi := Lib.hid (fun W => who_call (i : Int) W ⟨by omega, by omega⟩)
      obtain ⟨z, hz⟩ : ∃ z, whoF (i : Int) = z := ⟨_, rfl⟩
      rw [hz] at HWi
      clear hz
      have HKtf := Lib.hid (HCt.out z false At ct Bt dt)
      have HKtt := Lib.hid (HCt.out z true At ct Bt dt)
      have HKrf := Lib.hid (HCr.out z false Ar cr Br dr)
      have HKrt := Lib.hid (HCr.out z true Ar cr Br dr)
      generalize canF r z false = b1 at HKtf HKrf
      generalize canF r z true = b2 at HKtt HKrt
      go_wp2_with fail
      have hb : Below wr.heap.size wr wr.drew := below_drew (Below.refl _ _)
      replace HB := Lib.hid (below_step HB.out hb)
      replace HXr := Lib.hid (HXr.out.below hb)
      replace HRr := Lib.hid (HRr.out.below hb)
      replace HXs := Lib.hid (HXs.out.below hb)
      replace HRs := Lib.hid (HRs.out.below hb)
      replace HXt := Lib.hid (HXt.out.below hb)
      replace HRt := Lib.hid (HRt.out.below hb)
      replace HXv := Lib.hid (HXv.out.below hb)
      replace HRv := Lib.hid (HRv.out.below hb)
      clear hb
      refine start_ (n := 20) (S := fun w' => w'.cell? ⟨Pt, 0, none⟩ = some (.string T.o) ∧ w'.cell? ⟨Pt, 1, none⟩ = some (.string T.f) ∧ w'.cell? ⟨Pt, 2, none⟩ = some (.int .i64 T.e) ∧ w'.cell? ⟨Pt, 3, none⟩ = some (.slice At T.rs.length ct) ∧ w'.cell? ⟨Pt, 4, none⟩ = some (.slice Bt T.ws.length dt) ∧ w'.cell? ⟨Pr, 0, none⟩ = some (.string r.o) ∧ w'.cell? ⟨Pr, 1, none⟩ = some (.string r.f) ∧ w'.cell? ⟨Pr, 2, none⟩ = some (.int .i64 r.e) ∧ w'.cell? ⟨Pr, 3, none⟩ = some (.slice Ar r.rs.length cr) ∧ w'.cell? ⟨Pr, 4, none⟩ = some (.slice Br r.ws.length dr)) (ds := []) #[false, false, false, false, false, false, false, false, false, false, false, false, false, false, false, false, false, false, false, false] (by kernel_rfl) rfl rfl ⟨HXt.out.cell.1, HXt.out.cell.2.1, HXt.out.cell.2.2.1, HXt.out.cell.2.2.2.1, HXt.out.cell.2.2.2.2, HXr.out.cell.1, HXr.out.cell.2.1, HXr.out.cell.2.2.1, HXr.out.cell.2.2.2.1, HXr.out.cell.2.2.2.2⟩ (fun hHeld => ?_)
      refine with_tabW rgUn.tab18 rgUn.bits18 (fun HT_ HW_ => ?_)
      refine pure_ (i := 1) (N := some 123) (v := ?_) (a' := ?_) #[false, true, false, false, false, false, false, false, false, false, false, false, false, false, false, false, false, false, false, false] rfl rfl (any_of HT_.out (by kernel_rfl)) (fun _ _ _ h => h) (Or.inl ⟨by rfl, ?_⟩) ?_ ?_
      rotate_left
      ·intro w'
       go_simp
       with_reducible rfl
      rotate_left
      ·simp only [Act.put, List.setIfInBounds_toArray, List.set_cons_zero, List.set_cons_succ, i64_w, i32_w]
       rfl
      refine pure_ (i := 5) (N := some 127) (v := ?_) (a' := ?_) #[false, true, false, false, false, true, false, false, false, false, false, false, false, false, false, false, false, false, false, false] rfl rfl (any_of HT_.out (by kernel_rfl)) (fun _ _ _ h => h) (Or.inl ⟨by rfl, ?_⟩) ?_ ?_
      rotate_left
      ·intro w'
       go_simp
       with_reducible rfl
      rotate_left
      ·simp only [Act.put, List.setIfInBounds_toArray, List.set_cons_zero, List.set_cons_succ, i64_w, i32_w]
       rfl
      refine take_ (i := 0) (N := some 122) (v := ?_) (a' := ?_) #[true, true, false, false, false, true, false, false, false, false, false, false, false, false, false, false, false, false, false, false] rfl rfl (take_ofW HT_.out HW_.out (by kernel_rfl)) (fun _ _ _ h => h) (Or.inl ⟨by rfl, ?_⟩) hHeld ?_ ?_
      rotate_left
      ·rintro w' ⟨s0, s1, s2, s3, s4, s5, s6, s7, s8, s9⟩
       go_simp
       with_reducible rfl
      rotate_left
      ·simp only [Act.put, List.setIfInBounds_toArray, List.set_cons_zero, List.set_cons_succ, i64_w, i32_w]
       rfl
      refine take_ (i := 4) (N := some 126) (v := ?_) (a' := ?_) #[true, true, false, false, true, true, false, false, false, false, false, false, false, false, false, false, false, false, false, false] rfl rfl (take_ofW HT_.out HW_.out (by kernel_rfl)) (fun _ _ _ h => h) (Or.inl ⟨by rfl, ?_⟩) hHeld ?_ ?_
      rotate_left
      ·rintro w' ⟨s0, s1, s2, s3, s4, s5, s6, s7, s8, s9⟩
       go_simp
       with_reducible rfl
      rotate_left
      ·simp only [Act.put, List.setIfInBounds_toArray, List.set_cons_zero, List.set_cons_succ, i64_w, i32_w]
       rfl
      refine one_ (i := 2) (N := some 124) #[true, true, true, false, true, true, false, false, false, false, false, false, false, false, false, false, false, false, false, false] rfl rfl (one_of HT_.out (by kernel_rfl)) (by decide) (fun K hK => ?_)
      refine goes_ Tryd.func12 (by kernel_rfl) rfl #[.int .i64 (i : Int)] (by rfl) rfl rfl (by simp only [List.map_toArray, List.map_cons, List.map_nil]; rfl) ?_
      with_reducible refine (HWi.out _).mono ?_
      rintro e w9 ⟨rfl, hb⟩
      refine ⟨_, rfl, ?_⟩
      replace HB := Lib.hid (below_step HB.out hb)
      replace HXr := Lib.hid (HXr.out.below hb)
      replace HRr := Lib.hid (HRr.out.below hb)
      replace HXs := Lib.hid (HXs.out.below hb)
      replace HRs := Lib.hid (HRs.out.below hb)
      replace HXt := Lib.hid (HXt.out.below hb)
      replace HRt := Lib.hid (HRt.out.below hb)
      replace HXv := Lib.hid (HXv.out.below hb)
      replace HRv := Lib.hid (HRv.out.below hb)
      clear hb
      refine hK.out _ _ ⟨HXt.out.cell.1, HXt.out.cell.2.1, HXt.out.cell.2.2.1, HXt.out.cell.2.2.2.1, HXt.out.cell.2.2.2.2, HXr.out.cell.1, HXr.out.cell.2.1, HXr.out.cell.2.2.1, HXr.out.cell.2.2.2.1, HXr.out.cell.2.2.2.2⟩ (fun hHeld => ?_)
      clear hK K
      refine norm_ (a' := ?_) ?_ ?_
      rotate_left
      ·show Act.put _ (some 124) _ = _
       simp only [Act.put, List.setIfInBounds_toArray, List.set_cons_zero, List.set_cons_succ, i64_w, i32_w]
       rfl
      refine one_ (i := 3) (N := some 125) #[true, true, true, true, true, true, false, false, false, false, false, false, false, false, false, false, false, false, false, false] rfl rfl (one_of HT_.out (by kernel_rfl)) (by decide) (fun K hK => ?_)
      refine goes_ Tryd.func16 (by kernel_rfl) rfl #[.agg #[.string T.o, .string T.f, .int .i64 T.e, .slice At T.rs.length ct, .slice Bt T.ws.length dt], .string z, .bool false] (by rfl) rfl rfl (by simp only [List.map_toArray, List.map_cons, List.map_nil]; rfl) ?_
      with_reducible refine (HKtf.out _ HB.out HRt.out).mono ?_
      rintro e w9 ⟨rfl, hb⟩
      refine ⟨_, rfl, ?_⟩
      replace HB := Lib.hid (below_step HB.out hb)
      replace HXr := Lib.hid (HXr.out.below hb)
      replace HRr := Lib.hid (HRr.out.below hb)
      replace HXs := Lib.hid (HXs.out.below hb)
      replace HRs := Lib.hid (HRs.out.below hb)
      replace HXt := Lib.hid (HXt.out.below hb)
      replace HRt := Lib.hid (HRt.out.below hb)
      replace HXv := Lib.hid (HXv.out.below hb)
      replace HRv := Lib.hid (HRv.out.below hb)
      clear hb
      refine hK.out _ _ ⟨HXt.out.cell.1, HXt.out.cell.2.1, HXt.out.cell.2.2.1, HXt.out.cell.2.2.2.1, HXt.out.cell.2.2.2.2, HXr.out.cell.1, HXr.out.cell.2.1, HXr.out.cell.2.2.1, HXr.out.cell.2.2.2.1, HXr.out.cell.2.2.2.2⟩ (fun hHeld => ?_)
      clear hK K
      refine norm_ (a' := ?_) ?_ ?_
      rotate_left
      ·show Act.put _ (some 125) _ = _
       simp only [Act.put, List.setIfInBounds_toArray, List.set_cons_zero, List.set_cons_succ, i64_w, i32_w]
       rfl
      refine one_ (i := 6) (N := some 128) #[true, true, true, true, true, true, true, false, false, false, false, false, false, false, false, false, false, false, false, false] rfl rfl (one_of HT_.out (by kernel_rfl)) (by decide) (fun K hK => ?_)
      refine goes_ Tryd.func12 (by kernel_rfl) rfl #[.int .i64 (i : Int)] (by rfl) rfl rfl (by simp only [List.map_toArray, List.map_cons, List.map_nil]; rfl) ?_
      with_reducible refine (HWi.out _).mono ?_
      rintro e w9 ⟨rfl, hb⟩
      refine ⟨_, rfl, ?_⟩
      replace HB := Lib.hid (below_step HB.out hb)
      replace HXr := Lib.hid (HXr.out.below hb)
      replace HRr := Lib.hid (HRr.out.below hb)
      replace HXs := Lib.hid (HXs.out.below hb)
      replace HRs := Lib.hid (HRs.out.below hb)
      replace HXt := Lib.hid (HXt.out.below hb)
      replace HRt := Lib.hid (HRt.out.below hb)
      replace HXv := Lib.hid (HXv.out.below hb)
      replace HRv := Lib.hid (HRv.out.below hb)
      clear hb
      refine hK.out _ _ ⟨HXt.out.cell.1, HXt.out.cell.2.1, HXt.out.cell.2.2.1, HXt.out.cell.2.2.2.1, HXt.out.cell.2.2.2.2, HXr.out.cell.1, HXr.out.cell.2.1, HXr.out.cell.2.2.1, HXr.out.cell.2.2.2.1, HXr.out.cell.2.2.2.2⟩ (fun hHeld => ?_)
      clear hK K
      refine norm_ (a' := ?_) ?_ ?_
      rotate_left
      ·show Act.put _ (some 128) _ = _
       simp only [Act.put, List.setIfInBounds_toArray, List.set_cons_zero, List.set_cons_succ, i64_w, i32_w]
       rfl
      refine one_ (i := 7) (N := some 129) #[true, true, true, true, true, true, true, true, false, false, false, false, false, false, false, false, false, false, false, false] rfl rfl (one_of HT_.out (by kernel_rfl)) (by decide) (fun K hK => ?_)
      refine goes_ Tryd.func16 (by kernel_rfl) rfl #[.agg #[.string r.o, .string r.f, .int .i64 r.e, .slice Ar r.rs.length cr, .slice Br r.ws.length dr], .string z, .bool false] (by rfl) rfl rfl (by simp only [List.map_toArray, List.map_cons, List.map_nil]; rfl) ?_
      with_reducible refine (HKrf.out _ HB.out HRr.out).mono ?_
      rintro e w9 ⟨rfl, hb⟩
      refine ⟨_, rfl, ?_⟩
      replace HB := Lib.hid (below_step HB.out hb)
      replace HXr := Lib.hid (HXr.out.below hb)
      replace HRr := Lib.hid (HRr.out.below hb)
      replace HXs := Lib.hid (HXs.out.below hb)
      replace HRs := Lib.hid (HRs.out.below hb)
      replace HXt := Lib.hid (HXt.out.below hb)
      replace HRt := Lib.hid (HRt.out.below hb)
      replace HXv := Lib.hid (HXv.out.below hb)
      replace HRv := Lib.hid (HRv.out.below hb)
      clear hb
      refine hK.out _ _ ⟨HXt.out.cell.1, HXt.out.cell.2.1, HXt.out.cell.2.2.1, HXt.out.cell.2.2.2.1, HXt.out.cell.2.2.2.2, HXr.out.cell.1, HXr.out.cell.2.1, HXr.out.cell.2.2.1, HXr.out.cell.2.2.2.1, HXr.out.cell.2.2.2.2⟩ (fun hHeld => ?_)
      clear hK K
      refine norm_ (a' := ?_) ?_ ?_
      rotate_left
      ·show Act.put _ (some 129) _ = _
       simp only [Act.put, List.setIfInBounds_toArray, List.set_cons_zero, List.set_cons_succ, i64_w, i32_w]
       rfl
      refine pure_ (i := 8) (N := some 130) (v := ?_) (a' := ?_) #[true, true, true, true, true, true, true, true, true, false, false, false, false, false, false, false, false, false, false, false] rfl rfl (any_of HT_.out (by kernel_rfl)) (fun _ _ _ h => h) (Or.inl ⟨by rfl, ?_⟩) ?_ ?_
      rotate_left
      ·intro w'
       go_simp
       with_reducible rfl
      rotate_left
      ·simp only [Act.put, List.setIfInBounds_toArray, List.set_cons_zero, List.set_cons_succ, i64_w, i32_w]
       rfl
      refine pure_ (i := 9) (N := some 131) (v := ?_) (a' := ?_) #[true, true, true, true, true, true, true, true, true, true, false, false, false, false, false, false, false, false, false, false] rfl rfl (any_of HT_.out (by kernel_rfl)) (fun _ _ _ h => h) (Or.inl ⟨by rfl, ?_⟩) ?_ ?_
      rotate_left
      ·intro w'
       go_simp
       with_reducible rfl
      rotate_left
      ·simp only [Act.put, List.setIfInBounds_toArray, List.set_cons_zero, List.set_cons_succ, i64_w, i32_w]
       rfl
      refine pure_ (i := 11) (N := some 133) (v := ?_) (a' := ?_) #[true, true, true, true, true, true, true, true, true, true, false, true, false, false, false, false, false, false, false, false] rfl rfl (any_of HT_.out (by kernel_rfl)) (fun _ _ _ h => h) (Or.inl ⟨by rfl, ?_⟩) ?_ ?_
      rotate_left
      ·intro w'
       go_simp
       with_reducible rfl
      rotate_left
      ·simp only [Act.put, List.setIfInBounds_toArray, List.set_cons_zero, List.set_cons_succ, i64_w, i32_w]
       rfl
      refine pure_ (i := 15) (N := some 137) (v := ?_) (a' := ?_) #[true, true, true, true, true, true, true, true, true, true, false, true, false, false, false, true, false, false, false, false] rfl rfl (any_of HT_.out (by kernel_rfl)) (fun _ _ _ h => h) (Or.inl ⟨by rfl, ?_⟩) ?_ ?_
      rotate_left
      ·intro w'
       go_simp
       with_reducible rfl
      rotate_left
      ·simp only [Act.put, List.setIfInBounds_toArray, List.set_cons_zero, List.set_cons_succ, i64_w, i32_w]
       rfl
      refine take_ (i := 10) (N := some 132) (v := ?_) (a' := ?_) #[true, true, true, true, true, true, true, true, true, true, true, true, false, false, false, true, false, false, false, false] rfl rfl (take_ofW HT_.out HW_.out (by kernel_rfl)) (fun _ _ _ h => h) (Or.inl ⟨by rfl, ?_⟩) hHeld ?_ ?_
      rotate_left
      ·rintro w' ⟨s0, s1, s2, s3, s4, s5, s6, s7, s8, s9⟩
       go_simp
       with_reducible rfl
      rotate_left
      ·simp only [Act.put, List.setIfInBounds_toArray, List.set_cons_zero, List.set_cons_succ, i64_w, i32_w]
       rfl
      refine take_ (i := 14) (N := some 136) (v := ?_) (a' := ?_) #[true, true, true, true, true, true, true, true, true, true, true, true, false, false, true, true, false, false, false, false] rfl rfl (take_ofW HT_.out HW_.out (by kernel_rfl)) (fun _ _ _ h => h) (Or.inl ⟨by rfl, ?_⟩) hHeld ?_ ?_
      rotate_left
      ·rintro w' ⟨s0, s1, s2, s3, s4, s5, s6, s7, s8, s9⟩
       go_simp
       with_reducible rfl
      rotate_left
      ·simp only [Act.put, List.setIfInBounds_toArray, List.set_cons_zero, List.set_cons_succ, i64_w, i32_w]
       rfl
      refine one_ (i := 12) (N := some 134) #[true, true, true, true, true, true, true, true, true, true, true, true, true, false, true, true, false, false, false, false] rfl rfl (one_of HT_.out (by kernel_rfl)) (by decide) (fun K hK => ?_)
      refine goes_ Tryd.func12 (by kernel_rfl) rfl #[.int .i64 (i : Int)] (by rfl) rfl rfl (by simp only [List.map_toArray, List.map_cons, List.map_nil]; rfl) ?_
      with_reducible refine (HWi.out _).mono ?_
      rintro e w9 ⟨rfl, hb⟩
      refine ⟨_, rfl, ?_⟩
      replace HB := Lib.hid (below_step HB.out hb)
      replace HXr := Lib.hid (HXr.out.below hb)
      replace HRr := Lib.hid (HRr.out.below hb)
      replace HXs := Lib.hid (HXs.out.below hb)
      replace HRs := Lib.hid (HRs.out.below hb)
      replace HXt := Lib.hid (HXt.out.below hb)
      replace HRt := Lib.hid (HRt.out.below hb)
      replace HXv := Lib.hid (HXv.out.below hb)
      replace HRv := Lib.hid (HRv.out.below hb)
      clear hb
      refine hK.out _ _ ⟨HXt.out.cell.1, HXt.out.cell.2.1, HXt.out.cell.2.2.1, HXt.out.cell.2.2.2.1, HXt.out.cell.2.2.2.2, HXr.out.cell.1, HXr.out.cell.2.1, HXr.out.cell.2.2.1, HXr.out.cell.2.2.2.1, HXr.out.cell.2.2.2.2⟩ (fun hHeld => ?_)
      clear hK K
      refine norm_ (a' := ?_) ?_ ?_
      rotate_left
      ·show Act.put _ (some 134) _ = _
       simp only [Act.put, List.setIfInBounds_toArray, List.set_cons_zero, List.set_cons_succ, i64_w, i32_w]
       rfl
      refine one_ (i := 13) (N := some 135) #[true, true, true, true, true, true, true, true, true, true, true, true, true, true, true, true, false, false, false, false] rfl rfl (one_of HT_.out (by kernel_rfl)) (by decide) (fun K hK => ?_)
      refine goes_ Tryd.func16 (by kernel_rfl) rfl #[.agg #[.string T.o, .string T.f, .int .i64 T.e, .slice At T.rs.length ct, .slice Bt T.ws.length dt], .string z, .bool true] (by rfl) rfl rfl (by simp only [List.map_toArray, List.map_cons, List.map_nil]; rfl) ?_
      with_reducible refine (HKtt.out _ HB.out HRt.out).mono ?_
      rintro e w9 ⟨rfl, hb⟩
      refine ⟨_, rfl, ?_⟩
      replace HB := Lib.hid (below_step HB.out hb)
      replace HXr := Lib.hid (HXr.out.below hb)
      replace HRr := Lib.hid (HRr.out.below hb)
      replace HXs := Lib.hid (HXs.out.below hb)
      replace HRs := Lib.hid (HRs.out.below hb)
      replace HXt := Lib.hid (HXt.out.below hb)
      replace HRt := Lib.hid (HRt.out.below hb)
      replace HXv := Lib.hid (HXv.out.below hb)
      replace HRv := Lib.hid (HRv.out.below hb)
      clear hb
      refine hK.out _ _ ⟨HXt.out.cell.1, HXt.out.cell.2.1, HXt.out.cell.2.2.1, HXt.out.cell.2.2.2.1, HXt.out.cell.2.2.2.2, HXr.out.cell.1, HXr.out.cell.2.1, HXr.out.cell.2.2.1, HXr.out.cell.2.2.2.1, HXr.out.cell.2.2.2.2⟩ (fun hHeld => ?_)
      clear hK K
      refine norm_ (a' := ?_) ?_ ?_
      rotate_left
      ·show Act.put _ (some 135) _ = _
       simp only [Act.put, List.setIfInBounds_toArray, List.set_cons_zero, List.set_cons_succ, i64_w, i32_w]
       rfl
      refine one_ (i := 16) (N := some 138) #[true, true, true, true, true, true, true, true, true, true, true, true, true, true, true, true, true, false, false, false] rfl rfl (one_of HT_.out (by kernel_rfl)) (by decide) (fun K hK => ?_)
      refine goes_ Tryd.func12 (by kernel_rfl) rfl #[.int .i64 (i : Int)] (by rfl) rfl rfl (by simp only [List.map_toArray, List.map_cons, List.map_nil]; rfl) ?_
      with_reducible refine (HWi.out _).mono ?_
      rintro e w9 ⟨rfl, hb⟩
      refine ⟨_, rfl, ?_⟩
      replace HB := Lib.hid (below_step HB.out hb)
      replace HXr := Lib.hid (HXr.out.below hb)
      replace HRr := Lib.hid (HRr.out.below hb)
      replace HXs := Lib.hid (HXs.out.below hb)
      replace HRs := Lib.hid (HRs.out.below hb)
      replace HXt := Lib.hid (HXt.out.below hb)
      replace HRt := Lib.hid (HRt.out.below hb)
      replace HXv := Lib.hid (HXv.out.below hb)
      replace HRv := Lib.hid (HRv.out.below hb)
      clear hb
      refine hK.out _ _ ⟨HXt.out.cell.1, HXt.out.cell.2.1, HXt.out.cell.2.2.1, HXt.out.cell.2.2.2.1, HXt.out.cell.2.2.2.2, HXr.out.cell.1, HXr.out.cell.2.1, HXr.out.cell.2.2.1, HXr.out.cell.2.2.2.1, HXr.out.cell.2.2.2.2⟩ (fun hHeld => ?_)
      clear hK K
      refine norm_ (a' := ?_) ?_ ?_
      rotate_left
      ·show Act.put _ (some 138) _ = _
       simp only [Act.put, List.setIfInBounds_toArray, List.set_cons_zero, List.set_cons_succ, i64_w, i32_w]
       rfl
      refine one_ (i := 17) (N := some 139) #[true, true, true, true, true, true, true, true, true, true, true, true, true, true, true, true, true, true, false, false] rfl rfl (one_of HT_.out (by kernel_rfl)) (by decide) (fun K hK => ?_)
      refine goes_ Tryd.func16 (by kernel_rfl) rfl #[.agg #[.string r.o, .string r.f, .int .i64 r.e, .slice Ar r.rs.length cr, .slice Br r.ws.length dr], .string z, .bool true] (by rfl) rfl rfl (by simp only [List.map_toArray, List.map_cons, List.map_nil]; rfl) ?_
      with_reducible refine (HKrt.out _ HB.out HRr.out).mono ?_
      rintro e w9 ⟨rfl, hb⟩
      refine ⟨_, rfl, ?_⟩
      replace HB := Lib.hid (below_step HB.out hb)
      replace HXr := Lib.hid (HXr.out.below hb)
      replace HRr := Lib.hid (HRr.out.below hb)
      replace HXs := Lib.hid (HXs.out.below hb)
      replace HRs := Lib.hid (HRs.out.below hb)
      replace HXt := Lib.hid (HXt.out.below hb)
      replace HRt := Lib.hid (HRt.out.below hb)
      replace HXv := Lib.hid (HXv.out.below hb)
      replace HRv := Lib.hid (HRv.out.below hb)
      clear hb
      refine hK.out _ _ ⟨HXt.out.cell.1, HXt.out.cell.2.1, HXt.out.cell.2.2.1, HXt.out.cell.2.2.2.1, HXt.out.cell.2.2.2.2, HXr.out.cell.1, HXr.out.cell.2.1, HXr.out.cell.2.2.1, HXr.out.cell.2.2.2.1, HXr.out.cell.2.2.2.2⟩ (fun hHeld => ?_)
      clear hK K
      refine norm_ (a' := ?_) ?_ ?_
      rotate_left
      ·show Act.put _ (some 139) _ = _
       simp only [Act.put, List.setIfInBounds_toArray, List.set_cons_zero, List.set_cons_succ, i64_w, i32_w]
       rfl
      refine pure_ (i := 18) (N := some 140) (v := ?_) (a' := ?_) #[true, true, true, true, true, true, true, true, true, true, true, true, true, true, true, true, true, true, true, false] rfl rfl (any_of HT_.out (by kernel_rfl)) (fun _ _ _ h => h) (Or.inl ⟨by rfl, ?_⟩) ?_ ?_
      rotate_left
      ·intro w'
       go_simp
       with_reducible rfl
      rotate_left
      ·simp only [Act.put, List.setIfInBounds_toArray, List.set_cons_zero, List.set_cons_succ, i64_w, i32_w]
       rfl
      refine pure_ (i := 19) (N := some 141) (v := ?_) (a' := ?_) #[true, true, true, true, true, true, true, true, true, true, true, true, true, true, true, true, true, true, true, true] rfl rfl (any_of HT_.out (by kernel_rfl)) (fun _ _ _ h => h) (Or.inl ⟨by rfl, ?_⟩) ?_ ?_
      rotate_left
      ·intro w'
       go_simp
       with_reducible rfl
      rotate_left
      ·simp only [Act.put, List.setIfInBounds_toArray, List.set_cons_zero, List.set_cons_succ, i64_w, i32_w]
       rfl
      refine done_ (done_of HT_.out (by kernel_rfl)) ?_
      go_wp2
      go_roundw
      case rel => exact ⟨i + 1, by omega, by go_num, HB.out, HXr.out, HXs.out, HXt.out, HXv.out, HRr.out, HRs.out, HRt.out, HRv.out⟩
      case measure => simp [intOf]; omega
     ·obtain rfl : i = 8 := by omega
      clear hi hi8
      obtain ⟨qs0, qs1, qs2, qs3, qs4⟩ := HXs.out.cell
      go_wp2_with fail
      refine (HC1.out As cs Bs ds _ HB.out HRs.out).mono ?_
      rintro e W21 ⟨rfl, hb⟩
      clear qs0 qs1 qs2 qs3 qs4
      replace HB := Lib.hid (below_step HB.out hb)
      replace HXr := Lib.hid (HXr.out.below hb)
      replace HRr := Lib.hid (HRr.out.below hb)
      replace HXs := Lib.hid (HXs.out.below hb)
      replace HRs := Lib.hid (HRs.out.below hb)
      replace HXt := Lib.hid (HXt.out.below hb)
      replace HRt := Lib.hid (HRt.out.below hb)
      replace HXv := Lib.hid (HXv.out.below hb)
      replace HRv := Lib.hid (HRv.out.below hb)
      clear hb
      obtain ⟨qs0, qs1, qs2, qs3, qs4⟩ := HXs.out.cell
      go_wp2_with fail
      refine (HC2.out As cs Bs ds _ HB.out HRs.out).mono ?_
      rintro e W22 ⟨rfl, hb⟩
      clear qs0 qs1 qs2 qs3 qs4
      replace HB := Lib.hid (below_step HB.out hb)
      replace HXr := Lib.hid (HXr.out.below hb)
      replace HRr := Lib.hid (HRr.out.below hb)
      replace HXs := Lib.hid (HXs.out.below hb)
      replace HRs := Lib.hid (HRs.out.below hb)
      replace HXt := Lib.hid (HXt.out.below hb)
      replace HRt := Lib.hid (HRt.out.below hb)
      replace HXv := Lib.hid (HXv.out.below hb)
      replace HRv := Lib.hid (HRv.out.below hb)
      clear hb
      have exx : (x == x) = true := by simp
      obtain ⟨qt0, qt1, qt2, qt3, qt4⟩ := HXt.out.cell
      go_wp2_with fail
      refine (HC3.out At ct Bt dt _ HB.out HRt.out).mono ?_
      rintro e W23 ⟨rfl, hb⟩
      clear qt0 qt1 qt2 qt3 qt4
      replace HB := Lib.hid (below_step HB.out hb)
      replace HXr := Lib.hid (HXr.out.below hb)
      replace HRr := Lib.hid (HRr.out.below hb)
      replace HXs := Lib.hid (HXs.out.below hb)
      replace HRs := Lib.hid (HRs.out.below hb)
      replace HXt := Lib.hid (HXt.out.below hb)
      replace HRt := Lib.hid (HRt.out.below hb)
      replace HXv := Lib.hid (HXv.out.below hb)
      replace HRv := Lib.hid (HRv.out.below hb)
      clear hb
      obtain ⟨qv0, qv1, qv2, qv3, qv4⟩ := HXv.out.cell
      go_wp2_with fail
      refine (HC4.out Av cv Bv dv _ HB.out HRv.out).mono ?_
      rintro e W24 ⟨rfl, hb⟩
      clear qv0 qv1 qv2 qv3 qv4
      replace HB := Lib.hid (below_step HB.out hb)
      replace HXr := Lib.hid (HXr.out.below hb)
      replace HRr := Lib.hid (HRr.out.below hb)
      replace HXs := Lib.hid (HXs.out.below hb)
      replace HRs := Lib.hid (HRs.out.below hb)
      replace HXt := Lib.hid (HXt.out.below hb)
      replace HRt := Lib.hid (HRt.out.below hb)
      replace HXv := Lib.hid (HXv.out.below hb)
      replace HRv := Lib.hid (HRv.out.below hb)
      clear hb
      obtain ⟨qv0, qv1, qv2, qv3, qv4⟩ := HXv.out.cell
      go_wp2_with fail
      refine (HC5.out Av cv Bv dv _ HB.out HRv.out).mono ?_
      rintro e W25 ⟨rfl, hb⟩
      clear qv0 qv1 qv2 qv3 qv4
      replace HB := Lib.hid (below_step HB.out hb)
      replace HXr := Lib.hid (HXr.out.below hb)
      replace HRr := Lib.hid (HRr.out.below hb)
      replace HXs := Lib.hid (HXs.out.below hb)
      replace HRs := Lib.hid (HRs.out.below hb)
      replace HXt := Lib.hid (HXt.out.below hb)
      replace HRt := Lib.hid (HRt.out.below hb)
      replace HXv := Lib.hid (HXv.out.below hb)
      replace HRv := Lib.hid (HRv.out.below hb)
      clear hb
      have exy : ((!x) == (!x)) = true := by simp
      go_wp2
      go_ret
      exact ⟨rfl, HB.out⟩
end Go.Proofs.YtfhanoloaejmkaaDoor
end
