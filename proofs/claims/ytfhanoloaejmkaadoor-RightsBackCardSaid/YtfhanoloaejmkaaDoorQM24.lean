/- Contracts and laws that the statement of LawRightsUndo,LawRightsBack,LawRightsErrs leans on (packed from this claim's own texts): part 24. -/
import Derived.Test.YtfhanoloaejmkaaDoorQM23
section

namespace Go.Proofs.YtfhanoloaejmkaaDoor
open Go.RowKit Go.Proofs.YtfhanoloaejmkaaDoorW.PrintWords Go.Proofs.YtfhanoloaejmkaaDoorW.PrintLast Go.Proofs.YtfhanoloaejmkaaDoor.Ref
set_option linter.unusedVariables false
set_option linter.unusedSimpArgs false
set_option maxHeartbeats 8000000 in
set_option maxRecDepth 100000 in
theorem back_any (A : Option Addr) (c : Nat) (l : List (Int × Int)) (s : ByteArray) (at' : Int) (w : World) (HTB : Aside0 (Tabs w)) (hr : Kd.C actK w A l.length l) (g : l.length ≤ 9223372036854775807 ∧ ∀ a ∈ l, (Lit.int .i64 a.1).wf = true ∧ (Lit.int .i64 a.2).wf = true) (hss : s.size ≤ 140737488351232) (ha0 : (Lit.int .i64 at').wf = true) :
    Calls Tryd.prog 8 #[.slice A l.length c, .string s, .int .i64 at'] w fun e w' => e = .returned (.bool true) ∧ Below w.heap.size w w' := by
  have H1 := Lib.hid (shown_call w HTB)
  have hA := i64_wf ha0
  obtain ⟨r, hr0⟩ : ∃ r, doneF l = r := ⟨_, rfl⟩
  have HD := Lib.hid (done_at hr c g.1 (acts_ok g.2) hr0)
  have HG : Hid (Good7 r) := Lib.hid (hr0 ▸ good_done l)
  have hput : putF r = ((putF r).1, 0) := by unfold putF; rw [if_pos HG.out.1]
  have hts := put_size HG.out.1
  have ht0 := put_some HG.out.1
  have htk := take_back HG.out.1
  have htm := take_more HG.out.1 (x := ⟨#[0]⟩) (by intro e; have := congrArg ByteArray.size e; exact absurd this (by decide))
  have hk := pick_lt at' ht0
  have htl := take_less HG.out.1 hk
  generalize (putF r).1 = t at hput hts ht0 htk htm hk htl
  obtain ⟨k, hk0⟩ : ∃ k, pickN at' t.size = k := ⟨_, rfl⟩
  have HPK := Lib.hid (fun W => pick_call at' t.size W ht0 (by omega) hA)
  rw [hk0] at HPK hk htl
  have sr := right_small HG.out.1
  have HPR := Lib.hid (fun A c A' c' => put_at HTB sr hput A c A' c')
  have HTR := Lib.hid (take_at HTB (s := t) (by omega) htk)
  have HTM := Lib.hid (take_at HTB (s := t ++ ⟨#[0]⟩) (by rw [ByteArray.size_append]; show t.size + 1 ≤ _; omega) htm)
  have HTL := Lib.hid (take_at HTB (s := t.extract 0 k) (by rw [ByteArray.size_extract]; omega) htl)
  have HSM := Lib.hid (fun A c A' c' D d D' d' => same_at sr sr (show sameR r r = true from (same_iff _ _).2 rfl) A c A' c' D d D' d')
  clear hr0 hA ha0 hr g hput htk htm htl hk0 sr
  go_enter Tryd.func8, Tryd.ntmps8
  have HB := Lib.hid (Below.refl w.heap.size w)
  go_wp2_with fail
  refine (H1.out).mono ?_
  rintro e W1 ⟨rfl, hb⟩
  replace HB := Lib.hid (below_step HB.out hb)
  clear hb
  by_cases hs : 3000 < s.size
  · go_wp2
    go_ret
    exact ⟨rfl, HB.out⟩
  · go_wp2_with fail
    refine (HD.out _ HB.out).mono ?_
    rintro e W2 ⟨Ar, cr, Br, dr, rfl, hr, hb0⟩
    obtain ⟨hb, hr'⟩ := boxed hb0 hr
    have HXr := Lib.hid (box_new W2 r (.slice Ar r.rs.length cr) (.slice Br r.ws.length dr))
    have hlr := hb0.size
    replace HB := Lib.hid (below_step HB.out hb)
    have HRr := Lib.hid (hr'.lower (Nat.zero_le _))
    clear hr hb0 hb hr' hlr
    obtain ⟨qr0, qr1, qr2, qr3, qr4⟩ := HXr.out.cell
    go_wp2_with fail
    refine (HPR.out Ar cr Br dr _ HB.out HRr.out).mono ?_
    rintro e W3 ⟨rfl, hb⟩
    clear qr0 qr1 qr2 qr3 qr4
    replace HB := Lib.hid (below_step HB.out hb)
    replace HXr := Lib.hid (HXr.out.below hb)
    replace HRr := Lib.hid (HRr.out.below hb)
    clear hb
    go_wp2_with fail
    refine (HTR.out _ HB.out).mono ?_
    rintro e W4 ⟨Ax, cx, Bx, dx, rfl, hr, hb0⟩
    obtain ⟨hb, hr'⟩ := boxed hb0 hr
    have HXx := Lib.hid (box_new W4 r (.slice Ax r.rs.length cx) (.slice Bx r.ws.length dx))
    have hlx := hb0.size
    replace HB := Lib.hid (below_step HB.out hb)
    replace HXr := Lib.hid (HXr.out.below hb)
    replace HRr := Lib.hid (HRr.out.below hb)
    have HRx := Lib.hid (hr'.lower (Nat.zero_le _))
    clear hr hb0 hb hr' hlx
    have e0 : (t.toList == []) = false := by rw [beq_eq_false_iff_ne]; intro e; have := congrArg List.length e; rw [Lib.toList_data, Array.length_toList] at this; have h : t.size = 0 := this; omega
    obtain ⟨qx0, qx1, qx2, qx3, qx4⟩ := HXx.out.cell
    obtain ⟨qr0, qr1, qr2, qr3, qr4⟩ := HXr.out.cell
    go_wp2_with fail
    refine (HSM.out Ax cx Bx dx Ar cr Br dr _ HRx.out HRr.out).mono ?_
    rintro e W5 ⟨rfl, hb⟩
    clear qx0 qx1 qx2 qx3 qx4 qr0 qr1 qr2 qr3 qr4
    replace HB := Lib.hid (below_step HB.out hb)
    replace HXr := Lib.hid (HXr.out.below hb)
    replace HRr := Lib.hid (HRr.out.below hb)
    replace HXx := Lib.hid (HXx.out.below hb)
    replace HRx := Lib.hid (HRx.out.below hb)
    clear hb
    have es : t.size + 1 ≤ 9223372036854775807 := by omega
    have es2 : (t ++ { data := #[0] }).size ≤ 9223372036854775807 := by rw [ByteArray.size_append]; show t.size + 1 ≤ _; omega
    go_wp2_with fail
    refine (HTM.out _ HB.out).mono ?_
    rintro e W6 ⟨Am, cm, Bm, dm, rfl, hr, hb0⟩
    obtain ⟨hb, hr'⟩ := boxed hb0 hr
    have HXm := Lib.hid (box_new W6 noRt (.slice Am noRt.rs.length cm) (.slice Bm noRt.ws.length dm))
    have hlm := hb0.size
    replace HB := Lib.hid (below_step HB.out hb)
    replace HXr := Lib.hid (HXr.out.below hb)
    replace HRr := Lib.hid (HRr.out.below hb)
    replace HXx := Lib.hid (HXx.out.below hb)
    replace HRx := Lib.hid (HRx.out.below hb)
    have HRm := Lib.hid (hr'.lower (Nat.zero_le _))
    clear hr hb0 hb hr' hlm
    go_wp2_with fail
    refine (HPK.out _).mono ?_
    rintro e W7 ⟨rfl, hb⟩
    replace HB := Lib.hid (below_step HB.out hb)
    replace HXr := Lib.hid (HXr.out.below hb)
    replace HRr := Lib.hid (HRr.out.below hb)
    replace HXx := Lib.hid (HXx.out.below hb)
    replace HRx := Lib.hid (HRx.out.below hb)
    replace HXm := Lib.hid (HXm.out.below hb)
    replace HRm := Lib.hid (HRm.out.below hb)
    clear hb
    have k0 : 0 ≤ (k : Int) := by omega
    have k1 : (k : Int) ≤ (t.size : Int) := by omega
    go_wp2_with fail
    refine (HTL.out _ HB.out).mono ?_
    rintro e W8 ⟨Al, cl, Bl, dl, rfl, hr, hb0⟩
    obtain ⟨hb, hr'⟩ := boxed hb0 hr
    have HXl := Lib.hid (box_new W8 noRt (.slice Al noRt.rs.length cl) (.slice Bl noRt.ws.length dl))
    have hll := hb0.size
    replace HB := Lib.hid (below_step HB.out hb)
    replace HXr := Lib.hid (HXr.out.below hb)
    replace HRr := Lib.hid (HRr.out.below hb)
    replace HXx := Lib.hid (HXx.out.below hb)
    replace HRx := Lib.hid (HRx.out.below hb)
    replace HXm := Lib.hid (HXm.out.below hb)
    replace HRm := Lib.hid (HRm.out.below hb)
    have HRl := Lib.hid (hr'.lower (Nat.zero_le _))
    clear hr hb0 hb hr' hll
    obtain ⟨Y, hY⟩ : ∃ Y, takeR s = Y := ⟨_, rfl⟩
    have HTS := Lib.hid (take_at HTB (s := s) (by omega) hY)
    by_cases hy : Y.2 = 0
    · obtain ⟨y, rfl⟩ : ∃ y, Y = (y, 0) := ⟨Y.1, by rw [← hy]⟩
      have hw := take_was (s := s) (by rw [hY])
      rw [hY] at hw
      have sy := right_small hw.1
      have HPY := Lib.hid (fun A c A' c' => put_at HTB sy hw.2.1 A c A' c')
      have HRY := Lib.hid (fun A c A' c' => right_at HTB sy hw.1 A c A' c')
      have ess : (s.toList == s.toList) = true := by simp
      clear hy hw sy hY
      go_wp2_with fail
      refine (HTS.out _ HB.out).mono ?_
      rintro e W9 ⟨Ay, cy, By, dy, rfl, hr, hb0⟩
      obtain ⟨hb, hr'⟩ := boxed hb0 hr
      have HXy := Lib.hid (box_new W9 y (.slice Ay y.rs.length cy) (.slice By y.ws.length dy))
      have hly := hb0.size
      replace HB := Lib.hid (below_step HB.out hb)
      replace HXr := Lib.hid (HXr.out.below hb)
      replace HRr := Lib.hid (HRr.out.below hb)
      replace HXx := Lib.hid (HXx.out.below hb)
      replace HRx := Lib.hid (HRx.out.below hb)
      replace HXm := Lib.hid (HXm.out.below hb)
      replace HRm := Lib.hid (HRm.out.below hb)
      replace HXl := Lib.hid (HXl.out.below hb)
      replace HRl := Lib.hid (HRl.out.below hb)
      have HRy := Lib.hid (hr'.lower (Nat.zero_le _))
      clear hr hb0 hb hr' hly
      obtain ⟨qy0, qy1, qy2, qy3, qy4⟩ := HXy.out.cell
      go_wp2_with fail
      refine (HPY.out Ay cy By dy _ HB.out HRy.out).mono ?_
      rintro e W10 ⟨rfl, hb⟩
      clear qy0 qy1 qy2 qy3 qy4
      replace HB := Lib.hid (below_step HB.out hb)
      replace HXr := Lib.hid (HXr.out.below hb)
      replace HRr := Lib.hid (HRr.out.below hb)
      replace HXx := Lib.hid (HXx.out.below hb)
      replace HRx := Lib.hid (HRx.out.below hb)
      replace HXm := Lib.hid (HXm.out.below hb)
      replace HRm := Lib.hid (HRm.out.below hb)
      replace HXl := Lib.hid (HXl.out.below hb)
      replace HRl := Lib.hid (HRl.out.below hb)
      replace HXy := Lib.hid (HXy.out.below hb)
      replace HRy := Lib.hid (HRy.out.below hb)
      clear hb
      obtain ⟨qy0, qy1, qy2, qy3, qy4⟩ := HXy.out.cell
      go_wp2_with fail
      refine (HRY.out Ay cy By dy _ HB.out HRy.out).mono ?_
      rintro e W11 ⟨rfl, hb⟩
      clear qy0 qy1 qy2 qy3 qy4
      replace HB := Lib.hid (below_step HB.out hb)
      replace HXr := Lib.hid (HXr.out.below hb)
      replace HRr := Lib.hid (HRr.out.below hb)
      replace HXx := Lib.hid (HXx.out.below hb)
      replace HRx := Lib.hid (HRx.out.below hb)
      replace HXm := Lib.hid (HXm.out.below hb)
      replace HRm := Lib.hid (HRm.out.below hb)
      replace HXl := Lib.hid (HXl.out.below hb)
      replace HRl := Lib.hid (HRl.out.below hb)
      replace HXy := Lib.hid (HXy.out.below hb)
      replace HRy := Lib.hid (HRy.out.below hb)
      clear hb
      go_wp2
      go_ret
      exact ⟨rfl, HB.out⟩
    · have hn := take_not (s := s) (by rw [hY]; exact hy)
      rw [hY] at hn
      subst hn
      have HPY := Lib.hid (fun A c A' c' => put_at HTB small_no (show putF noRt = (⟨#[]⟩, 1) by unfold putF; rw [if_neg (by rw [right_no]; simp)]) A c A' c')
      have eno : (noRt.o.toList == []) = true := by decide +kernel
      clear hy hY
      go_wp2_with fail
      refine (HTS.out _ HB.out).mono ?_
      rintro e W9 ⟨Ay, cy, By, dy, rfl, hr, hb0⟩
      obtain ⟨hb, hr'⟩ := boxed hb0 hr
      have HXy := Lib.hid (box_new W9 noRt (.slice Ay noRt.rs.length cy) (.slice By noRt.ws.length dy))
      have hly := hb0.size
      replace HB := Lib.hid (below_step HB.out hb)
      replace HXr := Lib.hid (HXr.out.below hb)
      replace HRr := Lib.hid (HRr.out.below hb)
      replace HXx := Lib.hid (HXx.out.below hb)
      replace HRx := Lib.hid (HRx.out.below hb)
      replace HXm := Lib.hid (HXm.out.below hb)
      replace HRm := Lib.hid (HRm.out.below hb)
      replace HXl := Lib.hid (HXl.out.below hb)
      replace HRl := Lib.hid (HRl.out.below hb)
      have HRy := Lib.hid (hr'.lower (Nat.zero_le _))
      clear hr hb0 hb hr' hly
      obtain ⟨qy0, qy1, qy2, qy3, qy4⟩ := HXy.out.cell
      go_wp2_with fail
      refine (HPY.out Ay cy By dy _ HB.out HRy.out).mono ?_
      rintro e W10 ⟨rfl, hb⟩
      clear qy0 qy1 qy2 qy3 qy4
      replace HB := Lib.hid (below_step HB.out hb)
      replace HXr := Lib.hid (HXr.out.below hb)
      replace HRr := Lib.hid (HRr.out.below hb)
      replace HXx := Lib.hid (HXx.out.below hb)
      replace HRx := Lib.hid (HRx.out.below hb)
      replace HXm := Lib.hid (HXm.out.below hb)
      replace HRm := Lib.hid (HRm.out.below hb)
      replace HXl := Lib.hid (HXl.out.below hb)
      replace HRl := Lib.hid (HRl.out.below hb)
      replace HXy := Lib.hid (HXy.out.below hb)
      replace HRy := Lib.hid (HRy.out.below hb)
      clear hb
      obtain ⟨qy0, qy1, qy2, qy3, qy4⟩ := HXy.out.cell
      go_wp2
      go_ret
      exact ⟨rfl, HB.out⟩
end Go.Proofs.YtfhanoloaejmkaaDoor
end
