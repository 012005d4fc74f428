/- Contracts and laws that the statement of LawRightsUndo,LawRightsBack,LawRightsErrs leans on (packed from this claim's own texts): part 25. -/
import Derived.Test.YtfhanoloaejmkaaDoorQM7
import Derived.Test.YtfhanoloaejmkaaDoorQM19
section

namespace Go.Proofs.YtfhanoloaejmkaaDoor
open Go.RowKit Go.Proofs.YtfhanoloaejmkaaDoorW.PrintWords Go.Proofs.YtfhanoloaejmkaaDoorW.PrintLast Go.Proofs.YtfhanoloaejmkaaDoor.Ref
set_option linter.unusedVariables false
set_option linter.unusedSimpArgs false
theorem box_blk {w : World} {b : Nat} {r : Rt} {v3 v4 : Value} (h : BoxAt w b r v3 v4) : w.heap[b]? = some (.cells #[.string r.o, .string r.f, .int .i64 r.e, v3, v4] 26 (0, 0)) := by
 obtain ⟨cs, rfl, h⟩ := h
 exact h
theorem BoxAt.set0 {w : World} {b : Nat} {r : Rt} {v3 v4 : Value} (h : BoxAt w b r v3 v4) (s : ByteArray) : BoxAt (w.setCell ⟨b, 0, none⟩ (.string s)) b ⟨s, r.f, r.e, r.rs, r.ws⟩ v3 v4 :=
 ⟨_, rfl, heap_setCell_same w b 0 _ _ _ (box_blk h)⟩
theorem BoxAt.set1 {w : World} {b : Nat} {r : Rt} {v3 v4 : Value} (h : BoxAt w b r v3 v4) (s : ByteArray) : BoxAt (w.setCell ⟨b, 1, none⟩ (.string s)) b ⟨r.o, s, r.e, r.rs, r.ws⟩ v3 v4 :=
 ⟨_, rfl, heap_setCell_same w b 1 _ _ _ (box_blk h)⟩
theorem bad_o {r : Rt} (h : rightN (bytes r.o) = false) : rightR r = false := by
 cases c : rightR r with
 | false => rfl
 | true => rw [(right_parts c).1] at h; cases h
theorem bad_f {r : Rt} (h : rightN (bytes r.f) = false) : rightR r = false := by
 cases c : rightR r with
 | false => rfl
 | true => rw [(right_parts c).2.1] at h; cases h
theorem bad_e {r : Rt} (h : ¬ (0 ≤ r.e ∧ r.e ≤ 7)) : rightR r = false := by
 cases c : rightR r with
 | false => rfl
 | true => exact absurd (right_parts c).2.2.1 h
theorem rises_end {l m : List ByteArray} (h : risesL (l ++ m) = true) : risesL m = true := by
 rw [rises_iff] at h ⊢
 exact (List.pairwise_append.1 h).2.1
theorem bad4 (r : Rt) : rightR ⟨r.o, r.f, r.e, r.rs, r.ws ++ [⟨#[122, 122]⟩, ⟨#[122, 121]⟩]⟩ = false := by
 cases c : rightR ⟨r.o, r.f, r.e, r.rs, r.ws ++ [⟨#[122, 122]⟩, ⟨#[122, 121]⟩]⟩ with
 | false => rfl
 | true =>
  have h := rises_end (right_parts c).2.2.2.2.2.1
  exact absurd h (by decide +kernel)
theorem bad6 (r : Rt) : rightR ⟨r.o, r.f, r.e, r.rs, r.ws ++ [⟨#[122, 122]⟩, ⟨#[122, 122]⟩]⟩ = false := by
 cases c : rightR ⟨r.o, r.f, r.e, r.rs, r.ws ++ [⟨#[122, 122]⟩, ⟨#[122, 122]⟩]⟩ with
 | false => rfl
 | true =>
  have h := rises_end (right_parts c).2.2.2.2.2.1
  exact absurd h (by decide +kernel)
theorem bad5 {r : Rt} (hg : Good7 r) : rightR ⟨r.o, r.f, r.e, r.rs, [⟨#[97, 110, 110, 97]⟩] ++ r.ws⟩ = false := by
 cases c : rightR ⟨r.o, r.f, r.e, r.rs, [⟨#[97, 110, 110, 97]⟩] ++ r.ws⟩ with
 | false => rfl
 | true => exact absurd hg.2.1.symm ((right_parts c).2.2.2.2.2.2.2.1 _ List.mem_cons_self).2
theorem bad7 (r : Rt) : rightR ⟨r.o, r.f, r.e, r.rs ++ [⟨#[122, 122]⟩], r.ws ++ [⟨#[122, 122]⟩]⟩ = false := by
 cases c : rightR ⟨r.o, r.f, r.e, r.rs ++ [⟨#[122, 122]⟩], r.ws ++ [⟨#[122, 122]⟩]⟩ with
 | false => rfl
 | true => exact absurd (List.mem_append_right r.ws List.mem_cons_self) ((right_parts c).2.2.2.2.2.2.2.2 ⟨#[122, 122]⟩ (List.mem_append_right r.rs List.mem_cons_self))
theorem small_o {r : Rt} (h : rightR r = true) : r.o.size ≤ 1000000 := name_small (right_parts h).1
theorem small_f {r : Rt} (h : rightR r = true) : r.f.size ≤ 1000000 := name_small (right_parts h).2.1
theorem small_e {r : Rt} (h : rightR r = true) : -9223372036854775808 ≤ r.e ∧ r.e ≤ 9223372036854775807 := by have := (right_parts h).2.2.1; omega
theorem small_like {r : Rt} (h : rightR r = true) {o f : ByteArray} {e : Int} (ho : o.size ≤ 1000000) (hf : f.size ≤ 1000000) (he : -9223372036854775808 ≤ e ∧ e ≤ 9223372036854775807) : smallR ⟨o, f, e, r.rs, r.ws⟩ = true := by
 have s := small_parts (right_small h)
 exact small_mk ho hf he s.2.2.2.1 s.2.2.2.2.1 s.2.2.2.2.2.1 s.2.2.2.2.2.2
theorem small_more {r : Rt} (h : rightR r = true) {lr lw : List ByteArray} (h1 : lr.length ≤ 5) (h2 : lw.length ≤ 5) (h3 : ∀ s ∈ lr, s.size ≤ 1000000) (h4 : ∀ s ∈ lw, s.size ≤ 1000000) : smallR ⟨r.o, r.f, r.e, r.rs ++ lr, r.ws ++ lw⟩ = true := by
 have s := small_parts (right_small h)
 have l := (right_parts h).2.2.2.1
 refine small_mk s.1 s.2.1 s.2.2.1 (by show (r.rs ++ lr).length ≤ 1000; rw [List.length_append]; omega) (by show (r.ws ++ lw).length ≤ 1000; rw [List.length_append]; omega) (fun x hx => ?_) (fun x hx => ?_)
 ·rcases List.mem_append.1 hx with hx | hx
  ·exact s.2.2.2.2.2.1 x hx
  ·exact h3 x hx
 ·rcases List.mem_append.1 hx with hx | hx
  ·exact s.2.2.2.2.2.2 x hx
  ·exact h4 x hx
theorem small_ahead {r : Rt} (h : rightR r = true) : smallR ⟨r.o, r.f, r.e, r.rs, [⟨#[97, 110, 110, 97]⟩] ++ r.ws⟩ = true := by
 have s := small_parts (right_small h)
 have l := (right_parts h).2.2.2.1
 refine small_mk s.1 s.2.1 s.2.2.1 s.2.2.2.1 (by show ([(⟨#[97, 110, 110, 97]⟩ : ByteArray)] ++ r.ws).length ≤ 1000; rw [List.length_append]; simp; omega) s.2.2.2.2.2.1 (fun x hx => ?_)
 rcases List.mem_append.1 hx with hx | hx
 ·rw [List.mem_singleton.1 hx]; decide +kernel
 ·exact s.2.2.2.2.2.2 x hx
set_option maxHeartbeats 16000000 in
set_option maxRecDepth 100000 in
theorem errs_any (A : Option Addr) (c : Nat) (l : List (Int × Int)) (what : Int) (w : World) (HTB : Aside0 (Tabs w)) (hr : Kd.C actK w A l.length l) (g : l.length ≤ 9223372036854775807 ∧ ∀ a ∈ l, (Lit.int .i64 a.1).wf = true ∧ (Lit.int .i64 a.2).wf = true) (hw0 : (Lit.int .i64 what).wf = true) :
  Calls Tryd.prog 7 #[.slice A l.length c, .int .i64 what] w fun e w' => e = .returned (.bool true) ∧ Below w.heap.size w w' := by
 have H1 := Lib.hid (shown_call w HTB)
 have hWh := i64_wf hw0
 obtain ⟨r, hr0⟩ : ∃ r, doneF l = r := ⟨_, rfl⟩
 have HD := Lib.hid (done_at hr c g.1 (acts_ok g.2) hr0)
 have HG : Hid (Good7 r) := Lib.hid (hr0 ▸ good_done l)
 obtain ⟨q, hq⟩ : ∃ q : Int, (pickN what 8 : Nat) = q := ⟨_, rfl⟩
 have hq0 : 0 ≤ q := by omega
 have hq8 : q < 8 := by have := pick_lt what (n := 8) (by omega); omega
 have HPK : Hid (∀ W : World, Calls Tryd.prog 13 #[.int .i64 what, .int .i64 8] W fun e w' => e = .returned (.int .i64 q) ∧ Below W.heap.size W w') := Lib.hid (fun W => hq ▸ pick_call what 8 W (by omega) (by omega) hWh)
 have hl5 : r.rs.length + r.ws.length ≤ 5 := (right_parts HG.out.1).2.2.2.1
 have HNZ := Lib.hid (fun (W : World) (hb : Below w.heap.size w W) => nameRight_call ⟨#[122, 122]⟩ W ⟨HTB.out.below hb⟩ (by decide +kernel))
 rw [show rightN (bytes ⟨#[122, 122]⟩) = true by decide +kernel] at HNZ
 clear hr0 hWh hw0 hr g hq
 go_enter Tryd.func7, Tryd.ntmps7
 have HB := Lib.hid (Below.refl w.heap.size w)
 go_wp2_with fail
 refine (H1.out).mono ?_
 rintro e W1 ⟨rfl, hb⟩
 replace HB := Lib.hid (below_step HB.out hb)
 clear hb
 go_wp2_with fail
 refine (HD.out _ HB.out).mono ?_
 rintro e W2 ⟨Ar, cr, Br, dr, rfl, hr, hb0⟩
 obtain ⟨hb, hr'⟩ := boxed hb0 hr
 have HOF := Lib.hid (rows_off hr)
 have HPS : Hid (w.heap.size ≤ W2.heap.size) := Lib.hid (below_step HB.out hb0).size
 have HXr := Lib.hid (box_new W2 r (.slice Ar r.rs.length cr) (.slice Br r.ws.length dr))
 have hlr := hb0.size
 replace HB := Lib.hid (below_step HB.out hb)
 have HRr := Lib.hid (hr'.lower (Nat.zero_le _))
 clear hr hb0 hb hr' hlr
 obtain ⟨qr0, qr1, qr2, qr3, qr4⟩ := HXr.out.cell
 go_wp2_with (first | ((with_reducible refine gate_dst (N := 19) rfl ?_); refine Kd.R_lit Kd.string _ 9 ?hg (N := 19) ?hd (xs := ([] : List ByteArray)) (inner := []) (ok := fun _ => True) (okp := fun _ => True) ?hr ?hp (fun _ hk => hk) trivial (Below.refl _ _) (Nat.le_refl _) (by simp) ?_; (case hd => rfl); (case hg => rfl); (case hr => first | (go_simp; done) | (go_simp; rfl)); (case hp => exact (Reps.none _ _)); intro va Ua ho hb hg_ hn_; clear hg_ hn_; have HOa := Lib.hid ho; have HBa := Lib.hid hb; clear ho hb; have p4 := (HXr.out.below HBa.out).cell.2.2.2.2) | ((with_reducible refine gate_builtin (b := .append) (xs := #[.tmp 19, .tmp 21]) rfl ?_); at_builtin; refine Kd.R_append_rows Kd.string _ rfl (.tmp 19) (.tmp 21) 24 9 (.string ⟨#[]⟩) 16 rfl Tryd.underlying24 infoStr rfl (by decide) (by omega) _ ([]) (r.ws) Br (r.ws).length dr (fun _ => True) (fun _ => False) rfl rfl (HOa.out) (Kd.C_below HRr.out.h3 HBa.out) (fun _ _ h => h) (fun _ h => h.elim) (fun _ _ => trivial) (HBa.out) (HBa.out.size) ?aL ?_; (case aL => (simp only [List.length_append, List.length_cons, List.length_nil]; omega)); intro vb Ub ho hb hg hat; have HOb : Hid (Kd.R Kd.string 9 Ub _ (fun _ => True) vb r.ws) := Lib.hid ho; have HBb := Lib.hid hb; clear ho hb hg hat p4 HOa HBa))
 clear qr0 qr1 qr2 qr3 qr4
 have HXs := Lib.hid HXr.out
 have HRs := Lib.hid HRr.out
 have HBs0 := Lib.hid HB.out
 replace HB := Lib.hid (below_step HB.out HBb.out)
 replace HXr := Lib.hid (HXr.out.below HBb.out)
 replace HRr := Lib.hid (HRr.out.below HBb.out)
 refine (HPK.out _).mono ?_
 rintro e W3 ⟨rfl, hb⟩
 replace HB := Lib.hid (below_step HB.out hb)
 replace HXr := Lib.hid (HXr.out.below hb)
 replace HRr := Lib.hid (HRr.out.below hb)
 replace HOb := Lib.hid (Kd.R_below HOb.out hb)
 replace HBb := Lib.hid (below_step HBb.out hb)
 clear hb
 generalize W2.heap.size = P at HXr HXs HOF HPS ⊢
 obtain ⟨Ab, cb, eb⟩ := Kd.R_slice HOb.out
 subst eb
 rcases (show q = 0 ∨ q = 1 ∨ q = 2 ∨ q = 3 ∨ q = 4 ∨ q = 5 ∨ q = 6 ∨ q = 7 by omega) with rfl | rfl | rfl | rfl | rfl | rfl | rfl | rfl
 ·obtain ⟨x0, x1, x2, x3, x4⟩ := HXr.out.cell
  have z0 := HXr.out.free 0
  have z1 := HXr.out.free 1
  have z2 := HXr.out.free 2
  go_wp2_with fail
  clear x0 x1 x2 x3 x4 z0 z1 z2
  have HX2 := Lib.hid (HXr.out.set0 ⟨#[65, 110, 110, 97]⟩)
  have HR2 := Lib.hid (HRr.out.apart1 HOF.out 0 (.string ⟨#[65, 110, 110, 97]⟩))
  have HB2 := Lib.hid (HB.out.setCell (p := ⟨P, 0, none⟩) HPS.out (.string ⟨#[65, 110, 110, 97]⟩))
  clear HXr HRr HB HBb HOb
  refine (HPK.out _).mono ?_
  rintro e W20 ⟨rfl, hb⟩
  replace HX2 := Lib.hid (HX2.out.below hb)
  replace HR2 := Lib.hid (HR2.out.below hb)
  have HB := Lib.hid (below_step HB2.out hb)
  clear hb HB2
  obtain ⟨x0, x1, x2, x3, x4⟩ := HX2.out.cell
  go_wp2_with fail
  clear x0 x1 x2 x3 x4
  have hbad : rightR (⟨⟨#[65, 110, 110, 97]⟩, r.f, r.e, r.rs, r.ws⟩ : Rt) = false := bad_o (show rightN (bytes ⟨#[65, 110, 110, 97]⟩) = false by decide +kernel)
  have hsm : smallR (⟨⟨#[65, 110, 110, 97]⟩, r.f, r.e, r.rs, r.ws⟩ : Rt) = true := small_like HG.out.1 (by decide +kernel) (small_f HG.out.1) (small_e HG.out.1)
  have HXk : Hid (BoxAt W20 P (⟨⟨#[65, 110, 110, 97]⟩, r.f, r.e, r.rs, r.ws⟩ : Rt) (.slice Ar r.rs.length cr) (.slice Br r.ws.length dr)) := Lib.hid HX2.out
  have HRk : Hid (RowsAt W20 0 (⟨⟨#[65, 110, 110, 97]⟩, r.f, r.e, r.rs, r.ws⟩ : Rt) Ar cr Br dr) := Lib.hid ⟨HR2.out.h1, HR2.out.h2, HR2.out.h3, HR2.out.h4, HR2.out.h5, HR2.out.h6⟩
  clear HX2 HR2
  have HGR := Lib.hid (fun A c A' c' => grant_at HTB hsm (u := ⟨#[121, 111]⟩) (by decide +kernel) true (show grantF (⟨⟨#[65, 110, 110, 97]⟩, r.f, r.e, r.rs, r.ws⟩ : Rt) _ _ = (noRt, 1) by unfold grantF; rw [if_pos hbad]) A c A' c')
  have HRV := Lib.hid (fun A c A' c' => revoke_at HTB hsm (u := ⟨#[122, 122]⟩) (by decide +kernel) (show revokeF (⟨⟨#[65, 110, 110, 97]⟩, r.f, r.e, r.rs, r.ws⟩ : Rt) _ = (noRt, 1) by unfold revokeF; rw [if_pos hbad]) A c A' c')
  have HPT := Lib.hid (fun A c A' c' => put_at HTB hsm (show putF (⟨⟨#[65, 110, 110, 97]⟩, r.f, r.e, r.rs, r.ws⟩ : Rt) = (⟨#[]⟩, 1) by unfold putF; rw [if_neg (by rw [hbad]; simp)]) A c A' c')
  have HRG := Lib.hid (fun A c A' c' => right_at HTB hsm hbad A c A' c')
  have HC1 := Lib.hid (fun A c A' c' => can_at HTB hsm ⟨#[97, 110, 110, 97]⟩ false (can_bad hbad _ _) A c A' c')
  have HC2 := Lib.hid (fun A c A' c' => can_at HTB hsm ⟨#[98, 101, 110]⟩ false (can_bad hbad _ _) A c A' c')
  clear hbad hsm
  refine (HGR.out Ar cr Br dr _ HB.out HRk.out).mono ?_
  rintro e W31 ⟨Ag, cg, Bg, dg, rfl, hr, hb0⟩
  obtain ⟨hb, hr'⟩ := boxed hb0 hr
  replace HB := Lib.hid (below_step HB.out hb)
  replace HXk := Lib.hid (HXk.out.below hb)
  replace HRk := Lib.hid (HRk.out.below hb)
  clear hr hb0 hb hr'
  obtain ⟨qk0, qk1, qk2, qk3, qk4⟩ := HXk.out.cell
  go_wp2_with fail
  refine (HRV.out Ar cr Br dr _ HB.out HRk.out).mono ?_
  rintro e W32 ⟨Av, cv, Bv, dv, rfl, hr, hb0⟩
  clear qk0 qk1 qk2 qk3 qk4
  obtain ⟨hb, hr'⟩ := boxed hb0 hr
  have HXv := Lib.hid (box_new W32 noRt (.slice Av noRt.rs.length cv) (.slice Bv noRt.ws.length dv))
  have hlv := hb0.size
  replace HB := Lib.hid (below_step HB.out hb)
  replace HXk := Lib.hid (HXk.out.below hb)
  replace HRk := Lib.hid (HRk.out.below hb)
  have HRv := Lib.hid (hr'.lower (Nat.zero_le _))
  clear hr hb0 hb hr' hlv
  clear HXv HRv
  obtain ⟨qk0, qk1, qk2, qk3, qk4⟩ := HXk.out.cell
  go_wp2_with fail
  refine (HPT.out Ar cr Br dr _ HB.out HRk.out).mono ?_
  rintro e W33 ⟨rfl, hb⟩
  clear qk0 qk1 qk2 qk3 qk4
  replace HB := Lib.hid (below_step HB.out hb)
  replace HXk := Lib.hid (HXk.out.below hb)
  replace HRk := Lib.hid (HRk.out.below hb)
  clear hb
  obtain ⟨qk0, qk1, qk2, qk3, qk4⟩ := HXk.out.cell
  go_wp2_with fail
  refine (HRG.out Ar cr Br dr _ HB.out HRk.out).mono ?_
  rintro e W34 ⟨rfl, hb⟩
  clear qk0 qk1 qk2 qk3 qk4
  replace HB := Lib.hid (below_step HB.out hb)
  replace HXk := Lib.hid (HXk.out.below hb)
  replace HRk := Lib.hid (HRk.out.below hb)
  clear hb
  obtain ⟨qk0, qk1, qk2, qk3, qk4⟩ := HXk.out.cell
  go_wp2_with fail
  refine (HC1.out Ar cr Br dr _ HB.out HRk.out).mono ?_
  rintro e W35 ⟨rfl, hb⟩
  clear qk0 qk1 qk2 qk3 qk4
  replace HB := Lib.hid (below_step HB.out hb)
  replace HXk := Lib.hid (HXk.out.below hb)
  replace HRk := Lib.hid (HRk.out.below hb)
  clear hb
  obtain ⟨qk0, qk1, qk2, qk3, qk4⟩ := HXk.out.cell
  go_wp2_with fail
  refine (HC2.out Ar cr Br dr _ HB.out HRk.out).mono ?_
  rintro e W36 ⟨rfl, hb⟩
  clear qk0 qk1 qk2 qk3 qk4
  replace HB := Lib.hid (below_step HB.out hb)
  replace HXk := Lib.hid (HXk.out.below hb)
  replace HRk := Lib.hid (HRk.out.below hb)
  clear hb
  go_wp2_with fail
  refine (HNZ.out _ HB.out).mono ?_
  rintro e W37 ⟨rfl, hb⟩
  replace HB := Lib.hid (below_step HB.out hb)
  replace HXk := Lib.hid (HXk.out.below hb)
  replace HRk := Lib.hid (HRk.out.below hb)
  clear hb
  go_wp2
  go_ret
  exact ⟨rfl, HB.out⟩
 ·obtain ⟨x0, x1, x2, x3, x4⟩ := HXr.out.cell
  have z0 := HXr.out.free 0
  have z1 := HXr.out.free 1
  have z2 := HXr.out.free 2
  go_wp2_with fail
  clear x0 x1 x2 x3 x4 z0 z1 z2
  have HX2 := Lib.hid (HXr.out.set1 ⟨#[]⟩)
  have HR2 := Lib.hid (HRr.out.apart1 HOF.out 1 (.string ⟨#[]⟩))
  have HB2 := Lib.hid (HB.out.setCell (p := ⟨P, 1, none⟩) HPS.out (.string ⟨#[]⟩))
  clear HXr HRr HB HBb HOb
  refine (HPK.out _).mono ?_
  rintro e W20 ⟨rfl, hb⟩
  replace HX2 := Lib.hid (HX2.out.below hb)
  replace HR2 := Lib.hid (HR2.out.below hb)
  have HB := Lib.hid (below_step HB2.out hb)
  clear hb HB2
  obtain ⟨x0, x1, x2, x3, x4⟩ := HX2.out.cell
  go_wp2_with fail
  clear x0 x1 x2 x3 x4
  have hbad : rightR (⟨r.o, ⟨#[]⟩, r.e, r.rs, r.ws⟩ : Rt) = false := bad_f (show rightN (bytes ⟨#[]⟩) = false by decide +kernel)
  have hsm : smallR (⟨r.o, ⟨#[]⟩, r.e, r.rs, r.ws⟩ : Rt) = true := small_like HG.out.1 (small_o HG.out.1) (by decide +kernel) (small_e HG.out.1)
  have HXk : Hid (BoxAt W20 P (⟨r.o, ⟨#[]⟩, r.e, r.rs, r.ws⟩ : Rt) (.slice Ar r.rs.length cr) (.slice Br r.ws.length dr)) := Lib.hid HX2.out
  have HRk : Hid (RowsAt W20 0 (⟨r.o, ⟨#[]⟩, r.e, r.rs, r.ws⟩ : Rt) Ar cr Br dr) := Lib.hid ⟨HR2.out.h1, HR2.out.h2, HR2.out.h3, HR2.out.h4, HR2.out.h5, HR2.out.h6⟩
  clear HX2 HR2
  have HGR := Lib.hid (fun A c A' c' => grant_at HTB hsm (u := ⟨#[121, 111]⟩) (by decide +kernel) true (show grantF (⟨r.o, ⟨#[]⟩, r.e, r.rs, r.ws⟩ : Rt) _ _ = (noRt, 1) by unfold grantF; rw [if_pos hbad]) A c A' c')
  have HRV := Lib.hid (fun A c A' c' => revoke_at HTB hsm (u := ⟨#[122, 122]⟩) (by decide +kernel) (show revokeF (⟨r.o, ⟨#[]⟩, r.e, r.rs, r.ws⟩ : Rt) _ = (noRt, 1) by unfold revokeF; rw [if_pos hbad]) A c A' c')
  have HPT := Lib.hid (fun A c A' c' => put_at HTB hsm (show putF (⟨r.o, ⟨#[]⟩, r.e, r.rs, r.ws⟩ : Rt) = (⟨#[]⟩, 1) by unfold putF; rw [if_neg (by rw [hbad]; simp)]) A c A' c')
  have HRG := Lib.hid (fun A c A' c' => right_at HTB hsm hbad A c A' c')
  have HC1 := Lib.hid (fun A c A' c' => can_at HTB hsm ⟨#[97, 110, 110, 97]⟩ false (can_bad hbad _ _) A c A' c')
  have HC2 := Lib.hid (fun A c A' c' => can_at HTB hsm ⟨#[98, 101, 110]⟩ false (can_bad hbad _ _) A c A' c')
  clear hbad hsm
  refine (HGR.out Ar cr Br dr _ HB.out HRk.out).mono ?_
  rintro e W31 ⟨Ag, cg, Bg, dg, rfl, hr, hb0⟩
  obtain ⟨hb, hr'⟩ := boxed hb0 hr
  replace HB := Lib.hid (below_step HB.out hb)
  replace HXk := Lib.hid (HXk.out.below hb)
  replace HRk := Lib.hid (HRk.out.below hb)
  clear hr hb0 hb hr'
  obtain ⟨qk0, qk1, qk2, qk3, qk4⟩ := HXk.out.cell
  go_wp2_with fail
  refine (HRV.out Ar cr Br dr _ HB.out HRk.out).mono ?_
  rintro e W32 ⟨Av, cv, Bv, dv, rfl, hr, hb0⟩
  clear qk0 qk1 qk2 qk3 qk4
  obtain ⟨hb, hr'⟩ := boxed hb0 hr
  have HXv := Lib.hid (box_new W32 noRt (.slice Av noRt.rs.length cv) (.slice Bv noRt.ws.length dv))
  have hlv := hb0.size
  replace HB := Lib.hid (below_step HB.out hb)
  replace HXk := Lib.hid (HXk.out.below hb)
  replace HRk := Lib.hid (HRk.out.below hb)
  have HRv := Lib.hid (hr'.lower (Nat.zero_le _))
  clear hr hb0 hb hr' hlv
  clear HXv HRv
  obtain ⟨qk0, qk1, qk2, qk3, qk4⟩ := HXk.out.cell
  go_wp2_with fail
  refine (HPT.out Ar cr Br dr _ HB.out HRk.out).mono ?_
  rintro e W33 ⟨rfl, hb⟩
  clear qk0 qk1 qk2 qk3 qk4
  replace HB := Lib.hid (below_step HB.out hb)
  replace HXk := Lib.hid (HXk.out.below hb)
  replace HRk := Lib.hid (HRk.out.below hb)
  clear hb
  obtain ⟨qk0, qk1, qk2, qk3, qk4⟩ := HXk.out.cell
  go_wp2_with fail
  refine (HRG.out Ar cr Br dr _ HB.out HRk.out).mono ?_
  rintro e W34 ⟨rfl, hb⟩
  clear qk0 qk1 qk2 qk3 qk4
  replace HB := Lib.hid (below_step HB.out hb)
  replace HXk := Lib.hid (HXk.out.below hb)
  replace HRk := Lib.hid (HRk.out.below hb)
  clear hb
  obtain ⟨qk0, qk1, qk2, qk3, qk4⟩ := HXk.out.cell
  go_wp2_with fail
  refine (HC1.out Ar cr Br dr _ HB.out HRk.out).mono ?_
  rintro e W35 ⟨rfl, hb⟩
  clear qk0 qk1 qk2 qk3 qk4
  replace HB := Lib.hid (below_step HB.out hb)
  replace HXk := Lib.hid (HXk.out.below hb)
  replace HRk := Lib.hid (HRk.out.below hb)
  clear hb
  obtain ⟨qk0, qk1, qk2, qk3, qk4⟩ := HXk.out.cell
  go_wp2_with fail
  refine (HC2.out Ar cr Br dr _ HB.out HRk.out).mono ?_
  rintro e W36 ⟨rfl, hb⟩
  clear qk0 qk1 qk2 qk3 qk4
  replace HB := Lib.hid (below_step HB.out hb)
  replace HXk := Lib.hid (HXk.out.below hb)
  replace HRk := Lib.hid (HRk.out.below hb)
  clear hb
  go_wp2_with fail
  refine (HNZ.out _ HB.out).mono ?_
  rintro e W37 ⟨rfl, hb⟩
  replace HB := Lib.hid (below_step HB.out hb)
  replace HXk := Lib.hid (HXk.out.below hb)
  replace HRk := Lib.hid (HRk.out.below hb)
  clear hb
  go_wp2
  go_ret
  exact ⟨rfl, HB.out⟩
 ·obtain ⟨x0, x1, x2, x3, x4⟩ := HXr.out.cell
  have z0 := HXr.out.free 0
  have z1 := HXr.out.free 1
  have z2 := HXr.out.free 2
  go_wp2_with fail
  clear x0 x1 x2 x3 x4 z0 z1 z2
  have HX2 := Lib.hid (HXr.out.set2 8)
  have HR2 := Lib.hid (HRr.out.apart1 HOF.out 2 (.int .i64 8))
  have HB2 := Lib.hid (HB.out.setCell (p := ⟨P, 2, none⟩) HPS.out (.int .i64 8))
  clear HXr HRr HB HBb HOb
  refine (HPK.out _).mono ?_
  rintro e W20 ⟨rfl, hb⟩
  replace HX2 := Lib.hid (HX2.out.below hb)
  replace HR2 := Lib.hid (HR2.out.below hb)
  have HB := Lib.hid (below_step HB2.out hb)
  clear hb HB2
  obtain ⟨x0, x1, x2, x3, x4⟩ := HX2.out.cell
  go_wp2_with fail
  clear x0 x1 x2 x3 x4
  have hbad : rightR (⟨r.o, r.f, 8, r.rs, r.ws⟩ : Rt) = false := bad_e (show ¬ ((0 : Int) ≤ 8 ∧ (8 : Int) ≤ 7) by decide)
  have hsm : smallR (⟨r.o, r.f, 8, r.rs, r.ws⟩ : Rt) = true := small_like HG.out.1 (small_o HG.out.1) (small_f HG.out.1) (by decide)
  have HXk : Hid (BoxAt W20 P (⟨r.o, r.f, 8, r.rs, r.ws⟩ : Rt) (.slice Ar r.rs.length cr) (.slice Br r.ws.length dr)) := Lib.hid HX2.out
  have HRk : Hid (RowsAt W20 0 (⟨r.o, r.f, 8, r.rs, r.ws⟩ : Rt) Ar cr Br dr) := Lib.hid ⟨HR2.out.h1, HR2.out.h2, HR2.out.h3, HR2.out.h4, HR2.out.h5, HR2.out.h6⟩
  clear HX2 HR2
  have HGR := Lib.hid (fun A c A' c' => grant_at HTB hsm (u := ⟨#[121, 111]⟩) (by decide +kernel) true (show grantF (⟨r.o, r.f, 8, r.rs, r.ws⟩ : Rt) _ _ = (noRt, 1) by unfold grantF; rw [if_pos hbad]) A c A' c')
  have HRV := Lib.hid (fun A c A' c' => revoke_at HTB hsm (u := ⟨#[122, 122]⟩) (by decide +kernel) (show revokeF (⟨r.o, r.f, 8, r.rs, r.ws⟩ : Rt) _ = (noRt, 1) by unfold revokeF; rw [if_pos hbad]) A c A' c')
  have HPT := Lib.hid (fun A c A' c' => put_at HTB hsm (show putF (⟨r.o, r.f, 8, r.rs, r.ws⟩ : Rt) = (⟨#[]⟩, 1) by unfold putF; rw [if_neg (by rw [hbad]; simp)]) A c A' c')
  have HRG := Lib.hid (fun A c A' c' => right_at HTB hsm hbad A c A' c')
  have HC1 := Lib.hid (fun A c A' c' => can_at HTB hsm ⟨#[97, 110, 110, 97]⟩ false (can_bad hbad _ _) A c A' c')
  have HC2 := Lib.hid (fun A c A' c' => can_at HTB hsm ⟨#[98, 101, 110]⟩ false (can_bad hbad _ _) A c A' c')
  clear hbad hsm
  refine (HGR.out Ar cr Br dr _ HB.out HRk.out).mono ?_
  rintro e W31 ⟨Ag, cg, Bg, dg, rfl, hr, hb0⟩
  obtain ⟨hb, hr'⟩ := boxed hb0 hr
  replace HB := Lib.hid (below_step HB.out hb)
  replace HXk := Lib.hid (HXk.out.below hb)
  replace HRk := Lib.hid (HRk.out.below hb)
  clear hr hb0 hb hr'
  obtain ⟨qk0, qk1, qk2, qk3, qk4⟩ := HXk.out.cell
  go_wp2_with fail
  refine (HRV.out Ar cr Br dr _ HB.out HRk.out).mono ?_
  rintro e W32 ⟨Av, cv, Bv, dv, rfl, hr, hb0⟩
  clear qk0 qk1 qk2 qk3 qk4
  obtain ⟨hb, hr'⟩ := boxed hb0 hr
  have HXv := Lib.hid (box_new W32 noRt (.slice Av noRt.rs.length cv) (.slice Bv noRt.ws.length dv))
  have hlv := hb0.size
  replace HB := Lib.hid (below_step HB.out hb)
  replace HXk := Lib.hid (HXk.out.below hb)
  replace HRk := Lib.hid (HRk.out.below hb)
  have HRv := Lib.hid (hr'.lower (Nat.zero_le _))
  clear hr hb0 hb hr' hlv
  clear HXv HRv
  obtain ⟨qk0, qk1, qk2, qk3, qk4⟩ := HXk.out.cell
  go_wp2_with fail
  refine (HPT.out Ar cr Br dr _ HB.out HRk.out).mono ?_
  rintro e W33 ⟨rfl, hb⟩
  clear qk0 qk1 qk2 qk3 qk4
  replace HB := Lib.hid (below_step HB.out hb)
  replace HXk := Lib.hid (HXk.out.below hb)
  replace HRk := Lib.hid (HRk.out.below hb)
  clear hb
  obtain ⟨qk0, qk1, qk2, qk3, qk4⟩ := HXk.out.cell
  go_wp2_with fail
  refine (HRG.out Ar cr Br dr _ HB.out HRk.out).mono ?_
  rintro e W34 ⟨rfl, hb⟩
  clear qk0 qk1 qk2 qk3 qk4
  replace HB := Lib.hid (below_step HB.out hb)
  replace HXk := Lib.hid (HXk.out.below hb)
  replace HRk := Lib.hid (HRk.out.below hb)
  clear hb
  obtain ⟨qk0, qk1, qk2, qk3, qk4⟩ := HXk.out.cell
  go_wp2_with fail
  refine (HC1.out Ar cr Br dr _ HB.out HRk.out).mono ?_
  rintro e W35 ⟨rfl, hb⟩
  clear qk0 qk1 qk2 qk3 qk4
  replace HB := Lib.hid (below_step HB.out hb)
  replace HXk := Lib.hid (HXk.out.below hb)
  replace HRk := Lib.hid (HRk.out.below hb)
  clear hb
  obtain ⟨qk0, qk1, qk2, qk3, qk4⟩ := HXk.out.cell
  go_wp2_with fail
  refine (HC2.out Ar cr Br dr _ HB.out HRk.out).mono ?_
  rintro e W36 ⟨rfl, hb⟩
  clear qk0 qk1 qk2 qk3 qk4
  replace HB := Lib.hid (below_step HB.out hb)
  replace HXk := Lib.hid (HXk.out.below hb)
  replace HRk := Lib.hid (HRk.out.below hb)
  clear hb
  go_wp2_with fail
  refine (HNZ.out _ HB.out).mono ?_
  rintro e W37 ⟨rfl, hb⟩
  replace HB := Lib.hid (below_step HB.out hb)
  replace HXk := Lib.hid (HXk.out.below hb)
  replace HRk := Lib.hid (HRk.out.below hb)
  clear hb
  go_wp2
  go_ret
  exact ⟨rfl, HB.out⟩
 ·obtain ⟨x0, x1, x2, x3, x4⟩ := HXr.out.cell
  have z0 := HXr.out.free 0
  have z1 := HXr.out.free 1
  have z2 := HXr.out.free 2
  go_wp2_with fail
  clear x0 x1 x2 x3 x4 z0 z1 z2
  have HX2 := Lib.hid (HXr.out.set2 (-1))
  have HR2 := Lib.hid (HRr.out.apart1 HOF.out 2 (.int .i64 (-1)))
  have HB2 := Lib.hid (HB.out.setCell (p := ⟨P, 2, none⟩) HPS.out (.int .i64 (-1)))
  clear HXr HRr HB HBb HOb
  refine (HPK.out _).mono ?_
  rintro e W20 ⟨rfl, hb⟩
  replace HX2 := Lib.hid (HX2.out.below hb)
  replace HR2 := Lib.hid (HR2.out.below hb)
  have HB := Lib.hid (below_step HB2.out hb)
  clear hb HB2
  obtain ⟨x0, x1, x2, x3, x4⟩ := HX2.out.cell
  go_wp2_with fail
  clear x0 x1 x2 x3 x4
  have hbad : rightR (⟨r.o, r.f, -1, r.rs, r.ws⟩ : Rt) = false := bad_e (show ¬ ((0 : Int) ≤ -1 ∧ (-1 : Int) ≤ 7) by decide)
  have hsm : smallR (⟨r.o, r.f, -1, r.rs, r.ws⟩ : Rt) = true := small_like HG.out.1 (small_o HG.out.1) (small_f HG.out.1) (by decide)
  have HXk : Hid (BoxAt W20 P (⟨r.o, r.f, -1, r.rs, r.ws⟩ : Rt) (.slice Ar r.rs.length cr) (.slice Br r.ws.length dr)) := Lib.hid HX2.out
  have HRk : Hid (RowsAt W20 0 (⟨r.o, r.f, -1, r.rs, r.ws⟩ : Rt) Ar cr Br dr) := Lib.hid ⟨HR2.out.h1, HR2.out.h2, HR2.out.h3, HR2.out.h4, HR2.out.h5, HR2.out.h6⟩
  clear HX2 HR2
  have HGR := Lib.hid (fun A c A' c' => grant_at HTB hsm (u := ⟨#[121, 111]⟩) (by decide +kernel) true (show grantF (⟨r.o, r.f, -1, r.rs, r.ws⟩ : Rt) _ _ = (noRt, 1) by unfold grantF; rw [if_pos hbad]) A c A' c')
  have HRV := Lib.hid (fun A c A' c' => revoke_at HTB hsm (u := ⟨#[122, 122]⟩) (by decide +kernel) (show revokeF (⟨r.o, r.f, -1, r.rs, r.ws⟩ : Rt) _ = (noRt, 1) by unfold revokeF; rw [if_pos hbad]) A c A' c')
  have HPT := Lib.hid (fun A c A' c' => put_at HTB hsm (show putF (⟨r.o, r.f, -1, r.rs, r.ws⟩ : Rt) = (⟨#[]⟩, 1) by unfold putF; rw [if_neg (by rw [hbad]; simp)]) A c A' c')
  have HRG := Lib.hid (fun A c A' c' => right_at HTB hsm hbad A c A' c')
  have HC1 := Lib.hid (fun A c A' c' => can_at HTB hsm ⟨#[97, 110, 110, 97]⟩ false (can_bad hbad _ _) A c A' c')
  have HC2 := Lib.hid (fun A c A' c' => can_at HTB hsm ⟨#[98, 101, 110]⟩ false (can_bad hbad _ _) A c A' c')
  clear hbad hsm
  refine (HGR.out Ar cr Br dr _ HB.out HRk.out).mono ?_
  rintro e W31 ⟨Ag, cg, Bg, dg, rfl, hr, hb0⟩
  obtain ⟨hb, hr'⟩ := boxed hb0 hr
  replace HB := Lib.hid (below_step HB.out hb)
  replace HXk := Lib.hid (HXk.out.below hb)
  replace HRk := Lib.hid (HRk.out.below hb)
  clear hr hb0 hb hr'
  obtain ⟨qk0, qk1, qk2, qk3, qk4⟩ := HXk.out.cell
  go_wp2_with fail
  refine (HRV.out Ar cr Br dr _ HB.out HRk.out).mono ?_
  rintro e W32 ⟨Av, cv, Bv, dv, rfl, hr, hb0⟩
  clear qk0 qk1 qk2 qk3 qk4
  obtain ⟨hb, hr'⟩ := boxed hb0 hr
  have HXv := Lib.hid (box_new W32 noRt (.slice Av noRt.rs.length cv) (.slice Bv noRt.ws.length dv))
  have hlv := hb0.size
  replace HB := Lib.hid (below_step HB.out hb)
  replace HXk := Lib.hid (HXk.out.below hb)
  replace HRk := Lib.hid (HRk.out.below hb)
  have HRv := Lib.hid (hr'.lower (Nat.zero_le _))
  clear hr hb0 hb hr' hlv
  clear HXv HRv
  obtain ⟨qk0, qk1, qk2, qk3, qk4⟩ := HXk.out.cell
  go_wp2_with fail
  refine (HPT.out Ar cr Br dr _ HB.out HRk.out).mono ?_
  rintro e W33 ⟨rfl, hb⟩
  clear qk0 qk1 qk2 qk3 qk4
  replace HB := Lib.hid (below_step HB.out hb)
  replace HXk := Lib.hid (HXk.out.below hb)
  replace HRk := Lib.hid (HRk.out.below hb)
  clear hb
  obtain ⟨qk0, qk1, qk2, qk3, qk4⟩ := HXk.out.cell
  go_wp2_with fail
  refine (HRG.out Ar cr Br dr _ HB.out HRk.out).mono ?_
  rintro e W34 ⟨rfl, hb⟩
  clear qk0 qk1 qk2 qk3 qk4
  replace HB := Lib.hid (below_step HB.out hb)
  replace HXk := Lib.hid (HXk.out.below hb)
  replace HRk := Lib.hid (HRk.out.below hb)
  clear hb
  obtain ⟨qk0, qk1, qk2, qk3, qk4⟩ := HXk.out.cell
  go_wp2_with fail
  refine (HC1.out Ar cr Br dr _ HB.out HRk.out).mono ?_
  rintro e W35 ⟨rfl, hb⟩
  clear qk0 qk1 qk2 qk3 qk4
  replace HB := Lib.hid (below_step HB.out hb)
  replace HXk := Lib.hid (HXk.out.below hb)
  replace HRk := Lib.hid (HRk.out.below hb)
  clear hb
  obtain ⟨qk0, qk1, qk2, qk3, qk4⟩ := HXk.out.cell
  go_wp2_with fail
  refine (HC2.out Ar cr Br dr _ HB.out HRk.out).mono ?_
  rintro e W36 ⟨rfl, hb⟩
  clear qk0 qk1 qk2 qk3 qk4
  replace HB := Lib.hid (below_step HB.out hb)
  replace HXk := Lib.hid (HXk.out.below hb)
  replace HRk := Lib.hid (HRk.out.below hb)
  clear hb
  go_wp2_with fail
  refine (HNZ.out _ HB.out).mono ?_
  rintro e W37 ⟨rfl, hb⟩
  replace HB := Lib.hid (below_step HB.out hb)
  replace HXk := Lib.hid (HXk.out.below hb)
  replace HRk := Lib.hid (HRk.out.below hb)
  clear hb
  go_wp2
  go_ret
  exact ⟨rfl, HB.out⟩
 ·obtain ⟨ys, hys⟩ : ∃ ys, ys = r.ws ++ [(⟨#[122, 122]⟩ : ByteArray), (⟨#[122, 121]⟩ : ByteArray)] := ⟨_, rfl⟩
  have NY := Lib.hid hys
  clear hys
  go_wp2_with (first | ((with_reducible refine gate_dst (N := 50) rfl ?_); refine Kd.R_lit Kd.string _ 9 ?hg (N := 50) ?hd (xs := ([(⟨#[122, 122]⟩ : ByteArray), (⟨#[122, 121]⟩ : ByteArray)] : List ByteArray)) (inner := [.string (⟨#[122, 122]⟩ : ByteArray), .string (⟨#[122, 121]⟩ : ByteArray)]) (ok := fun _ => True) (okp := fun _ => True) ?hr ?hp (fun _ hk => hk) trivial (Below.refl _ _) (Nat.le_refl _) (by simp) ?_; (case hd => rfl); (case hg => rfl); (case hr => first | (go_simp; done) | (go_simp; rfl)); (case hp => exact (Reps.one (show Kd.M Kd.string _ _ _ (⟨#[122, 122]⟩ : ByteArray) [.string (⟨#[122, 122]⟩ : ByteArray)] from rfl) (Reps.one (show Kd.M Kd.string _ _ _ (⟨#[122, 121]⟩ : ByteArray) [.string (⟨#[122, 121]⟩ : ByteArray)] from rfl) (Reps.none _ _)))); intro vl Ul ho hb hg_ hn_; clear hg_ hn_; have HOl := Lib.hid ho; have HBl := Lib.hid hb; clear ho hb; obtain ⟨Al, cl, el⟩ := Kd.R_slice HOl.out; subst el; replace HOb := Lib.hid (Kd.R_below HOb.out HBl.out); replace HBb := Lib.hid (below_step HBb.out HBl.out)) | ((with_reducible refine gate_builtin (b := .append) (xs := #[.tmp 49, .tmp 50]) rfl ?_); at_builtin; refine Kd.R_append_rows Kd.string _ rfl (.tmp 49) (.tmp 50) 24 9 (.string ⟨#[]⟩) 16 rfl Tryd.underlying24 infoStr rfl (by decide) (by omega) _ (r.ws) ([(⟨#[122, 122]⟩ : ByteArray), (⟨#[122, 121]⟩ : ByteArray)]) Al ([(⟨#[122, 122]⟩ : ByteArray), (⟨#[122, 121]⟩ : ByteArray)]).length cl (fun _ => True) (fun _ => False) rfl rfl (HOb.out) ((Kd.R_reads' HOl.out).2.2) (fun _ _ h => h) (fun _ h => h.elim) (fun _ _ => trivial) (HBb.out) (HBb.out.size) ?aL ?_; (case aL => (simp only [List.length_append, List.length_cons, List.length_nil]; omega)); intro vm Um ho hb hg hat; rw [← NY.out] at ho; have HOm : Hid (Kd.R Kd.string 9 Um _ (fun _ => True) vm ys) := Lib.hid ho; have HBm := Lib.hid hb; clear ho hb hg hat HOl HBl HBb HOb))
  have HB := Lib.hid (below_step HBs0.out HBm.out)
  have HXr := Lib.hid (HXs.out.below HBm.out)
  have HRr := Lib.hid (HRs.out.below HBm.out)
  clear HBm HXs HRs HBs0
  obtain ⟨Am, cm, em⟩ := Kd.R_slice HOm.out
  subst em
  have HCm := Lib.hid (Kd.R_reads' HOm.out).2.2
  have hlm := (Kd.R_reads' HOm.out).2.1
  have HN4 := Lib.hid (Kd.R_ne HOm.out (box_blk HXr.out) (by decide))
  clear HOm
  refine (HPK.out _).mono ?_
  rintro e W20 ⟨rfl, hb⟩
  replace HXr := Lib.hid (HXr.out.below hb)
  replace HRr := Lib.hid (HRr.out.below hb)
  replace HCm := Lib.hid (Kd.C_below HCm.out hb)
  replace HB := Lib.hid (below_step HB.out hb)
  clear hb
  obtain ⟨x0, x1, x2, x3, x4⟩ := HXr.out.cell
  have z4 := HXr.out.free 4
  go_wp2_with fail
  clear x0 x1 x2 x3 x4 z4
  have HX2 := Lib.hid (HXr.out.set4 (.slice Am ys.length cm))
  replace HB := Lib.hid (HB.out.setCell (p := ⟨P, 4, none⟩) HPS.out (.slice Am ys.length cm))
  replace HCm := Lib.hid (C_apart HCm.out (p := ⟨P, 4, none⟩) (fun ad e _ hh => HN4.out (by rw [e]; exact congrArg some hh.symm)) (.slice Am ys.length cm))
  replace HRr := Lib.hid (HRr.out.apart1 HOF.out 4 (.slice Am ys.length cm))
  clear HXr
  have hbad : rightR (⟨r.o, r.f, r.e, r.rs, ys⟩ : Rt) = false := (by rw [NY.out]; exact bad4 r)
  have hsm : smallR (⟨r.o, r.f, r.e, r.rs, ys⟩ : Rt) = true := (by rw [NY.out]; have h := small_more HG.out.1 (lr := []) (lw := [(⟨#[122, 122]⟩ : ByteArray), (⟨#[122, 121]⟩ : ByteArray)]) (by decide) (by decide) (by decide +kernel) (by decide +kernel); rwa [List.append_nil] at h)
  have HXk : Hid (BoxAt (W20.setCell ⟨P, 4, none⟩ (.slice Am ys.length cm)) P (⟨r.o, r.f, r.e, r.rs, ys⟩ : Rt) (.slice Ar r.rs.length cr) (.slice Am ys.length cm)) := Lib.hid HX2.out
  have HRk : Hid (RowsAt (W20.setCell ⟨P, 4, none⟩ (.slice Am ys.length cm)) 0 (⟨r.o, r.f, r.e, r.rs, ys⟩ : Rt) Ar cr Am cm) := Lib.hid ⟨HRr.out.h1, HRr.out.h2, HCm.out, hlm, fun _ _ => Nat.zero_le _, fun _ _ => Nat.zero_le _⟩
  clear HX2 HRr HCm
  have HGR := Lib.hid (fun A c A' c' => grant_at HTB hsm (u := ⟨#[121, 111]⟩) (by decide +kernel) true (show grantF (⟨r.o, r.f, r.e, r.rs, ys⟩ : Rt) _ _ = (noRt, 1) by unfold grantF; rw [if_pos hbad]) A c A' c')
  have HRV := Lib.hid (fun A c A' c' => revoke_at HTB hsm (u := ⟨#[122, 122]⟩) (by decide +kernel) (show revokeF (⟨r.o, r.f, r.e, r.rs, ys⟩ : Rt) _ = (noRt, 1) by unfold revokeF; rw [if_pos hbad]) A c A' c')
  have HPT := Lib.hid (fun A c A' c' => put_at HTB hsm (show putF (⟨r.o, r.f, r.e, r.rs, ys⟩ : Rt) = (⟨#[]⟩, 1) by unfold putF; rw [if_neg (by rw [hbad]; simp)]) A c A' c')
  have HRG := Lib.hid (fun A c A' c' => right_at HTB hsm hbad A c A' c')
  have HC1 := Lib.hid (fun A c A' c' => can_at HTB hsm ⟨#[97, 110, 110, 97]⟩ false (can_bad hbad _ _) A c A' c')
  have HC2 := Lib.hid (fun A c A' c' => can_at HTB hsm ⟨#[98, 101, 110]⟩ false (can_bad hbad _ _) A c A' c')
  clear hbad hsm
  refine (HGR.out Ar cr Am cm _ HB.out HRk.out).mono ?_
  rintro e W31 ⟨Ag, cg, Bg, dg, rfl, hr, hb0⟩
  obtain ⟨hb, hr'⟩ := boxed hb0 hr
  replace HB := Lib.hid (below_step HB.out hb)
  replace HXk := Lib.hid (HXk.out.below hb)
  replace HRk := Lib.hid (HRk.out.below hb)
  clear hr hb0 hb hr'
  obtain ⟨qk0, qk1, qk2, qk3, qk4⟩ := HXk.out.cell
  go_wp2_with fail
  refine (HRV.out Ar cr Am cm _ HB.out HRk.out).mono ?_
  rintro e W32 ⟨Av, cv, Bv, dv, rfl, hr, hb0⟩
  clear qk0 qk1 qk2 qk3 qk4
  obtain ⟨hb, hr'⟩ := boxed hb0 hr
  have HXv := Lib.hid (box_new W32 noRt (.slice Av noRt.rs.length cv) (.slice Bv noRt.ws.length dv))
  have hlv := hb0.size
  replace HB := Lib.hid (below_step HB.out hb)
  replace HXk := Lib.hid (HXk.out.below hb)
  replace HRk := Lib.hid (HRk.out.below hb)
  have HRv := Lib.hid (hr'.lower (Nat.zero_le _))
  clear hr hb0 hb hr' hlv
  clear HXv HRv
  obtain ⟨qk0, qk1, qk2, qk3, qk4⟩ := HXk.out.cell
  go_wp2_with fail
  refine (HPT.out Ar cr Am cm _ HB.out HRk.out).mono ?_
  rintro e W33 ⟨rfl, hb⟩
  clear qk0 qk1 qk2 qk3 qk4
  replace HB := Lib.hid (below_step HB.out hb)
  replace HXk := Lib.hid (HXk.out.below hb)
  replace HRk := Lib.hid (HRk.out.below hb)
  clear hb
  obtain ⟨qk0, qk1, qk2, qk3, qk4⟩ := HXk.out.cell
  go_wp2_with fail
  refine (HRG.out Ar cr Am cm _ HB.out HRk.out).mono ?_
  rintro e W34 ⟨rfl, hb⟩
  clear qk0 qk1 qk2 qk3 qk4
  replace HB := Lib.hid (below_step HB.out hb)
  replace HXk := Lib.hid (HXk.out.below hb)
  replace HRk := Lib.hid (HRk.out.below hb)
  clear hb
  obtain ⟨qk0, qk1, qk2, qk3, qk4⟩ := HXk.out.cell
  go_wp2_with fail
  refine (HC1.out Ar cr Am cm _ HB.out HRk.out).mono ?_
  rintro e W35 ⟨rfl, hb⟩
  clear qk0 qk1 qk2 qk3 qk4
  replace HB := Lib.hid (below_step HB.out hb)
  replace HXk := Lib.hid (HXk.out.below hb)
  replace HRk := Lib.hid (HRk.out.below hb)
  clear hb
  obtain ⟨qk0, qk1, qk2, qk3, qk4⟩ := HXk.out.cell
  go_wp2_with fail
  refine (HC2.out Ar cr Am cm _ HB.out HRk.out).mono ?_
  rintro e W36 ⟨rfl, hb⟩
  clear qk0 qk1 qk2 qk3 qk4
  replace HB := Lib.hid (below_step HB.out hb)
  replace HXk := Lib.hid (HXk.out.below hb)
  replace HRk := Lib.hid (HRk.out.below hb)
  clear hb
  go_wp2_with fail
  refine (HNZ.out _ HB.out).mono ?_
  rintro e W37 ⟨rfl, hb⟩
  replace HB := Lib.hid (below_step HB.out hb)
  replace HXk := Lib.hid (HXk.out.below hb)
  replace HRk := Lib.hid (HRk.out.below hb)
  clear hb
  go_wp2
  go_ret
  exact ⟨rfl, HB.out⟩
 ·go_wp2_with (first | ((with_reducible refine gate_dst (N := 54) rfl ?_); refine Kd.R_lit Kd.string _ 9 ?hg (N := 54) ?hd (xs := ([(⟨#[97, 110, 110, 97]⟩ : ByteArray)] : List ByteArray)) (inner := [.string (⟨#[97, 110, 110, 97]⟩ : ByteArray)]) (ok := fun _ => True) (okp := fun _ => True) ?hr ?hp (fun _ hk => hk) trivial (Below.refl _ _) (Nat.le_refl _) (by simp) ?_; (case hd => rfl); (case hg => rfl); (case hr => first | (go_simp; done) | (go_simp; rfl)); (case hp => exact (Reps.one (show Kd.M Kd.string _ _ _ (⟨#[97, 110, 110, 97]⟩ : ByteArray) [.string (⟨#[97, 110, 110, 97]⟩ : ByteArray)] from rfl) (Reps.none _ _))); intro vl Ul ho hb hg_ hn_; clear hg_ hn_; have HOl := Lib.hid ho; have HBl := Lib.hid hb; clear ho hb) | ((with_reducible refine gate_builtin (b := .append) (xs := #[.tmp 54, .tmp 55]) rfl ?_); at_builtin; refine Kd.R_append_rows Kd.string _ rfl (.tmp 54) (.tmp 55) 24 9 (.string ⟨#[]⟩) 16 rfl Tryd.underlying24 infoStr rfl (by decide) (by omega) _ ([(⟨#[97, 110, 110, 97]⟩ : ByteArray)]) (r.ws) Ab (r.ws).length cb (fun _ => True) (fun _ => False) rfl rfl (HOl.out) (Kd.C_below (Kd.R_reads' HOb.out).2.2 HBl.out) (fun _ _ h => h) (fun _ h => h.elim) (fun _ _ => trivial) (HBl.out) (HBl.out.size) ?aL ?_; (case aL => (simp only [List.length_append, List.length_cons, List.length_nil]; omega)); intro vm Um ho hb hg hat; have HOm : Hid (Kd.R Kd.string 9 Um _ (fun _ => True) vm ([(⟨#[97, 110, 110, 97]⟩ : ByteArray)] ++ r.ws)) := Lib.hid ho; have HBm := Lib.hid hb; clear ho hb hg hat HOl HBl))
  replace HBb := Lib.hid (below_step HBb.out HBm.out)
  replace HB := Lib.hid (below_step HB.out HBm.out)
  replace HXr := Lib.hid (HXr.out.below HBm.out)
  replace HRr := Lib.hid (HRr.out.below HBm.out)
  clear HBm HOb
  obtain ⟨Am, cm, em⟩ := Kd.R_slice HOm.out
  subst em
  have HCm := Lib.hid (Kd.R_reads' HOm.out).2.2
  have hlm := (Kd.R_reads' HOm.out).2.1
  have HN4 := Lib.hid (Kd.R_ne HOm.out (box_blk HXr.out) (by decide))
  clear HOm
  refine (HPK.out _).mono ?_
  rintro e W20 ⟨rfl, hb⟩
  replace HXr := Lib.hid (HXr.out.below hb)
  replace HRr := Lib.hid (HRr.out.below hb)
  replace HCm := Lib.hid (Kd.C_below HCm.out hb)
  replace HB := Lib.hid (below_step HB.out hb)
  clear hb
  obtain ⟨x0, x1, x2, x3, x4⟩ := HXr.out.cell
  have z4 := HXr.out.free 4
  go_wp2_with fail
  clear x0 x1 x2 x3 x4 z4
  have HX2 := Lib.hid (HXr.out.set4 (.slice Am ([(⟨#[97, 110, 110, 97]⟩ : ByteArray)] ++ r.ws).length cm))
  replace HB := Lib.hid (HB.out.setCell (p := ⟨P, 4, none⟩) HPS.out (.slice Am ([(⟨#[97, 110, 110, 97]⟩ : ByteArray)] ++ r.ws).length cm))
  replace HCm := Lib.hid (C_apart HCm.out (p := ⟨P, 4, none⟩) (fun ad e _ hh => HN4.out (by rw [e]; exact congrArg some hh.symm)) (.slice Am ([(⟨#[97, 110, 110, 97]⟩ : ByteArray)] ++ r.ws).length cm))
  replace HRr := Lib.hid (HRr.out.apart1 HOF.out 4 (.slice Am ([(⟨#[97, 110, 110, 97]⟩ : ByteArray)] ++ r.ws).length cm))
  clear HXr
  have hbad : rightR (⟨r.o, r.f, r.e, r.rs, ([(⟨#[97, 110, 110, 97]⟩ : ByteArray)] ++ r.ws)⟩ : Rt) = false := bad5 HG.out
  have hsm : smallR (⟨r.o, r.f, r.e, r.rs, ([(⟨#[97, 110, 110, 97]⟩ : ByteArray)] ++ r.ws)⟩ : Rt) = true := small_ahead HG.out.1
  have HXk : Hid (BoxAt (W20.setCell ⟨P, 4, none⟩ (.slice Am ([(⟨#[97, 110, 110, 97]⟩ : ByteArray)] ++ r.ws).length cm)) P (⟨r.o, r.f, r.e, r.rs, ([(⟨#[97, 110, 110, 97]⟩ : ByteArray)] ++ r.ws)⟩ : Rt) (.slice Ar r.rs.length cr) (.slice Am ([(⟨#[97, 110, 110, 97]⟩ : ByteArray)] ++ r.ws).length cm)) := Lib.hid HX2.out
  have HRk : Hid (RowsAt (W20.setCell ⟨P, 4, none⟩ (.slice Am ([(⟨#[97, 110, 110, 97]⟩ : ByteArray)] ++ r.ws).length cm)) 0 (⟨r.o, r.f, r.e, r.rs, ([(⟨#[97, 110, 110, 97]⟩ : ByteArray)] ++ r.ws)⟩ : Rt) Ar cr Am cm) := Lib.hid ⟨HRr.out.h1, HRr.out.h2, HCm.out, hlm, fun _ _ => Nat.zero_le _, fun _ _ => Nat.zero_le _⟩
  clear HX2 HRr HCm
  have HGR := Lib.hid (fun A c A' c' => grant_at HTB hsm (u := ⟨#[121, 111]⟩) (by decide +kernel) true (show grantF (⟨r.o, r.f, r.e, r.rs, ([(⟨#[97, 110, 110, 97]⟩ : ByteArray)] ++ r.ws)⟩ : Rt) _ _ = (noRt, 1) by unfold grantF; rw [if_pos hbad]) A c A' c')
  have HRV := Lib.hid (fun A c A' c' => revoke_at HTB hsm (u := ⟨#[122, 122]⟩) (by decide +kernel) (show revokeF (⟨r.o, r.f, r.e, r.rs, ([(⟨#[97, 110, 110, 97]⟩ : ByteArray)] ++ r.ws)⟩ : Rt) _ = (noRt, 1) by unfold revokeF; rw [if_pos hbad]) A c A' c')
  have HPT := Lib.hid (fun A c A' c' => put_at HTB hsm (show putF (⟨r.o, r.f, r.e, r.rs, ([(⟨#[97, 110, 110, 97]⟩ : ByteArray)] ++ r.ws)⟩ : Rt) = (⟨#[]⟩, 1) by unfold putF; rw [if_neg (by rw [hbad]; simp)]) A c A' c')
  have HRG := Lib.hid (fun A c A' c' => right_at HTB hsm hbad A c A' c')
  have HC1 := Lib.hid (fun A c A' c' => can_at HTB hsm ⟨#[97, 110, 110, 97]⟩ false (can_bad hbad _ _) A c A' c')
  have HC2 := Lib.hid (fun A c A' c' => can_at HTB hsm ⟨#[98, 101, 110]⟩ false (can_bad hbad _ _) A c A' c')
  clear hbad hsm
  refine (HGR.out Ar cr Am cm _ HB.out HRk.out).mono ?_
  rintro e W31 ⟨Ag, cg, Bg, dg, rfl, hr, hb0⟩
  obtain ⟨hb, hr'⟩ := boxed hb0 hr
  replace HB := Lib.hid (below_step HB.out hb)
  replace HXk := Lib.hid (HXk.out.below hb)
  replace HRk := Lib.hid (HRk.out.below hb)
  clear hr hb0 hb hr'
  obtain ⟨qk0, qk1, qk2, qk3, qk4⟩ := HXk.out.cell
  go_wp2_with fail
  refine (HRV.out Ar cr Am cm _ HB.out HRk.out).mono ?_
  rintro e W32 ⟨Av, cv, Bv, dv, rfl, hr, hb0⟩
  clear qk0 qk1 qk2 qk3 qk4
  obtain ⟨hb, hr'⟩ := boxed hb0 hr
  have HXv := Lib.hid (box_new W32 noRt (.slice Av noRt.rs.length cv) (.slice Bv noRt.ws.length dv))
  have hlv := hb0.size
  replace HB := Lib.hid (below_step HB.out hb)
  replace HXk := Lib.hid (HXk.out.below hb)
  replace HRk := Lib.hid (HRk.out.below hb)
  have HRv := Lib.hid (hr'.lower (Nat.zero_le _))
  clear hr hb0 hb hr' hlv
  clear HXv HRv
  obtain ⟨qk0, qk1, qk2, qk3, qk4⟩ := HXk.out.cell
  go_wp2_with fail
  refine (HPT.out Ar cr Am cm _ HB.out HRk.out).mono ?_
  rintro e W33 ⟨rfl, hb⟩
  clear qk0 qk1 qk2 qk3 qk4
  replace HB := Lib.hid (below_step HB.out hb)
  replace HXk := Lib.hid (HXk.out.below hb)
  replace HRk := Lib.hid (HRk.out.below hb)
  clear hb
  obtain ⟨qk0, qk1, qk2, qk3, qk4⟩ := HXk.out.cell
  go_wp2_with fail
  refine (HRG.out Ar cr Am cm _ HB.out HRk.out).mono ?_
  rintro e W34 ⟨rfl, hb⟩
  clear qk0 qk1 qk2 qk3 qk4
  replace HB := Lib.hid (below_step HB.out hb)
  replace HXk := Lib.hid (HXk.out.below hb)
  replace HRk := Lib.hid (HRk.out.below hb)
  clear hb
  obtain ⟨qk0, qk1, qk2, qk3, qk4⟩ := HXk.out.cell
  go_wp2_with fail
  refine (HC1.out Ar cr Am cm _ HB.out HRk.out).mono ?_
  rintro e W35 ⟨rfl, hb⟩
  clear qk0 qk1 qk2 qk3 qk4
  replace HB := Lib.hid (below_step HB.out hb)
  replace HXk := Lib.hid (HXk.out.below hb)
  replace HRk := Lib.hid (HRk.out.below hb)
  clear hb
  obtain ⟨qk0, qk1, qk2, qk3, qk4⟩ := HXk.out.cell
  go_wp2_with fail
  refine (HC2.out Ar cr Am cm _ HB.out HRk.out).mono ?_
  rintro e W36 ⟨rfl, hb⟩
  clear qk0 qk1 qk2 qk3 qk4
  replace HB := Lib.hid (below_step HB.out hb)
  replace HXk := Lib.hid (HXk.out.below hb)
  replace HRk := Lib.hid (HRk.out.below hb)
  clear hb
  go_wp2_with fail
  refine (HNZ.out _ HB.out).mono ?_
  rintro e W37 ⟨rfl, hb⟩
  replace HB := Lib.hid (below_step HB.out hb)
  replace HXk := Lib.hid (HXk.out.below hb)
  replace HRk := Lib.hid (HRk.out.below hb)
  clear hb
  go_wp2
  go_ret
  exact ⟨rfl, HB.out⟩
 ·obtain ⟨ys, hys⟩ : ∃ ys, ys = r.ws ++ [(⟨#[122, 122]⟩ : ByteArray), (⟨#[122, 122]⟩ : ByteArray)] := ⟨_, rfl⟩
  have NY := Lib.hid hys
  clear hys
  go_wp2_with (first | ((with_reducible refine gate_dst (N := 60) rfl ?_); refine Kd.R_lit Kd.string _ 9 ?hg (N := 60) ?hd (xs := ([(⟨#[122, 122]⟩ : ByteArray), (⟨#[122, 122]⟩ : ByteArray)] : List ByteArray)) (inner := [.string (⟨#[122, 122]⟩ : ByteArray), .string (⟨#[122, 122]⟩ : ByteArray)]) (ok := fun _ => True) (okp := fun _ => True) ?hr ?hp (fun _ hk => hk) trivial (Below.refl _ _) (Nat.le_refl _) (by simp) ?_; (case hd => rfl); (case hg => rfl); (case hr => first | (go_simp; done) | (go_simp; rfl)); (case hp => exact (Reps.one (show Kd.M Kd.string _ _ _ (⟨#[122, 122]⟩ : ByteArray) [.string (⟨#[122, 122]⟩ : ByteArray)] from rfl) (Reps.one (show Kd.M Kd.string _ _ _ (⟨#[122, 122]⟩ : ByteArray) [.string (⟨#[122, 122]⟩ : ByteArray)] from rfl) (Reps.none _ _)))); intro vl Ul ho hb hg_ hn_; clear hg_ hn_; have HOl := Lib.hid ho; have HBl := Lib.hid hb; clear ho hb; obtain ⟨Al, cl, el⟩ := Kd.R_slice HOl.out; subst el; replace HOb := Lib.hid (Kd.R_below HOb.out HBl.out); replace HBb := Lib.hid (below_step HBb.out HBl.out)) | ((with_reducible refine gate_builtin (b := .append) (xs := #[.tmp 59, .tmp 60]) rfl ?_); at_builtin; refine Kd.R_append_rows Kd.string _ rfl (.tmp 59) (.tmp 60) 24 9 (.string ⟨#[]⟩) 16 rfl Tryd.underlying24 infoStr rfl (by decide) (by omega) _ (r.ws) ([(⟨#[122, 122]⟩ : ByteArray), (⟨#[122, 122]⟩ : ByteArray)]) Al ([(⟨#[122, 122]⟩ : ByteArray), (⟨#[122, 122]⟩ : ByteArray)]).length cl (fun _ => True) (fun _ => False) rfl rfl (HOb.out) ((Kd.R_reads' HOl.out).2.2) (fun _ _ h => h) (fun _ h => h.elim) (fun _ _ => trivial) (HBb.out) (HBb.out.size) ?aL ?_; (case aL => (simp only [List.length_append, List.length_cons, List.length_nil]; omega)); intro vm Um ho hb hg hat; rw [← NY.out] at ho; have HOm : Hid (Kd.R Kd.string 9 Um _ (fun _ => True) vm ys) := Lib.hid ho; have HBm := Lib.hid hb; clear ho hb hg hat HOl HBl HBb HOb))
  have HB := Lib.hid (below_step HBs0.out HBm.out)
  have HXr := Lib.hid (HXs.out.below HBm.out)
  have HRr := Lib.hid (HRs.out.below HBm.out)
  clear HBm HXs HRs HBs0
  obtain ⟨Am, cm, em⟩ := Kd.R_slice HOm.out
  subst em
  have HCm := Lib.hid (Kd.R_reads' HOm.out).2.2
  have hlm := (Kd.R_reads' HOm.out).2.1
  have HN4 := Lib.hid (Kd.R_ne HOm.out (box_blk HXr.out) (by decide))
  clear HOm
  refine (HPK.out _).mono ?_
  rintro e W20 ⟨rfl, hb⟩
  replace HXr := Lib.hid (HXr.out.below hb)
  replace HRr := Lib.hid (HRr.out.below hb)
  replace HCm := Lib.hid (Kd.C_below HCm.out hb)
  replace HB := Lib.hid (below_step HB.out hb)
  clear hb
  obtain ⟨x0, x1, x2, x3, x4⟩ := HXr.out.cell
  have z4 := HXr.out.free 4
  go_wp2_with fail
  clear x0 x1 x2 x3 x4 z4
  have HX2 := Lib.hid (HXr.out.set4 (.slice Am ys.length cm))
  replace HB := Lib.hid (HB.out.setCell (p := ⟨P, 4, none⟩) HPS.out (.slice Am ys.length cm))
  replace HCm := Lib.hid (C_apart HCm.out (p := ⟨P, 4, none⟩) (fun ad e _ hh => HN4.out (by rw [e]; exact congrArg some hh.symm)) (.slice Am ys.length cm))
  replace HRr := Lib.hid (HRr.out.apart1 HOF.out 4 (.slice Am ys.length cm))
  clear HXr
  have hbad : rightR (⟨r.o, r.f, r.e, r.rs, ys⟩ : Rt) = false := (by rw [NY.out]; exact bad6 r)
  have hsm : smallR (⟨r.o, r.f, r.e, r.rs, ys⟩ : Rt) = true := (by rw [NY.out]; have h := small_more HG.out.1 (lr := []) (lw := [(⟨#[122, 122]⟩ : ByteArray), (⟨#[122, 122]⟩ : ByteArray)]) (by decide) (by decide) (by decide +kernel) (by decide +kernel); rwa [List.append_nil] at h)
  have HXk : Hid (BoxAt (W20.setCell ⟨P, 4, none⟩ (.slice Am ys.length cm)) P (⟨r.o, r.f, r.e, r.rs, ys⟩ : Rt) (.slice Ar r.rs.length cr) (.slice Am ys.length cm)) := Lib.hid HX2.out
  have HRk : Hid (RowsAt (W20.setCell ⟨P, 4, none⟩ (.slice Am ys.length cm)) 0 (⟨r.o, r.f, r.e, r.rs, ys⟩ : Rt) Ar cr Am cm) := Lib.hid ⟨HRr.out.h1, HRr.out.h2, HCm.out, hlm, fun _ _ => Nat.zero_le _, fun _ _ => Nat.zero_le _⟩
  clear HX2 HRr HCm
  have HGR := Lib.hid (fun A c A' c' => grant_at HTB hsm (u := ⟨#[121, 111]⟩) (by decide +kernel) true (show grantF (⟨r.o, r.f, r.e, r.rs, ys⟩ : Rt) _ _ = (noRt, 1) by unfold grantF; rw [if_pos hbad]) A c A' c')
  have HRV := Lib.hid (fun A c A' c' => revoke_at HTB hsm (u := ⟨#[122, 122]⟩) (by decide +kernel) (show revokeF (⟨r.o, r.f, r.e, r.rs, ys⟩ : Rt) _ = (noRt, 1) by unfold revokeF; rw [if_pos hbad]) A c A' c')
  have HPT := Lib.hid (fun A c A' c' => put_at HTB hsm (show putF (⟨r.o, r.f, r.e, r.rs, ys⟩ : Rt) = (⟨#[]⟩, 1) by unfold putF; rw [if_neg (by rw [hbad]; simp)]) A c A' c')
  have HRG := Lib.hid (fun A c A' c' => right_at HTB hsm hbad A c A' c')
  have HC1 := Lib.hid (fun A c A' c' => can_at HTB hsm ⟨#[97, 110, 110, 97]⟩ false (can_bad hbad _ _) A c A' c')
  have HC2 := Lib.hid (fun A c A' c' => can_at HTB hsm ⟨#[98, 101, 110]⟩ false (can_bad hbad _ _) A c A' c')
  clear hbad hsm
  refine (HGR.out Ar cr Am cm _ HB.out HRk.out).mono ?_
  rintro e W31 ⟨Ag, cg, Bg, dg, rfl, hr, hb0⟩
  obtain ⟨hb, hr'⟩ := boxed hb0 hr
  replace HB := Lib.hid (below_step HB.out hb)
  replace HXk := Lib.hid (HXk.out.below hb)
  replace HRk := Lib.hid (HRk.out.below hb)
  clear hr hb0 hb hr'
  obtain ⟨qk0, qk1, qk2, qk3, qk4⟩ := HXk.out.cell
  go_wp2_with fail
  refine (HRV.out Ar cr Am cm _ HB.out HRk.out).mono ?_
  rintro e W32 ⟨Av, cv, Bv, dv, rfl, hr, hb0⟩
  clear qk0 qk1 qk2 qk3 qk4
  obtain ⟨hb, hr'⟩ := boxed hb0 hr
  have HXv := Lib.hid (box_new W32 noRt (.slice Av noRt.rs.length cv) (.slice Bv noRt.ws.length dv))
  have hlv := hb0.size
  replace HB := Lib.hid (below_step HB.out hb)
  replace HXk := Lib.hid (HXk.out.below hb)
  replace HRk := Lib.hid (HRk.out.below hb)
  have HRv := Lib.hid (hr'.lower (Nat.zero_le _))
  clear hr hb0 hb hr' hlv
  clear HXv HRv
  obtain ⟨qk0, qk1, qk2, qk3, qk4⟩ := HXk.out.cell
  go_wp2_with fail
  refine (HPT.out Ar cr Am cm _ HB.out HRk.out).mono ?_
  rintro e W33 ⟨rfl, hb⟩
  clear qk0 qk1 qk2 qk3 qk4
  replace HB := Lib.hid (below_step HB.out hb)
  replace HXk := Lib.hid (HXk.out.below hb)
  replace HRk := Lib.hid (HRk.out.below hb)
  clear hb
  obtain ⟨qk0, qk1, qk2, qk3, qk4⟩ := HXk.out.cell
  go_wp2_with fail
  refine (HRG.out Ar cr Am cm _ HB.out HRk.out).mono ?_
  rintro e W34 ⟨rfl, hb⟩
  clear qk0 qk1 qk2 qk3 qk4
  replace HB := Lib.hid (below_step HB.out hb)
  replace HXk := Lib.hid (HXk.out.below hb)
  replace HRk := Lib.hid (HRk.out.below hb)
  clear hb
  obtain ⟨qk0, qk1, qk2, qk3, qk4⟩ := HXk.out.cell
  go_wp2_with fail
  refine (HC1.out Ar cr Am cm _ HB.out HRk.out).mono ?_
  rintro e W35 ⟨rfl, hb⟩
  clear qk0 qk1 qk2 qk3 qk4
  replace HB := Lib.hid (below_step HB.out hb)
  replace HXk := Lib.hid (HXk.out.below hb)
  replace HRk := Lib.hid (HRk.out.below hb)
  clear hb
  obtain ⟨qk0, qk1, qk2, qk3, qk4⟩ := HXk.out.cell
  go_wp2_with fail
  refine (HC2.out Ar cr Am cm _ HB.out HRk.out).mono ?_
  rintro e W36 ⟨rfl, hb⟩
  clear qk0 qk1 qk2 qk3 qk4
  replace HB := Lib.hid (below_step HB.out hb)
  replace HXk := Lib.hid (HXk.out.below hb)
  replace HRk := Lib.hid (HRk.out.below hb)
  clear hb
  go_wp2_with fail
  refine (HNZ.out _ HB.out).mono ?_
  rintro e W37 ⟨rfl, hb⟩
  replace HB := Lib.hid (below_step HB.out hb)
  replace HXk := Lib.hid (HXk.out.below hb)
  replace HRk := Lib.hid (HRk.out.below hb)
  clear hb
  go_wp2
  go_ret
  exact ⟨rfl, HB.out⟩
 ·have HX0 := Lib.hid HXs.out
  have HR0 := Lib.hid HRs.out
  have HB0 := Lib.hid HBs0.out
  clear HXs HRs HBs0
  obtain ⟨ys, hys⟩ : ∃ ys, ys = r.ws ++ [(⟨#[122, 122]⟩ : ByteArray)] := ⟨_, rfl⟩
  have NY := Lib.hid hys
  clear hys
  obtain ⟨zs, hzs⟩ : ∃ zs, zs = r.rs ++ [(⟨#[122, 122]⟩ : ByteArray)] := ⟨_, rfl⟩
  have NZ := Lib.hid hzs
  clear hzs
  go_wp2_with (first | ((with_reducible refine gate_dst (N := 26) rfl ?_); refine Kd.R_lit Kd.string _ 9 ?hg (N := 26) ?hd (xs := ([(⟨#[122, 122]⟩ : ByteArray)] : List ByteArray)) (inner := [.string (⟨#[122, 122]⟩ : ByteArray)]) (ok := fun _ => True) (okp := fun _ => True) ?hr ?hp (fun _ hk => hk) trivial (Below.refl _ _) (Nat.le_refl _) (by simp) ?_; (case hd => rfl); (case hg => rfl); (case hr => first | (go_simp; done) | (go_simp; rfl)); (case hp => exact (Reps.one (show Kd.M Kd.string _ _ _ (⟨#[122, 122]⟩ : ByteArray) [.string (⟨#[122, 122]⟩ : ByteArray)] from rfl) (Reps.none _ _))); intro vl Ul ho hb hg_ hn_; clear hg_ hn_; have HOl := Lib.hid ho; have HBl := Lib.hid hb; clear ho hb; obtain ⟨Al, cl, el⟩ := Kd.R_slice HOl.out; subst el; replace HOb := Lib.hid (Kd.R_below HOb.out HBl.out); replace HBb := Lib.hid (below_step HBb.out HBl.out)) | ((with_reducible refine gate_builtin (b := .append) (xs := #[.tmp 25, .tmp 26]) rfl ?_); at_builtin; refine Kd.R_append_rows Kd.string _ rfl (.tmp 25) (.tmp 26) 24 9 (.string ⟨#[]⟩) 16 rfl Tryd.underlying24 infoStr rfl (by decide) (by omega) _ (r.ws) ([(⟨#[122, 122]⟩ : ByteArray)]) Al ([(⟨#[122, 122]⟩ : ByteArray)]).length cl (fun _ => True) (fun _ => False) rfl rfl (HOb.out) ((Kd.R_reads' HOl.out).2.2) (fun _ _ h => h) (fun _ h => h.elim) (fun _ _ => trivial) (HBb.out) (HBb.out.size) ?aL ?_; (case aL => (simp only [List.length_append, List.length_cons, List.length_nil]; omega)); intro vm Um ho hb hg hat; rw [← NY.out] at ho; have HOm : Hid (Kd.R Kd.string 9 Um _ (fun _ => True) vm ys) := Lib.hid ho; have HBm := Lib.hid hb; clear ho hb hg hat HOl HBl HBb HOb; obtain ⟨Am, cm, em⟩ := Kd.R_slice HOm.out; subst em; replace HX0 := Lib.hid (HX0.out.below HBm.out); have p3 := HX0.out.cell.2.2.2.1; have HN4 := Lib.hid (Kd.R_ne HOm.out (box_blk HX0.out) (by decide)); replace HR0 := Lib.hid (HR0.out.below HBm.out); replace HB0 := Lib.hid (below_step HB0.out HBm.out)) | ((with_reducible refine gate_dst (N := 28) rfl ?_); refine Kd.R_lit Kd.string _ 9 ?hg (N := 28) ?hd (xs := ([] : List ByteArray)) (inner := []) (ok := fun _ => True) (okp := fun _ => True) ?hr ?hp (fun _ hk => hk) trivial (Below.refl _ _) (Nat.le_refl _) (by simp) ?_; (case hd => rfl); (case hg => rfl); (case hr => first | (go_simp; done) | (go_simp; rfl)); (case hp => exact (Reps.none _ _)); intro vn Un ho hb hg_ hn_; clear hg_ hn_; have HOn := Lib.hid ho; have HBn := Lib.hid hb; clear ho hb p3; have p3 := (HX0.out.below HBn.out).cell.2.2.2.1) | ((with_reducible refine gate_builtin (b := .append) (xs := #[.tmp 28, .tmp 30]) rfl ?_); at_builtin; refine Kd.R_append_rows Kd.string _ rfl (.tmp 28) (.tmp 30) 24 9 (.string ⟨#[]⟩) 16 rfl Tryd.underlying24 infoStr rfl (by decide) (by omega) _ ([]) (r.rs) Ar (r.rs).length cr (fun _ => True) (fun _ => False) rfl rfl (HOn.out) (Kd.C_below HR0.out.h1 HBn.out) (fun _ _ h => h) (fun _ h => h.elim) (fun _ _ => trivial) (HBn.out) (HBn.out.size) ?aL ?_; (case aL => (simp only [List.length_append, List.length_cons, List.length_nil]; omega)); intro vs Us ho hb hg hat; have HOs : Hid (Kd.R Kd.string 9 Us _ (fun _ => True) vs r.rs) := Lib.hid ho; have HBs := Lib.hid hb; clear ho hb hg hat HOn HBn p3) | ((with_reducible refine gate_dst (N := 32) rfl ?_); refine Kd.R_lit Kd.string _ 9 ?hg (N := 32) ?hd (xs := ([(⟨#[122, 122]⟩ : ByteArray)] : List ByteArray)) (inner := [.string (⟨#[122, 122]⟩ : ByteArray)]) (ok := fun _ => True) (okp := fun _ => True) ?hr ?hp (fun _ hk => hk) trivial (Below.refl _ _) (Nat.le_refl _) (by simp) ?_; (case hd => rfl); (case hg => rfl); (case hr => first | (go_simp; done) | (go_simp; rfl)); (case hp => exact (Reps.one (show Kd.M Kd.string _ _ _ (⟨#[122, 122]⟩ : ByteArray) [.string (⟨#[122, 122]⟩ : ByteArray)] from rfl) (Reps.none _ _))); intro vu Uu ho hb hg_ hn_; clear hg_ hn_; have HOu := Lib.hid ho; have HBu := Lib.hid hb; clear ho hb; obtain ⟨Au, cu, eu⟩ := Kd.R_slice HOu.out; subst eu; replace HOs := Lib.hid (Kd.R_below HOs.out HBu.out); replace HBs := Lib.hid (below_step HBs.out HBu.out)) | ((with_reducible refine gate_builtin (b := .append) (xs := #[.tmp 31, .tmp 32]) rfl ?_); at_builtin; refine Kd.R_append_rows Kd.string _ rfl (.tmp 31) (.tmp 32) 24 9 (.string ⟨#[]⟩) 16 rfl Tryd.underlying24 infoStr rfl (by decide) (by omega) _ (r.rs) ([(⟨#[122, 122]⟩ : ByteArray)]) Au ([(⟨#[122, 122]⟩ : ByteArray)]).length cu (fun _ => True) (fun _ => False) rfl rfl (HOs.out) ((Kd.R_reads' HOu.out).2.2) (fun _ _ h => h) (fun _ h => h.elim) (fun _ _ => trivial) (HBs.out) (HBs.out.size) ?aL ?_; (case aL => (simp only [List.length_append, List.length_cons, List.length_nil]; omega)); intro vy Uy ho hb hg hat; rw [← NZ.out] at ho; have HOy : Hid (Kd.R Kd.string 9 Uy _ (fun _ => True) vy zs) := Lib.hid ho; have HBy := Lib.hid hb; clear ho hb hg hat HOu HBu HBs HOs; replace HX0 := Lib.hid (HX0.out.below HBy.out); obtain ⟨x0, x1, x2, x3, x4⟩ := HX0.out.cell; have z3 := HX0.out.free 3; obtain ⟨Ay, cy, ey⟩ := Kd.R_slice HOy.out; subst ey; have HN3 := Lib.hid (Kd.R_ne HOy.out (box_blk HX0.out) (by decide))))
  clear x0 x1 x2 x3 x4 z3
  have HCm := Lib.hid (Kd.C_below (Kd.R_reads' HOm.out).2.2 HBy.out)
  have hlm := (Kd.R_reads' HOm.out).2.1
  have HCy := Lib.hid (Kd.R_reads' HOy.out).2.2
  have hly := (Kd.R_reads' HOy.out).2.1
  have HX2 := Lib.hid (HX0.out.set3 (.slice Ay zs.length cy))
  have HB2 := Lib.hid ((below_step HB0.out HBy.out).setCell (p := ⟨P, 3, none⟩) HPS.out (.slice Ay zs.length cy))
  replace HCm := Lib.hid (C_apart HCm.out (p := ⟨P, 3, none⟩) (fun ad e _ hh => HN4.out (by rw [e]; exact congrArg some hh.symm)) (.slice Ay zs.length cy))
  replace HCy := Lib.hid (C_apart HCy.out (p := ⟨P, 3, none⟩) (fun ad e _ hh => HN3.out (by rw [e]; exact congrArg some hh.symm)) (.slice Ay zs.length cy))
  clear HX0 HR0 HB0 HOm HOy HBm HBy HXr HRr HB
  refine (HPK.out _).mono ?_
  rintro e W20 ⟨rfl, hb⟩
  replace HX2 := Lib.hid (HX2.out.below hb)
  replace HCm := Lib.hid (Kd.C_below HCm.out hb)
  replace HCy := Lib.hid (Kd.C_below HCy.out hb)
  have HB := Lib.hid (below_step HB2.out hb)
  clear hb HB2
  obtain ⟨x0, x1, x2, x3, x4⟩ := HX2.out.cell
  have z4 := HX2.out.free 4
  go_wp2_with fail
  clear x0 x1 x2 x3 x4 z4
  replace HX2 := Lib.hid (HX2.out.set4 (.slice Am ys.length cm))
  replace HB := Lib.hid (HB.out.setCell (p := ⟨P, 4, none⟩) HPS.out (.slice Am ys.length cm))
  replace HCm := Lib.hid (C_apart HCm.out (p := ⟨P, 4, none⟩) (fun ad e _ hh => HN4.out (by rw [e]; exact congrArg some hh.symm)) (.slice Am ys.length cm))
  replace HCy := Lib.hid (C_apart HCy.out (p := ⟨P, 4, none⟩) (fun ad e _ hh => HN3.out (by rw [e]; exact congrArg some hh.symm)) (.slice Am ys.length cm))
  have hbad : rightR (⟨r.o, r.f, r.e, zs, ys⟩ : Rt) = false := (by rw [NY.out, NZ.out]; exact bad7 r)
  have hsm : smallR (⟨r.o, r.f, r.e, zs, ys⟩ : Rt) = true := (by rw [NY.out, NZ.out]; exact small_more HG.out.1 (lr := [(⟨#[122, 122]⟩ : ByteArray)]) (lw := [(⟨#[122, 122]⟩ : ByteArray)]) (by decide) (by decide) (by decide +kernel) (by decide +kernel))
  have HXk : Hid (BoxAt (W20.setCell ⟨P, 4, none⟩ (.slice Am ys.length cm)) P (⟨r.o, r.f, r.e, zs, ys⟩ : Rt) (.slice Ay zs.length cy) (.slice Am ys.length cm)) := Lib.hid HX2.out
  have HRk : Hid (RowsAt (W20.setCell ⟨P, 4, none⟩ (.slice Am ys.length cm)) 0 (⟨r.o, r.f, r.e, zs, ys⟩ : Rt) Ay cy Am cm) := Lib.hid ⟨HCy.out, hly, HCm.out, hlm, fun _ _ => Nat.zero_le _, fun _ _ => Nat.zero_le _⟩
  clear HX2 HCm HCy
  have HGR := Lib.hid (fun A c A' c' => grant_at HTB hsm (u := ⟨#[121, 111]⟩) (by decide +kernel) true (show grantF (⟨r.o, r.f, r.e, zs, ys⟩ : Rt) _ _ = (noRt, 1) by unfold grantF; rw [if_pos hbad]) A c A' c')
  have HRV := Lib.hid (fun A c A' c' => revoke_at HTB hsm (u := ⟨#[122, 122]⟩) (by decide +kernel) (show revokeF (⟨r.o, r.f, r.e, zs, ys⟩ : Rt) _ = (noRt, 1) by unfold revokeF; rw [if_pos hbad]) A c A' c')
  have HPT := Lib.hid (fun A c A' c' => put_at HTB hsm (show putF (⟨r.o, r.f, r.e, zs, ys⟩ : Rt) = (⟨#[]⟩, 1) by unfold putF; rw [if_neg (by rw [hbad]; simp)]) A c A' c')
  have HRG := Lib.hid (fun A c A' c' => right_at HTB hsm hbad A c A' c')
  have HC1 := Lib.hid (fun A c A' c' => can_at HTB hsm ⟨#[97, 110, 110, 97]⟩ false (can_bad hbad _ _) A c A' c')
  have HC2 := Lib.hid (fun A c A' c' => can_at HTB hsm ⟨#[98, 101, 110]⟩ false (can_bad hbad _ _) A c A' c')
  clear hbad hsm
  refine (HGR.out Ay cy Am cm _ HB.out HRk.out).mono ?_
  rintro e W31 ⟨Ag, cg, Bg, dg, rfl, hr, hb0⟩
  obtain ⟨hb, hr'⟩ := boxed hb0 hr
  replace HB := Lib.hid (below_step HB.out hb)
  replace HXk := Lib.hid (HXk.out.below hb)
  replace HRk := Lib.hid (HRk.out.below hb)
  clear hr hb0 hb hr'
  obtain ⟨qk0, qk1, qk2, qk3, qk4⟩ := HXk.out.cell
  go_wp2_with fail
  refine (HRV.out Ay cy Am cm _ HB.out HRk.out).mono ?_
  rintro e W32 ⟨Av, cv, Bv, dv, rfl, hr, hb0⟩
  clear qk0 qk1 qk2 qk3 qk4
  obtain ⟨hb, hr'⟩ := boxed hb0 hr
  have HXv := Lib.hid (box_new W32 noRt (.slice Av noRt.rs.length cv) (.slice Bv noRt.ws.length dv))
  have hlv := hb0.size
  replace HB := Lib.hid (below_step HB.out hb)
  replace HXk := Lib.hid (HXk.out.below hb)
  replace HRk := Lib.hid (HRk.out.below hb)
  have HRv := Lib.hid (hr'.lower (Nat.zero_le _))
  clear hr hb0 hb hr' hlv
  clear HXv HRv
  obtain ⟨qk0, qk1, qk2, qk3, qk4⟩ := HXk.out.cell
  go_wp2_with fail
  refine (HPT.out Ay cy Am cm _ HB.out HRk.out).mono ?_
  rintro e W33 ⟨rfl, hb⟩
  clear qk0 qk1 qk2 qk3 qk4
  replace HB := Lib.hid (below_step HB.out hb)
  replace HXk := Lib.hid (HXk.out.below hb)
  replace HRk := Lib.hid (HRk.out.below hb)
  clear hb
  obtain ⟨qk0, qk1, qk2, qk3, qk4⟩ := HXk.out.cell
  go_wp2_with fail
  refine (HRG.out Ay cy Am cm _ HB.out HRk.out).mono ?_
  rintro e W34 ⟨rfl, hb⟩
  clear qk0 qk1 qk2 qk3 qk4
  replace HB := Lib.hid (below_step HB.out hb)
  replace HXk := Lib.hid (HXk.out.below hb)
  replace HRk := Lib.hid (HRk.out.below hb)
  clear hb
  obtain ⟨qk0, qk1, qk2, qk3, qk4⟩ := HXk.out.cell
  go_wp2_with fail
  refine (HC1.out Ay cy Am cm _ HB.out HRk.out).mono ?_
  rintro e W35 ⟨rfl, hb⟩
  clear qk0 qk1 qk2 qk3 qk4
  replace HB := Lib.hid (below_step HB.out hb)
  replace HXk := Lib.hid (HXk.out.below hb)
  replace HRk := Lib.hid (HRk.out.below hb)
  clear hb
  obtain ⟨qk0, qk1, qk2, qk3, qk4⟩ := HXk.out.cell
  go_wp2_with fail
  refine (HC2.out Ay cy Am cm _ HB.out HRk.out).mono ?_
  rintro e W36 ⟨rfl, hb⟩
  clear qk0 qk1 qk2 qk3 qk4
  replace HB := Lib.hid (below_step HB.out hb)
  replace HXk := Lib.hid (HXk.out.below hb)
  replace HRk := Lib.hid (HRk.out.below hb)
  clear hb
  go_wp2_with fail
  refine (HNZ.out _ HB.out).mono ?_
  rintro e W37 ⟨rfl, hb⟩
  replace HB := Lib.hid (below_step HB.out hb)
  replace HXk := Lib.hid (HXk.out.below hb)
  replace HRk := Lib.hid (HRk.out.below hb)
  clear hb
  go_wp2
  go_ret
  exact ⟨rfl, HB.out⟩
end Go.Proofs.YtfhanoloaejmkaaDoor
end
