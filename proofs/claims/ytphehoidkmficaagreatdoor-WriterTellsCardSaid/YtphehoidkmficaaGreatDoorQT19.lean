/- Contracts and laws that the statement of LawDataTells,LawWriterTells leans on (packed from this claim's own texts): part 19. -/
import Derived.Test.YtphehoidkmficaaGreatDoorQT18
section

namespace Go.Proofs.YtphehoidkmficaaGreatDoor.Ref
open Go.RowKit Go.Proofs.YtphehoidkmficaaGreatDoor Go.Proofs.YtphehoidkmficaaGreatDoorW.PrintWords Go.Proofs.YtphehoidkmficaaGreatDoorW.PrintLast Go.Proofs.YtphehoidkmficaaGreatDoorW.PrintMore Go.Proofs.YtphehoidkmficaaGreatDoor.PA Go.Proofs.YtphehoidkmficaaGreatDoor.PS
set_option linter.unusedVariables false
set_option linter.unusedSimpArgs false
theorem cRight (s : ByteArray) (W : World) : Calls Tryz.prog 57 #[.string s] W fun e w' => e = .returned (.bool (right s)) ∧ Below W.heap.size W w' := by
 obtain ⟨k, hk⟩ := ev_some (refRight_ev s)
 exact letterlockref3_Right.calls k _ _ W hk
theorem cSplit (s : ByteArray) (h : s.size ≤ 1000000) (W : World) : Calls Tryz.prog 56 #[.string s] W fun e w' => e = .returned (.tuple #[.string (splitF s).1, .string (splitF s).2.1, .int .i64 (splitF s).2.2]) ∧ Below W.heap.size W w' := by
 obtain ⟨k, hk⟩ := ev_some (refSplit_ev s h)
 exact letterlockref1_Split.calls k _ _ _ _ W hk
theorem cTakeAll (s : ByteArray) (hs : s.size ≤ 1000000) (W : World) : Calls Tryz.prog 42 #[.string s, .int .i64 3, .int .i64 4000] W fun e w' => ∃ v0 : Value, e = .returned (.tuple #[v0, .int .i64 (takeAllF 3 4000 s).2]) ∧ Kd.R Kd.string 9 w' W.heap.size (fun _ => True) v0 (takeAllF 3 4000 s).1 ∧ Below W.heap.size W w' := by
 obtain ⟨k, hk⟩ := ev_some (refTakeAll_ev 3 4000 s (by omega) (by omega) hs)
 exact letterlockref2_TakeAll.calls k s 3 4000 _ _ W hk
theorem cTake (s : ByteArray) (W : World) : Calls Tryz.prog 43 #[.string s] W fun e w' => e = .returned (.tuple #[.int .u64 (takeF s).1, .string (takeF s).2.1, .int .i64 (takeF s).2.2]) ∧ Below W.heap.size W w' := by
 obtain ⟨k, hk⟩ := ev_some (refTake_ev s)
 exact (letterlockref2_Take.calls k s _ _ _ W hk).mono fun e w' h => ⟨h.1, h.2.below⟩
theorem cText {s : ByteArray} (h : s.size ≤ 300) (W : World) : Calls Tryz.prog 59 #[.string s] W fun e w' => e = .returned (.tuple #[.string (textB s), .int .i64 0]) ∧ Below W.heap.size W w' := by
 have hx := refText_ev s (by omega)
 rw [text_small h] at hx
 obtain ⟨k, hk⟩ := ev_some hx
 exact letterlockref3_OfText.calls k _ _ _ W hk
theorem cPair (a b : ByteArray) (W : World) : Calls Tryz.prog 60 #[.string a, .string b] W fun e w' => e = .returned (.tuple #[.string (pairF a b).1, .int .i64 (pairF a b).2]) ∧ Below W.heap.size W w' := by
 obtain ⟨k, hk⟩ := ev_some (refPair_ev a b)
 exact letterlockref3_OfPair.calls k _ _ _ _ W hk
theorem cSeal (a b : ByteArray) (W : World) : Calls Tryz.prog 61 #[.string a, .string b] W fun e w' => e = .returned (.tuple #[.string (sealF a b).1, .int .i64 (sealF a b).2]) ∧ Below W.heap.size W w' := by
 obtain ⟨k, hk⟩ := ev_some (refSeal_ev a b)
 exact letterlockref3_Seal.calls k _ _ _ _ W hk
theorem cSign (a b : ByteArray) (W : World) : Calls Tryz.prog 63 #[.string a, .string b] W fun e w' => e = .returned (.tuple #[.string (signF a b).1, .int .i64 (signF a b).2]) ∧ Below W.heap.size W w' := by
 obtain ⟨k, hk⟩ := ev_some (refSign_ev a b)
 exact letterlockref3_Sign.calls k _ _ _ _ W hk
theorem cKey (s : ByteArray) (W : World) : Calls Tryz.prog 58 #[.string s] W fun e w' => e = .returned (.tuple #[.string (keyF s).1, .int .i64 (keyF s).2]) ∧ Below W.heap.size W w' := by
 obtain ⟨k, hk⟩ := ev_some (ref6Key_ev s)
 exact letterlockref6_Key.calls k _ _ _ W hk
theorem cBack (s : ByteArray) (n : Int) (hn : n ≤ 9223372036854775807) (W : World) : Calls Tryz.prog 74 #[.string s, .int .i64 n] W fun e w' => e = .returned (.tuple #[.string (backF s n).1, .int .i64 (backF s n).2]) ∧ Below W.heap.size W w' := by
 obtain ⟨k, hk⟩ := ev_some (ref6Back_ev s n hn)
 exact letterlockref6_Back.calls k _ _ _ _ W hk
theorem cSigned (e : Int) (s : ByteArray) (h0 : 0 ≤ e) (h1 : e < 18446744073709551616) (W : World) : Calls Tryz.prog 62 #[.int .i64 e, .string s] W fun e' w' => e' = .returned (.tuple #[.string (signedF e s).1, .int .i64 (signedF e s).2]) ∧ Below W.heap.size W w' := by
 obtain ⟨k, hk⟩ := ev_some (signed9_ev e s h0 h1)
 exact letterlockref9_signed.calls k _ _ _ _ W hk
theorem cVerify (p a s : ByteArray) (W : World) : Calls Tryz.prog 73 #[.string p, .string a, .string s] W fun e w' => e = .returned (.int .i64 (verifyF p a s)) ∧ Below W.heap.size W w' := by
 obtain ⟨k, hk⟩ := ev_some (refVerify_ev p a s)
 exact letterlockref3_Verify.calls k _ _ _ _ W hk
theorem cOpen (a c : ByteArray) (h : right c = true) (W : World) : Calls Tryz.prog 75 #[.string a, .string c] W fun e w' => e = .returned (.tuple #[.string (unsealF a c).1, .int .i64 (unsealF a c).2]) ∧ Below W.heap.size W w' := by
 obtain ⟨k, hk⟩ := ev_some (refOpen_ev a c h)
 exact letterlockref3_Open.calls k _ _ _ _ W hk
theorem inside_texts (key s pa : ByteArray) (hs : kindF s = 115) : ∃ t : ByteArray × ByteArray × Bool, Ev (fun k => letterlockref9_texts.f k (unsealF key s).1) t ∧ lastF t pa = match insideF key s pa with | some c => (c, 0) | none => (⟨#[]⟩, 7) := by
 obtain ⟨a, b, hw, rfl⟩ := kind_sealed hs
 unfold unsealF
 rw [term_tm hw]
 by_cases hk : tm a = key
 ·refine ⟨textsT b, ?_, last_inside hw key pa hk⟩
  rw [← hk, right_tm (wf_left hw), if_pos rfl]
  simp only [if_true]
  exact texts_ev (wf_right hw)
 ·rw [inside_ne hw key pa hk]
  refine ⟨(⟨#[]⟩, ⟨#[]⟩, false), ?_, rfl⟩
  cases hr : right key with
  | true =>
   rw [if_pos rfl]
   simp only [if_neg hk]
   exact texts_none
  | false =>
   rw [if_neg (by simp)]
   exact texts_none
def rt5.T5 : Bool × List (List Nat × List Nat) := (true, [([], []), ([0], [0]), ([], []), ([2], [2]), ([3], [3]), ([], []), ([5], [5]), ([6], [6]), ([1, 4, 7], [1, 4, 7]), ([], []), ([9, 8, 0, 1, 2, 3, 4, 5, 6, 7, 8, 9], [8, 9])])
def rt5.B5 : List Nat := [0, 1, 0, 4, 12, 0, 32, 96, 255, 0, 1023]
theorem rt5.tab5 : rtab .any (opsOf Tryz.f14 5) = rt5.T5 := by kernel_rfl
theorem rt5.bits5 : waitsOk rt5.T5.2 rt5.B5 = true := by kernel_rfl
def ro6.T6 : Bool × List (List Nat × List Nat) := (true, [([], []), ([0], [0]), ([1], [1]), ([2], [2]), ([2], [2]), ([4, 2], [2, 4]), ([3, 5, 2], [2, 3, 5]), ([6, 2], [2, 6]), ([2], [2]), ([2], [2]), ([9, 2], [2, 9]), ([7, 8, 10, 2, 2], [2, 7, 8, 10]), ([11, 2], [2, 11]), ([2, 12], [2, 12])])
def ro6.B6 : List Nat := [0, 1, 3, 7, 7, 23, 63, 127, 7, 7, 519, 2047, 4095, 8191]
theorem ro6.tab6 : rtab .any (opsOf Tryz.f18 6) = ro6.T6 := by kernel_rfl
theorem ro6.bits6 : waitsOk ro6.T6.2 ro6.B6 = true := by kernel_rfl
set_option maxRecDepth 100000 in
set_option maxHeartbeats 4000000 in
theorem refBuild9_call (st sg pa ct : ByteArray) (e0 : Int) (hpa : pa.size ≤ 1000000) (hct : ct.size ≤ 140737488351232) (w : World) : Calls Tryz.prog 16 #[.string st, .int .i64 e0, .string sg, .string pa, .string ct] w (BlPost w (buildF st e0 sg pa ct)) := by
 obtain ⟨R, hR⟩ : ∃ R, buildF st e0 sg pa ct = R := ⟨_, rfl⟩
 have HV : Hid (R = buildF st e0 sg pa ct) := Lib.hid hR.symm
 rw [hR]
 clear hR
 have HSP := Lib.hid (cSplit pa hpa)
 go_enter Tryz.func16, Tryz.ntmps16
 go_wp2_with fail
 refine (HSP.out _).mono ?_
 rintro e w1 ⟨rfl, hb⟩
 have HR : Hid (w1.heap[w.heap.size]? = some (.cells #[.int .i64 0, .string ⟨#[]⟩, .string ⟨#[]⟩] 26 (0, 0))) := Lib.hid (blk_below (blk_new _ _) hb)
 have HB : Hid (Below w.heap.size w w1) := Lib.hid (below_step (w := w) (below_alloc (Below.refl _ _) _) hb)
 clear hb
 clear HSP
 have hno : ∀ h : buildOk st e0 sg pa = false, R = (noBl, 1) := fun h => by rw [HV.out]; exact build_bad h
 have HNO := Lib.hid hno
 clear hno
 by_cases qa : e0 < 0
 ·have t0 : decide (e0 < 0) = true := decide_eq_true qa
  have hR := HNO.out (by unfold buildOk epochB; rw [decide_eq_false (by omega), Bool.false_and])
  subst hR
  have cR0 := cell_of_blk (j := 0) (v := .int .i64 0) HR.out rfl
  have cR1 := cell_of_blk (j := 1) (v := .string ⟨#[]⟩) HR.out rfl
  have cR2 := cell_of_blk (j := 2) (v := .string ⟨#[]⟩) HR.out rfl
  have zR0 := free_of_blk (j := 0) HR.out
  have zR1 := free_of_blk (j := 1) HR.out
  have zR2 := free_of_blk (j := 2) HR.out
  obtain ⟨hblk, hbe⟩ := put3 HB.out HR.out (by omega) (.int .i64 0) (.string ⟨#[]⟩) (.string ⟨#[]⟩)
  go_wp2
  refine bodyPost_ret (results_ct rfl _ _ w.heap.size 26 _ (0, 0) _ rfl hblk Tryz.underlying26 rfl (by kernel_rfl)) rfl ?_
  exact ⟨rfl, hbe⟩
 have t0 : decide (e0 < 0) = false := decide_eq_false qa
 by_cases qb : 7 < e0
 ·have t1 : decide (7 < e0) = true := decide_eq_true qb
  have hR := HNO.out (by unfold buildOk epochB; rw [decide_eq_false (by omega), Bool.false_and])
  subst hR
  have cR0 := cell_of_blk (j := 0) (v := .int .i64 0) HR.out rfl
  have cR1 := cell_of_blk (j := 1) (v := .string ⟨#[]⟩) HR.out rfl
  have cR2 := cell_of_blk (j := 2) (v := .string ⟨#[]⟩) HR.out rfl
  have zR0 := free_of_blk (j := 0) HR.out
  have zR1 := free_of_blk (j := 1) HR.out
  have zR2 := free_of_blk (j := 2) HR.out
  obtain ⟨hblk, hbe⟩ := put3 HB.out HR.out (by omega) (.int .i64 0) (.string ⟨#[]⟩) (.string ⟨#[]⟩)
  go_wp2
  refine bodyPost_ret (results_ct rfl _ _ w.heap.size 26 _ (0, 0) _ rfl hblk Tryz.underlying26 rfl (by kernel_rfl)) rfl ?_
  exact ⟨rfl, hbe⟩
 have t1 : decide (7 < e0) = false := decide_eq_false qb
 go_wp2_with fail
 refine (cRight st _).mono ?_
 rintro e w2 ⟨rfl, hb⟩
 replace HR := Lib.hid (blk_below HR.out hb)
 replace HB := Lib.hid (below_step HB.out hb)
 clear hb
 obtain ⟨c1, hc1⟩ : ∃ c, right st = c := ⟨_, rfl⟩
 rw [hc1]
 cases c1 with
 | false =>
  have hR := HNO.out (by unfold buildOk; rw [hc1]; simp)
  subst hR
  have cR0 := cell_of_blk (j := 0) (v := .int .i64 0) HR.out rfl
  have cR1 := cell_of_blk (j := 1) (v := .string ⟨#[]⟩) HR.out rfl
  have cR2 := cell_of_blk (j := 2) (v := .string ⟨#[]⟩) HR.out rfl
  have zR0 := free_of_blk (j := 0) HR.out
  have zR1 := free_of_blk (j := 1) HR.out
  have zR2 := free_of_blk (j := 2) HR.out
  obtain ⟨hblk, hbe⟩ := put3 HB.out HR.out (by omega) (.int .i64 0) (.string ⟨#[]⟩) (.string ⟨#[]⟩)
  go_wp2
  refine bodyPost_ret (results_ct rfl _ _ w.heap.size 26 _ (0, 0) _ rfl hblk Tryz.underlying26 rfl (by kernel_rfl)) rfl ?_
  exact ⟨rfl, hbe⟩
 | true =>
  go_wp2_with fail
  refine (cRight sg _).mono ?_
  rintro e w3 ⟨rfl, hb⟩
  replace HR := Lib.hid (blk_below HR.out hb)
  replace HB := Lib.hid (below_step HB.out hb)
  clear hb
  obtain ⟨c2, hc2⟩ : ∃ c, right sg = c := ⟨_, rfl⟩
  rw [hc2]
  cases c2 with
  | false =>
   have hR := HNO.out (by unfold buildOk; rw [hc2]; simp)
   subst hR
   have cR0 := cell_of_blk (j := 0) (v := .int .i64 0) HR.out rfl
   have cR1 := cell_of_blk (j := 1) (v := .string ⟨#[]⟩) HR.out rfl
   have cR2 := cell_of_blk (j := 2) (v := .string ⟨#[]⟩) HR.out rfl
   have zR0 := free_of_blk (j := 0) HR.out
   have zR1 := free_of_blk (j := 1) HR.out
   have zR2 := free_of_blk (j := 2) HR.out
   obtain ⟨hblk, hbe⟩ := put3 HB.out HR.out (by omega) (.int .i64 0) (.string ⟨#[]⟩) (.string ⟨#[]⟩)
   go_wp2
   refine bodyPost_ret (results_ct rfl _ _ w.heap.size 26 _ (0, 0) _ rfl hblk Tryz.underlying26 rfl (by kernel_rfl)) rfl ?_
   exact ⟨rfl, hbe⟩
  | true =>
   by_cases q3 : (splitF pa).2.2 = 0
   rotate_left
   ·have t3 : ((splitF pa).2.2 != 0) = true := by rw [bne_iff_ne]; exact q3
    have hR := HNO.out (by unfold buildOk; rw [decide_eq_false q3]; simp)
    subst hR
    have cR0 := cell_of_blk (j := 0) (v := .int .i64 0) HR.out rfl
    have cR1 := cell_of_blk (j := 1) (v := .string ⟨#[]⟩) HR.out rfl
    have cR2 := cell_of_blk (j := 2) (v := .string ⟨#[]⟩) HR.out rfl
    have zR0 := free_of_blk (j := 0) HR.out
    have zR1 := free_of_blk (j := 1) HR.out
    have zR2 := free_of_blk (j := 2) HR.out
    obtain ⟨hblk, hbe⟩ := put3 HB.out HR.out (by omega) (.int .i64 0) (.string ⟨#[]⟩) (.string ⟨#[]⟩)
    go_wp2
    refine bodyPost_ret (results_ct rfl _ _ w.heap.size 26 _ (0, 0) _ rfl hblk Tryz.underlying26 rfl (by kernel_rfl)) rfl ?_
    exact ⟨rfl, hbe⟩
   have t3 : ((splitF pa).2.2 != 0) = false := by rw [q3]; rfl
   have hok : buildOk st e0 sg pa = true := by unfold buildOk epochB; rw [decide_eq_true (And.intro (by omega) (by omega)), hc1, hc2, decide_eq_true q3]; rfl
   replace HV : Hid (R = if ct.size ≤ 64 then builtF e0 (keyF st) (bodyF pa ct) sg else (noBl, 10)) := Lib.hid (by rw [HV.out]; unfold buildF; rw [if_pos hok])
   by_cases q4 : ct.size ≤ 64
   rotate_left
   ·have t4 : decide (64 < (ct.size : Int)) = true := decide_eq_true (by omega)
    obtain rfl : R = (noBl, 10) := by rw [HV.out]; rw [if_neg q4]
    have cR0 := cell_of_blk (j := 0) (v := .int .i64 0) HR.out rfl
    have cR1 := cell_of_blk (j := 1) (v := .string ⟨#[]⟩) HR.out rfl
    have cR2 := cell_of_blk (j := 2) (v := .string ⟨#[]⟩) HR.out rfl
    have zR0 := free_of_blk (j := 0) HR.out
    have zR1 := free_of_blk (j := 1) HR.out
    have zR2 := free_of_blk (j := 2) HR.out
    obtain ⟨hblk, hbe⟩ := put3 HB.out HR.out (by omega) (.int .i64 0) (.string ⟨#[]⟩) (.string ⟨#[]⟩)
    go_wp2
    refine bodyPost_ret (results_ct rfl _ _ w.heap.size 26 _ (0, 0) _ rfl hblk Tryz.underlying26 rfl (by kernel_rfl)) rfl ?_
    exact ⟨rfl, hbe⟩
   have t4 : decide (64 < (ct.size : Int)) = false := decide_eq_false (by omega)
   replace HV : Hid (R = builtF e0 (keyF st) (bodyF pa ct) sg) := Lib.hid (by rw [HV.out, if_pos q4])
   have hps := split_size q3
   have HT1 := Lib.hid (cText (s := pa) (by omega))
   have HT2 := Lib.hid (cText (s := ct) (by omega))
   have HPR := Lib.hid (cPair (textB pa) (textB ct))
   rw [show pairF (textB pa) (textB ct) = (bodyF pa ct, (pairF (textB pa) (textB ct)).2) from rfl] at HPR
   have HSD := Lib.hid (fun (s : ByteArray) (W : World) => cSigned e0 s (by omega) (by omega) W)
   unfold builtF at HV
   generalize bodyF pa ct = bp at *
   generalize textB pa = tp at *
   generalize textB ct = tc at *
   have HKY := Lib.hid (cKey st)
   generalize keyF st = K at *
   clear q3 hok hps hct hpa HNO
   go_wp2_with fail
   refine (HKY.out _).mono ?_
   rintro e w4 ⟨rfl, hb⟩
   replace HR := Lib.hid (blk_below HR.out hb)
   replace HB := Lib.hid (below_step HB.out hb)
   clear hb
   by_cases qk : K.2 = 0
   rotate_left
   ·have t5 : (K.2 != 0) = true := bne_iff_ne.2 qk
    obtain rfl : R = (noBl, K.2) := by rw [HV.out]; rw [if_neg qk]
    have cR0 := cell_of_blk (j := 0) (v := .int .i64 0) HR.out rfl
    have cR1 := cell_of_blk (j := 1) (v := .string ⟨#[]⟩) HR.out rfl
    have cR2 := cell_of_blk (j := 2) (v := .string ⟨#[]⟩) HR.out rfl
    have zR0 := free_of_blk (j := 0) HR.out
    have zR1 := free_of_blk (j := 1) HR.out
    have zR2 := free_of_blk (j := 2) HR.out
    obtain ⟨hblk, hbe⟩ := put3 HB.out HR.out (by omega) (.int .i64 0) (.string ⟨#[]⟩) (.string ⟨#[]⟩)
    go_wp2
    refine bodyPost_ret (results_ct rfl _ _ w.heap.size 26 _ (0, 0) _ rfl hblk Tryz.underlying26 rfl (by kernel_rfl)) rfl ?_
    exact ⟨rfl, hbe⟩
   have t5 : (K.2 != 0) = false := by rw [qk]; rfl
   go_wp2_with fail
   refine (HT1.out _).mono ?_
   rintro e w5 ⟨rfl, hb⟩
   replace HR := Lib.hid (blk_below HR.out hb)
   replace HB := Lib.hid (below_step HB.out hb)
   clear hb
   go_wp2_with fail
   refine (HT2.out _).mono ?_
   rintro e w6 ⟨rfl, hb⟩
   replace HR := Lib.hid (blk_below HR.out hb)
   replace HB := Lib.hid (below_step HB.out hb)
   clear hb
   go_wp2_with fail
   refine (HPR.out _).mono ?_
   rintro e w7 ⟨rfl, hb⟩
   replace HR := Lib.hid (blk_below HR.out hb)
   replace HB := Lib.hid (below_step HB.out hb)
   clear hb
   have HSL := Lib.hid (cSeal K.1 bp)
   generalize sealF K.1 bp = S at *
   go_wp2_with fail
   refine (HSL.out _).mono ?_
   rintro e w8 ⟨rfl, hb⟩
   replace HR := Lib.hid (blk_below HR.out hb)
   replace HB := Lib.hid (below_step HB.out hb)
   clear hb
   by_cases qs : S.2 = 0
   rotate_left
   ·have t6 : (S.2 != 0) = true := bne_iff_ne.2 qs
    obtain rfl : R = (noBl, S.2) := by rw [HV.out]; rw [if_pos qk, if_neg qs]
    have cR0 := cell_of_blk (j := 0) (v := .int .i64 0) HR.out rfl
    have cR1 := cell_of_blk (j := 1) (v := .string ⟨#[]⟩) HR.out rfl
    have cR2 := cell_of_blk (j := 2) (v := .string ⟨#[]⟩) HR.out rfl
    have zR0 := free_of_blk (j := 0) HR.out
    have zR1 := free_of_blk (j := 1) HR.out
    have zR2 := free_of_blk (j := 2) HR.out
    obtain ⟨hblk, hbe⟩ := put3 HB.out HR.out (by omega) (.int .i64 0) (.string ⟨#[]⟩) (.string ⟨#[]⟩)
    go_wp2
    refine bodyPost_ret (results_ct rfl _ _ w.heap.size 26 _ (0, 0) _ rfl hblk Tryz.underlying26 rfl (by kernel_rfl)) rfl ?_
    exact ⟨rfl, hbe⟩
   have t6 : (S.2 != 0) = false := by rw [qs]; rfl
   have HS2 := Lib.hid (HSD.out S.1)
   generalize signedF e0 S.1 = D at *
   go_wp2_with fail
   refine (HS2.out _).mono ?_
   rintro e w9 ⟨rfl, hb⟩
   replace HR := Lib.hid (blk_below HR.out hb)
   replace HB := Lib.hid (below_step HB.out hb)
   clear hb
   by_cases qd : D.2 = 0
   rotate_left
   ·have t7 : (D.2 != 0) = true := bne_iff_ne.2 qd
    obtain rfl : R = (noBl, D.2) := by rw [HV.out]; rw [if_pos qk, if_pos qs, if_neg qd]
    have cR0 := cell_of_blk (j := 0) (v := .int .i64 0) HR.out rfl
    have cR1 := cell_of_blk (j := 1) (v := .string ⟨#[]⟩) HR.out rfl
    have cR2 := cell_of_blk (j := 2) (v := .string ⟨#[]⟩) HR.out rfl
    have zR0 := free_of_blk (j := 0) HR.out
    have zR1 := free_of_blk (j := 1) HR.out
    have zR2 := free_of_blk (j := 2) HR.out
    obtain ⟨hblk, hbe⟩ := put3 HB.out HR.out (by omega) (.int .i64 0) (.string ⟨#[]⟩) (.string ⟨#[]⟩)
    go_wp2
    refine bodyPost_ret (results_ct rfl _ _ w.heap.size 26 _ (0, 0) _ rfl hblk Tryz.underlying26 rfl (by kernel_rfl)) rfl ?_
    exact ⟨rfl, hbe⟩
   have t7 : (D.2 != 0) = false := by rw [qd]; rfl
   have HSG := Lib.hid (cSign sg D.1)
   generalize signF sg D.1 = G at *
   go_wp2_with fail
   refine (HSG.out _).mono ?_
   rintro e w10 ⟨rfl, hb⟩
   replace HR := Lib.hid (blk_below HR.out hb)
   replace HB := Lib.hid (below_step HB.out hb)
   clear hb
   by_cases qg : G.2 = 0
   rotate_left
   ·have t8 : (G.2 != 0) = true := bne_iff_ne.2 qg
    obtain rfl : R = (noBl, G.2) := by rw [HV.out]; rw [if_pos qk, if_pos qs, if_pos qd, if_neg qg]
    have cR0 := cell_of_blk (j := 0) (v := .int .i64 0) HR.out rfl
    have cR1 := cell_of_blk (j := 1) (v := .string ⟨#[]⟩) HR.out rfl
    have cR2 := cell_of_blk (j := 2) (v := .string ⟨#[]⟩) HR.out rfl
    have zR0 := free_of_blk (j := 0) HR.out
    have zR1 := free_of_blk (j := 1) HR.out
    have zR2 := free_of_blk (j := 2) HR.out
    obtain ⟨hblk, hbe⟩ := put3 HB.out HR.out (by omega) (.int .i64 0) (.string ⟨#[]⟩) (.string ⟨#[]⟩)
    go_wp2
    refine bodyPost_ret (results_ct rfl _ _ w.heap.size 26 _ (0, 0) _ rfl hblk Tryz.underlying26 rfl (by kernel_rfl)) rfl ?_
    exact ⟨rfl, hbe⟩
   have t8 : (G.2 != 0) = false := by rw [qg]; rfl
   obtain rfl : R = (⟨e0, S.1, G.1⟩, 0) := by rw [HV.out, if_pos qk, if_pos qs, if_pos qd, if_pos qg]
   have cR0 := cell_of_blk (j := 0) (v := .int .i64 0) HR.out rfl
   have cR1 := cell_of_blk (j := 1) (v := .string ⟨#[]⟩) HR.out rfl
   have cR2 := cell_of_blk (j := 2) (v := .string ⟨#[]⟩) HR.out rfl
   have zR0 := free_of_blk (j := 0) HR.out
   have zR1 := free_of_blk (j := 1) HR.out
   have zR2 := free_of_blk (j := 2) HR.out
   obtain ⟨hblk, hbe⟩ := put3 HB.out HR.out (by omega) (.int .i64 e0) (.string S.1) (.string G.1)
   go_wp2
   refine bodyPost_ret (results_ct rfl _ _ w.heap.size 26 _ (0, 0) _ rfl hblk Tryz.underlying26 rfl (by kernel_rfl)) rfl ?_
   exact ⟨rfl, hbe⟩
set_option maxRecDepth 100000 in
set_option maxHeartbeats 4000000 in
theorem refTake9_call (s : ByteArray) (hs : s.size ≤ 1000000) (w : World) : Calls Tryz.prog 14 #[.string s] w (BlPost w (takeBl s)) := by
 have HTA := Lib.hid (cTakeAll s hs)
 obtain ⟨R, hR⟩ : ∃ R, takeBl s = R := ⟨_, rfl⟩
 have HV : Hid (R = takeBl s) := Lib.hid hR.symm
 rw [hR]
 clear hR
 unfold takeBl at HV
 generalize takeAllF 3 4000 s = X at *
 go_enter Tryz.func14, Tryz.ntmps14
 go_wp2_with fail
 refine (HTA.out _).mono ?_
 rintro e w1 ⟨v0, rfl, hl, hb⟩
 obtain ⟨LA, lc, rfl⟩ := Kd.R_slice hl
 have HR : Hid (w1.heap[w.heap.size]? = some (.cells #[.int .i64 0, .string ⟨#[]⟩, .string ⟨#[]⟩] 26 (0, 0))) := Lib.hid (blk_below (blk_new _ _) hb)
 have HB : Hid (Below w.heap.size w w1) := Lib.hid (below_step (w := w) (below_alloc (Below.refl _ _) _) hb)
 clear hb
 clear HTA
 have HL := Lib.hid hl
 clear hl
 by_cases q1 : X.2 = 0
 rotate_left
 ·have t1 : (X.2 != 0) = true := by rw [bne_iff_ne]; exact q1
  obtain rfl : R = (noBl, 2) := by rw [HV.out]; rw [if_neg (fun h => q1 h.1)]
  have cR0 := cell_of_blk (j := 0) (v := .int .i64 0) HR.out rfl
  have cR1 := cell_of_blk (j := 1) (v := .string ⟨#[]⟩) HR.out rfl
  have cR2 := cell_of_blk (j := 2) (v := .string ⟨#[]⟩) HR.out rfl
  have zR0 := free_of_blk (j := 0) HR.out
  have zR1 := free_of_blk (j := 1) HR.out
  have zR2 := free_of_blk (j := 2) HR.out
  obtain ⟨hblk, hbe⟩ := put3 HB.out HR.out (by omega) (.int .i64 0) (.string ⟨#[]⟩) (.string ⟨#[]⟩)
  go_wp2
  refine bodyPost_ret (results_ct rfl _ _ w.heap.size 26 _ (0, 0) _ rfl hblk Tryz.underlying26 rfl (by kernel_rfl)) rfl ?_
  exact ⟨rfl, hbe⟩
 have t1 : (X.2 != 0) = false := by rw [q1]; rfl
 by_cases q2 : X.1.length = 3
 rotate_left
 ·have t2 : ((X.1.length : Int) != 3) = true := by rw [bne_iff_ne]; omega
  obtain rfl : R = (noBl, 2) := by rw [HV.out]; rw [if_neg (fun h => q2 h.2)]
  have cR0 := cell_of_blk (j := 0) (v := .int .i64 0) HR.out rfl
  have cR1 := cell_of_blk (j := 1) (v := .string ⟨#[]⟩) HR.out rfl
  have cR2 := cell_of_blk (j := 2) (v := .string ⟨#[]⟩) HR.out rfl
  have zR0 := free_of_blk (j := 0) HR.out
  have zR1 := free_of_blk (j := 1) HR.out
  have zR2 := free_of_blk (j := 2) HR.out
  obtain ⟨hblk, hbe⟩ := put3 HB.out HR.out (by omega) (.int .i64 0) (.string ⟨#[]⟩) (.string ⟨#[]⟩)
  go_wp2
  refine bodyPost_ret (results_ct rfl _ _ w.heap.size 26 _ (0, 0) _ rfl hblk Tryz.underlying26 rfl (by kernel_rfl)) rfl ?_
  exact ⟨rfl, hbe⟩
 obtain ⟨x, y, z, hxyz⟩ := three_of q2
 rw [hxyz] at HL
 have hv := HV.out
 rw [if_pos ⟨q1, q2⟩, hxyz] at hv
 simp only [List.getD_cons_zero, List.getD_cons_succ] at hv
 clear HV
 have HV := Lib.hid hv
 rw [hxyz]
 clear q2 hv hxyz
 have hc3 := (Kd.R_reads' HL.out).2.2
 obtain ⟨ga, rfl⟩ : ∃ ga, LA = some ⟨ga, 0, none⟩ := by
  obtain ⟨_, xs, ho, _⟩ := HL.out
  obtain ⟨g, c, e, _⟩ := ho.form (by simp)
  exact ⟨g, by simpa using (Value.slice.inj e).1⟩
 have hcap3 := (Kd.R_reads' HL.out).2.1
 have hx0 : w1.cell? ⟨ga, 0, none⟩ = some (.string x) := by
  obtain ⟨ad, e, h0⟩ := readsC hc3 (k := 0) (by simp)
  obtain rfl := Option.some.inj e
  simpa [Addr.add] using h0
 have hx1 : w1.cell? ⟨ga, 1, none⟩ = some (.string y) := by
  obtain ⟨ad, e, h0⟩ := readsC hc3 (k := 1) (by simp)
  obtain rfl := Option.some.inj e
  simpa [Addr.add] using h0
 have hx2 : w1.cell? ⟨ga, 2, none⟩ = some (.string z) := by
  obtain ⟨ad, e, h0⟩ := readsC hc3 (k := 2) (by simp)
  obtain rfl := Option.some.inj e
  simpa [Addr.add] using h0
 have HX1 := Lib.hid hx1
 have HX2 := Lib.hid hx2
 have HTN := Lib.hid (cTake x)
 clear hc3 hx1 hx2 HL
 simp only [List.length_cons, List.length_nil] at hcap3 ⊢
 go_wp2_with fail
 refine (HTN.out _).mono ?_
 rintro e w2 ⟨rfl, hb⟩
 replace HX1 := Lib.hid (pw_cell_below hb HX1.out)
 replace HX2 := Lib.hid (pw_cell_below hb HX2.out)
 replace HR := Lib.hid (blk_below HR.out hb)
 replace HB := Lib.hid (below_step HB.out hb)
 clear hb
 clear hx0 HTN
 have hn0 := (takeF_size x).2
 generalize takeF x = n at *
 have HRT := Lib.hid (refRight9_call ⟨n.1, y, z⟩)
 go_wp2_with fail
 have HB0 := Lib.hid HB.out
 have HR0 := Lib.hid HR.out
 have hb : Below w2.heap.size w2 w2.drew := below_drew (Below.refl _ _)
 replace HX1 := Lib.hid (pw_cell_below hb HX1.out)
 replace HX2 := Lib.hid (pw_cell_below hb HX2.out)
 replace HR := Lib.hid (blk_below HR.out hb)
 replace HB := Lib.hid (below_step HB.out hb)
 clear hb
 refine start_ (n := 11) (S := fun w' => w'.cell? ⟨ga, 1, none⟩ = some (.string y) ∧ w'.cell? ⟨ga, 2, none⟩ = some (.string z)) (ds := [10]) #[false, false, false, false, false, false, false, false, false, false, false] (by kernel_rfl) rfl rfl ⟨HX1.out, HX2.out⟩ (fun hHeld => ?_)
 refine with_tabW rt5.tab5 rt5.bits5 (fun HT_ HW_ => ?_)
 refine pure_ (i := 0) (N := some 30) (v := ?_) (a' := ?_) #[true, false, false, false, false, false, false, false, false, false, false] rfl rfl (any_of HT_.out (by kernel_rfl)) (fun _ _ _ h => h) (Or.inl ⟨by rfl, ?_⟩) ?_ ?_
 rotate_left
 ·intro w'
  go_simp
  with_reducible rfl
 rotate_left
 ·simp only [Act.put, List.setIfInBounds_toArray, List.set_cons_zero, List.set_cons_succ, i64_w, i32_w]
  rfl
 refine pure_ (i := 1) (N := some 31) (v := ?_) (a' := ?_) #[true, true, false, false, false, false, false, false, false, false, false] rfl rfl (any_of HT_.out (by kernel_rfl)) (fun _ _ _ h => h) (Or.inl ⟨by rfl, ?_⟩) ?_ ?_
 rotate_left
 ·intro w'
  go_simp
  with_reducible rfl
 rotate_left
 ·simp only [Act.put, List.setIfInBounds_toArray, List.set_cons_zero, List.set_cons_succ, i64_w, i32_w]
  rfl
 refine pure_ (i := 2) (N := some 32) (v := ?_) (a' := ?_) #[true, true, true, false, false, false, false, false, false, false, false] rfl rfl (any_of HT_.out (by kernel_rfl)) (fun _ _ _ h => h) (Or.inl ⟨by rfl, ?_⟩) ?_ ?_
 rotate_left
 ·intro w'
  go_simp
  with_reducible rfl
 rotate_left
 ·simp only [Act.put, List.setIfInBounds_toArray, List.set_cons_zero, List.set_cons_succ, i64_w, i32_w]
  rfl
 refine pure_ (i := 3) (N := some 33) (v := ?_) (a' := ?_) #[true, true, true, true, false, false, false, false, false, false, false] rfl rfl (any_of HT_.out (by kernel_rfl)) (fun _ _ _ h => h) (Or.inl ⟨by rfl, ?_⟩) ?_ ?_
 rotate_left
 ·intro w'
  go_simp
  with_reducible rfl
 rotate_left
 ·simp only [Act.put, List.setIfInBounds_toArray, List.set_cons_zero, List.set_cons_succ, i64_w, i32_w]
  rfl
 refine pure_ (i := 5) (N := some 35) (v := ?_) (a' := ?_) #[true, true, true, true, false, true, false, false, false, false, false] rfl rfl (any_of HT_.out (by kernel_rfl)) (fun _ _ _ h => h) (Or.inl ⟨by rfl, ?_⟩) ?_ ?_
 rotate_left
 ·intro w'
  go_simp
  with_reducible rfl
 rotate_left
 ·simp only [Act.put, List.setIfInBounds_toArray, List.set_cons_zero, List.set_cons_succ, i64_w, i32_w]
  rfl
 refine pure_ (i := 6) (N := some 36) (v := ?_) (a' := ?_) #[true, true, true, true, false, true, true, false, false, false, false] rfl rfl (any_of HT_.out (by kernel_rfl)) (fun _ _ _ h => h) (Or.inl ⟨by rfl, ?_⟩) ?_ ?_
 rotate_left
 ·intro w'
  go_simp
  with_reducible rfl
 rotate_left
 ·simp only [Act.put, List.setIfInBounds_toArray, List.set_cons_zero, List.set_cons_succ, i64_w, i32_w]
  rfl
 refine take_ (i := 4) (N := some 34) (v := ?_) (a' := ?_) #[true, true, true, true, true, true, true, false, false, false, false] rfl rfl (take_ofW HT_.out HW_.out (by kernel_rfl)) (fun _ _ _ h => h) (Or.inl ⟨by rfl, ?_⟩) hHeld ?_ ?_
 rotate_left
 ·rintro w' ⟨s0, s1⟩
  go_simp
  with_reducible rfl
 rotate_left
 ·simp only [Act.put, List.setIfInBounds_toArray, List.set_cons_zero, List.set_cons_succ, i64_w, i32_w]
  rfl
 refine take_ (i := 7) (N := some 37) (v := ?_) (a' := ?_) #[true, true, true, true, true, true, true, true, false, false, false] rfl rfl (take_ofW HT_.out HW_.out (by kernel_rfl)) (fun _ _ _ h => h) (Or.inl ⟨by rfl, ?_⟩) hHeld ?_ ?_
 rotate_left
 ·rintro w' ⟨s0, s1⟩
  go_simp
  with_reducible rfl
 rotate_left
 ·simp only [Act.put, List.setIfInBounds_toArray, List.set_cons_zero, List.set_cons_succ, i64_w, i32_w]
  rfl
 refine pure_ (i := 8) (N := some 38) (v := ?_) (a' := ?_) #[true, true, true, true, true, true, true, true, true, false, false] rfl rfl (any_of HT_.out (by kernel_rfl)) (fun _ _ _ h => h) (Or.inl ⟨by rfl, ?_⟩) ?_ ?_
 rotate_left
 ·intro w'
  go_simp
  with_reducible rfl
 rotate_left
 ·simp only [Act.put, List.setIfInBounds_toArray, List.set_cons_zero, List.set_cons_succ, i64_w, i32_w]
  rfl
 refine one_ (i := 9) (N := some 8) #[true, true, true, true, true, true, true, true, true, true, false] rfl rfl (one_of HT_.out (by kernel_rfl)) (by decide) (fun K hK => ?_)
 refine value_ (w1 := ?_) (v := ?_) (by rfl) rfl ?_ ?_
 rotate_left 2
 ·go_simp
  constructor
  ·rfl
  ·rfl
 have c0 := cell_of_blk (j := 0) (v := .int .i64 0) (blk_new w2.drew (.cells #[.int .i64 0, .string ⟨#[]⟩, .string ⟨#[]⟩] 26)) rfl
 have c1 := cell_of_blk (j := 1) (v := .string ⟨#[]⟩) (blk_new w2.drew (.cells #[.int .i64 0, .string ⟨#[]⟩, .string ⟨#[]⟩] 26)) rfl
 have c2 := cell_of_blk (j := 2) (v := .string ⟨#[]⟩) (blk_new w2.drew (.cells #[.int .i64 0, .string ⟨#[]⟩, .string ⟨#[]⟩] 26)) rfl
 refine hK.out _ _ ⟨(pw_cell_below (below_alloc (Below.refl _ _) _) HX1.out), (pw_cell_below (below_alloc (Below.refl _ _) _) HX2.out)⟩ (fun hHeld => ?_)
 clear hK K
 refine norm_ (a' := ?_) ?_ ?_
 rotate_left
 ·show Act.put _ (some 8) _ = _
  simp only [Act.put, List.setIfInBounds_toArray, List.set_cons_zero, List.set_cons_succ, i64_w, i32_w]
  rfl
 refine last_ (i := 10) (N := none) #[true, true, true, true, true, true, true, true, true, true, true] rfl rfl (one_of HT_.out (by kernel_rfl)) (by decide) (fun K hK => ?_)
 refine skip_ (w1 := ?_) (by rfl) rfl ?_ ?_
 rotate_left
 ·go_simp
  rfl
 refine hK.out _ _ ?_
 clear hK K
 refine done_ (done_of HT_.out (by kernel_rfl)) ?_
 clear HT_
 have hH : Below (w2.alloc (.cells #[.int .i64 (wrap64 n.1), .string y, .string z] 26)).heap.size (w2.alloc (.cells #[.int .i64 (wrap64 n.1), .string y, .string z] 26)) (w2.alloc (.cells #[.int .i64 (wrap64 n.1), .string y, .string z] 26)).drew := below_drew (Below.refl _ _)
 replace HR := Lib.hid (blk_below (blk_alloc HR0.out (.cells #[.int .i64 (wrap64 n.1), .string y, .string z] 26)) hH)
 replace HB : Hid (Below w.heap.size w (w2.alloc (.cells #[.int .i64 (wrap64 n.1), .string y, .string z] 26)).drew) := Lib.hid (below_drew (below_alloc HB0.out _))
 have HN := Lib.hid (blk_below (blk_new w2 (.cells #[.int .i64 (wrap64 n.1), .string y, .string z] 26)) hH)
 clear hH HX1 HX2 HB0 HR0 c0 c1 c2 hHeld
 generalize (w2.alloc (.cells #[.int .i64 (wrap64 n.1), .string y, .string z] 26)).drew = W3 at HR HB HN ⊢
 generalize w2.heap.size = NB at HN ⊢
 by_cases q3 : n.2.2 = 0
 rotate_left
 ·have t3 : (n.2.2 != 0) = true := by rw [bne_iff_ne]; exact q3
  obtain rfl : R = (noBl, 2) := by rw [HV.out]; unfold takenF; rw [if_neg (fun h => q3 h.1)]
  have cR0 := cell_of_blk (j := 0) (v := .int .i64 0) HR.out rfl
  have cR1 := cell_of_blk (j := 1) (v := .string ⟨#[]⟩) HR.out rfl
  have cR2 := cell_of_blk (j := 2) (v := .string ⟨#[]⟩) HR.out rfl
  have zR0 := free_of_blk (j := 0) HR.out
  have zR1 := free_of_blk (j := 1) HR.out
  have zR2 := free_of_blk (j := 2) HR.out
  obtain ⟨hblk, hbe⟩ := put3 HB.out HR.out (by omega) (.int .i64 0) (.string ⟨#[]⟩) (.string ⟨#[]⟩)
  go_wp2
  refine bodyPost_ret (results_ct rfl _ _ w.heap.size 26 _ (0, 0) _ rfl hblk Tryz.underlying26 rfl (by kernel_rfl)) rfl ?_
  exact ⟨rfl, hbe⟩
 have t3 : (n.2.2 != 0) = false := by rw [q3]; rfl
 by_cases q4 : n.2.1 = ⟨#[]⟩
 rotate_left
 ·have t4 : (n.2.1.toList == []) = false := by
   rw [beq_eq_false_iff_ne]
   exact fun e => q4 ((tl_nil _).1 e)
  obtain rfl : R = (noBl, 2) := by rw [HV.out]; unfold takenF; rw [if_neg (fun h => q4 h.2.1)]
  have cR0 := cell_of_blk (j := 0) (v := .int .i64 0) HR.out rfl
  have cR1 := cell_of_blk (j := 1) (v := .string ⟨#[]⟩) HR.out rfl
  have cR2 := cell_of_blk (j := 2) (v := .string ⟨#[]⟩) HR.out rfl
  have zR0 := free_of_blk (j := 0) HR.out
  have zR1 := free_of_blk (j := 1) HR.out
  have zR2 := free_of_blk (j := 2) HR.out
  obtain ⟨hblk, hbe⟩ := put3 HB.out HR.out (by omega) (.int .i64 0) (.string ⟨#[]⟩) (.string ⟨#[]⟩)
  go_wp2
  refine bodyPost_ret (results_ct rfl _ _ w.heap.size 26 _ (0, 0) _ rfl hblk Tryz.underlying26 rfl (by kernel_rfl)) rfl ?_
  exact ⟨rfl, hbe⟩
 have t4 : (n.2.1.toList == []) = true := by rw [q4, bytes_toList]; rfl
 by_cases q7 : 7 < n.1
 ·have t7 : decide (7 < n.1) = true := decide_eq_true q7
  obtain rfl : R = (noBl, 2) := by rw [HV.out]; unfold takenF; rw [if_neg]; rintro ⟨_, _, h⟩; have := (rightBl_inv h).1.2; simp only at this; omega
  have cR0 := cell_of_blk (j := 0) (v := .int .i64 0) HR.out rfl
  have cR1 := cell_of_blk (j := 1) (v := .string ⟨#[]⟩) HR.out rfl
  have cR2 := cell_of_blk (j := 2) (v := .string ⟨#[]⟩) HR.out rfl
  have zR0 := free_of_blk (j := 0) HR.out
  have zR1 := free_of_blk (j := 1) HR.out
  have zR2 := free_of_blk (j := 2) HR.out
  obtain ⟨hblk, hbe⟩ := put3 HB.out HR.out (by omega) (.int .i64 0) (.string ⟨#[]⟩) (.string ⟨#[]⟩)
  go_wp2
  refine bodyPost_ret (results_ct rfl _ _ w.heap.size 26 _ (0, 0) _ rfl hblk Tryz.underlying26 rfl (by kernel_rfl)) rfl ?_
  exact ⟨rfl, hbe⟩
 have t7 : decide (7 < n.1) = false := decide_eq_false q7
 rw [w64 (n := n.1) (by omega) (by omega)] at HN
 have cN0 := cell_of_blk (j := 0) (v := .int .i64 n.1) HN.out rfl
 have cN1 := cell_of_blk (j := 1) (v := .string y) HN.out rfl
 have cN2 := cell_of_blk (j := 2) (v := .string z) HN.out rfl
 go_wp2_with fail
 refine (HRT.out _).mono ?_
 rintro e w4 ⟨rfl, hb⟩
 replace HN := Lib.hid (blk_below HN.out hb)
 replace HR := Lib.hid (blk_below HR.out hb)
 replace HB := Lib.hid (below_step HB.out hb)
 clear hb
 clear cN0 cN1 cN2 HRT
 obtain ⟨c, hc⟩ : ∃ c, rightBl ⟨n.1, y, z⟩ = c := ⟨_, rfl⟩
 rw [hc]
 cases c with
 | false =>
  obtain rfl : R = (noBl, 2) := by rw [HV.out]; unfold takenF; rw [hc, if_neg (by simp)]
  have cR0 := cell_of_blk (j := 0) (v := .int .i64 0) HR.out rfl
  have cR1 := cell_of_blk (j := 1) (v := .string ⟨#[]⟩) HR.out rfl
  have cR2 := cell_of_blk (j := 2) (v := .string ⟨#[]⟩) HR.out rfl
  have zR0 := free_of_blk (j := 0) HR.out
  have zR1 := free_of_blk (j := 1) HR.out
  have zR2 := free_of_blk (j := 2) HR.out
  obtain ⟨hblk, hbe⟩ := put3 HB.out HR.out (by omega) (.int .i64 0) (.string ⟨#[]⟩) (.string ⟨#[]⟩)
  go_wp2
  refine bodyPost_ret (results_ct rfl _ _ w.heap.size 26 _ (0, 0) _ rfl hblk Tryz.underlying26 rfl (by kernel_rfl)) rfl ?_
  exact ⟨rfl, hbe⟩
 | true =>
  obtain rfl : R = (⟨n.1, y, z⟩, 0) := by rw [HV.out]; unfold takenF; rw [if_pos ⟨q3, q4, hc⟩]
  have cN0 := cell_of_blk (j := 0) (v := .int .i64 n.1) HN.out rfl
  have cN1 := cell_of_blk (j := 1) (v := .string y) HN.out rfl
  have cN2 := cell_of_blk (j := 2) (v := .string z) HN.out rfl
  have cR0 := cell_of_blk (j := 0) (v := .int .i64 0) HR.out rfl
  have cR1 := cell_of_blk (j := 1) (v := .string ⟨#[]⟩) HR.out rfl
  have cR2 := cell_of_blk (j := 2) (v := .string ⟨#[]⟩) HR.out rfl
  have zR0 := free_of_blk (j := 0) HR.out
  have zR1 := free_of_blk (j := 1) HR.out
  have zR2 := free_of_blk (j := 2) HR.out
  obtain ⟨hblk, hbe⟩ := put3 HB.out HR.out (by omega) (.int .i64 n.1) (.string y) (.string z)
  go_wp2
  refine bodyPost_ret (results_ct rfl _ _ w.heap.size 26 _ (0, 0) _ rfl hblk Tryz.underlying26 rfl (by kernel_rfl)) rfl ?_
  exact ⟨rfl, hbe⟩
theorem rowS_at {w : World} {A : Option Addr} {l : List ByteArray} (h : Kd.C Kd.string w A l.length l) {k : Nat} (hk : k < l.length) {ad : Addr} (ha : A = some ad) : w.cell? (ad.add k) = some (.string l[k]) := by
 obtain ⟨ad', e, hc⟩ := h.2.2 (by omega)
 rw [ha] at e
 obtain rfl := Option.some.inj e
 obtain ⟨cs, hl, rfl, hz⟩ := hc k l[k] (List.getElem?_eq_getElem hk)
 have := hz 0 _ rfl
 simpa [Kd.string, Kd.scalar] using this
set_option maxRecDepth 100000 in
set_option maxHeartbeats 4000000 in
theorem refOpen9_call (b : Bl) (l : List ByteArray) (st pa : ByteArray) (e0 : Int) (hpa : pa.size ≤ 140737488351232) (hl : l.length ≤ 1000000) (A : Option Addr) (c : Nat) (hc : l.length ≤ c) (w : World) (hC : Kd.C Kd.string w A l.length l) :
  Calls Tryz.prog 18 #[.agg #[.int .i64 b.e, .string b.s, .string b.g], .slice A l.length c, .string st, .int .i64 e0, .string pa] w fun e' w' => e' = .returned (.tuple #[.string (openBl b l st e0 pa).1, .int .i64 (openBl b l st e0 pa).2]) ∧ Below w.heap.size w w' := by
 obtain ⟨be, bs, bg⟩ := b
 obtain ⟨R, hR⟩ : ∃ R, openBl ⟨be, bs, bg⟩ l st e0 pa = R := ⟨_, rfl⟩
 have HE : Hid (R = openBl ⟨be, bs, bg⟩ l st e0 pa) := Lib.hid hR.symm
 rw [hR]
 clear hR
 have HXb : Hid ((w.alloc (.cells #[.int .i64 be, .string bs, .string bg] 26)).heap[w.heap.size]? = some (.cells #[.int .i64 be, .string bs, .string bg] 26 (0, 0))) := Lib.hid (blk_new w _)
 have HB := Lib.hid (below_alloc (Below.refl w.heap.size w) (.cells #[.int .i64 be, .string bs, .string bg] 26))
 have HV := Lib.hid (Kd.C_below hC HB.out)
 clear hC
 have HR9 := Lib.hid (refRight9_call ⟨be, bs, bg⟩)
 simp only at HR9 ⊢
 have x0 := cell_of_blk (j := 0) (v := .int .i64 be) HXb.out rfl
 have x1 := cell_of_blk (j := 1) (v := .string bs) HXb.out rfl
 have x2 := cell_of_blk (j := 2) (v := .string bg) HXb.out rfl
 go_enter Tryz.func18, Tryz.ntmps18
 go_wp2_with fail
 refine (HR9.out _).mono ?_
 rintro e w1 ⟨rfl, hb⟩
 replace HXb := Lib.hid (blk_below HXb.out hb)
 replace HV := Lib.hid (Kd.C_below HV.out hb)
 replace HB := Lib.hid (below_step HB.out hb)
 clear hb
 clear x0 x1 x2
 obtain ⟨c1, hc1⟩ : ∃ c, rightBl ⟨be, bs, bg⟩ = c := ⟨_, rfl⟩
 rw [hc1]
 have hno : openOk ⟨be, bs, bg⟩ l st e0 = false → openBl ⟨be, bs, bg⟩ l st e0 pa = (⟨#[]⟩, 1) := fun h => by unfold openBl; rw [h, if_neg (by simp)]
 have HNO := Lib.hid hno
 clear hno
 cases c1 with
 | false =>
  obtain rfl : R = (⟨#[]⟩, 1) := by rw [HE.out]; exact HNO.out (by unfold openOk; rw [hc1, Bool.false_and])
  go_wp2
  go_ret2
  exact ⟨rfl, HB.out⟩
 | true =>
  go_wp2_with fail
  refine (cRight st _).mono ?_
  rintro e w2 ⟨rfl, hb⟩
  replace HXb := Lib.hid (blk_below HXb.out hb)
  replace HV := Lib.hid (Kd.C_below HV.out hb)
  replace HB := Lib.hid (below_step HB.out hb)
  clear hb
  obtain ⟨c2, hc2⟩ : ∃ c, right st = c := ⟨_, rfl⟩
  rw [hc2]
  cases c2 with
  | false =>
   obtain rfl : R = (⟨#[]⟩, 1) := by rw [HE.out]; exact HNO.out (by unfold openOk; rw [hc1, hc2]; simp)
   go_wp2
   go_ret2
   exact ⟨rfl, HB.out⟩
  | true =>
   by_cases qa : e0 < 0
   ·have t0 : decide (e0 < 0) = true := decide_eq_true qa
    obtain rfl : R = (⟨#[]⟩, 1) := by rw [HE.out]; exact HNO.out (by unfold openOk epochB; rw [decide_eq_false (show ¬ (0 ≤ e0 ∧ e0 ≤ 7) by omega)]; simp)
    go_wp2
    go_ret2
    exact ⟨rfl, HB.out⟩
   have t0 : decide (e0 < 0) = false := decide_eq_false qa
   by_cases qb : 7 < e0
   ·have t1 : decide (7 < e0) = true := decide_eq_true qb
    obtain rfl : R = (⟨#[]⟩, 1) := by rw [HE.out]; exact HNO.out (by unfold openOk epochB; rw [decide_eq_false (show ¬ (0 ≤ e0 ∧ e0 ≤ 7) by omega)]; simp)
    go_wp2
    go_ret2
    exact ⟨rfl, HB.out⟩
   have t1 : decide (7 < e0) = false := decide_eq_false qb
   have tw : wrap64 (e0 + 1) = e0 + 1 := w64 (by omega) (by omega)
   by_cases qn : (l.length : Int) = e0 + 1
   rotate_left
   ·have t2 : ((l.length : Int) != e0 + 1) = true := bne_iff_ne.2 qn
    obtain rfl : R = (⟨#[]⟩, 1) := by rw [HE.out]; exact HNO.out (by unfold openOk; rw [decide_eq_false qn]; simp)
    go_wp2
    go_ret2
    exact ⟨rfl, HB.out⟩
   have t2 : ((l.length : Int) != e0 + 1) = false := by rw [qn]; simp
   have hok : openOk ⟨be, bs, bg⟩ l st e0 = true := by unfold openOk epochB; rw [hc1, hc2, decide_eq_true (show 0 ≤ e0 ∧ e0 ≤ 7 by omega), decide_eq_true qn]; rfl
   obtain ⟨hbe, hbs, hbg⟩ := rightBl_inv hc1
   simp only at hbe hbs hbg
   replace HE : Hid (R = if e0 < be then ((⟨#[]⟩, 7) : ByteArray × Int) else match openedF ⟨be, bs, bg⟩ (l.getD be.toNat ⟨#[]⟩) st (e0 - be) pa with | some c => (c, 0) | none => (⟨#[]⟩, 7)) := Lib.hid (by rw [HE.out]; unfold openBl; rw [if_pos hok]; rfl)
   clear hok HNO
   have x0 := cell_of_blk (j := 0) (v := .int .i64 be) HXb.out rfl
   have x1 := cell_of_blk (j := 1) (v := .string bs) HXb.out rfl
   have x2 := cell_of_blk (j := 2) (v := .string bg) HXb.out rfl
   by_cases qc : e0 < be
   ·have t3 : decide (e0 < be) = true := decide_eq_true qc
    obtain rfl : R = (⟨#[]⟩, 7) := by rw [HE.out]; rw [if_pos qc]
    go_wp2
    go_ret2
    exact ⟨rfl, HB.out⟩
   have t3 : decide (e0 < be) = false := decide_eq_false qc
   replace HE : Hid (R = match openedF ⟨be, bs, bg⟩ (l.getD be.toNat ⟨#[]⟩) st (e0 - be) pa with | some c => ((c, 0) : ByteArray × Int) | none => (⟨#[]⟩, 7)) := Lib.hid (by rw [HE.out, if_neg qc])
   have HSG := Lib.hid (cSigned be bs (by omega) (by omega))
   unfold openedF at HE
   simp only at HE
   generalize signedF be bs = D at *
   go_wp2_with fail
   refine (HSG.out _).mono ?_
   rintro e w3 ⟨rfl, hb⟩
   replace HXb := Lib.hid (blk_below HXb.out hb)
   replace HV := Lib.hid (Kd.C_below HV.out hb)
   replace HB := Lib.hid (below_step HB.out hb)
   clear hb
   clear x0 x1 x2 HSG
   have HKL : Hid (be.toNat < l.length) := Lib.hid (by omega)
   by_cases qd : D.2 = 0
   rotate_left
   ·have t4 : (D.2 != 0) = true := bne_iff_ne.2 qd
    go_wp2_with fail
    have hb : Below w3.heap.size w3 w3.drew := below_drew (Below.refl _ _)
    replace HXb := Lib.hid (blk_below HXb.out hb)
    replace HV := Lib.hid (Kd.C_below HV.out hb)
    replace HB := Lib.hid (below_step HB.out hb)
    clear hb
    refine start_ (n := 14) (S := fun w' => True) (ds := []) #[false, false, false, false, false, false, false, false, false, false, false, false, false, false] (by kernel_rfl) rfl rfl trivial (fun hHeld => ?_)
    refine with_tabW ro6.tab6 ro6.bits6 (fun HT_ HW_ => ?_)
    refine pure_ (i := 0) (N := some 56) (v := ?_) (a' := ?_) #[true, false, false, false, false, false, false, false, false, false, false, false, false, false] rfl rfl (any_of HT_.out (by kernel_rfl)) (fun _ _ _ h => h) (Or.inl ⟨by rfl, ?_⟩) ?_ ?_
    rotate_left
    ·intro w'
     go_simp
     with_reducible rfl
    rotate_left
    ·simp only [Act.put, List.setIfInBounds_toArray, List.set_cons_zero, List.set_cons_succ, i64_w, i32_w]
     rfl
    refine pure_ (i := 1) (N := some 57) (v := ?_) (a' := ?_) #[true, true, false, false, false, false, false, false, false, false, false, false, false, false] rfl rfl (any_of HT_.out (by kernel_rfl)) (fun _ _ _ h => h) (Or.inl ⟨by rfl, ?_⟩) ?_ ?_
    rotate_left
    ·intro w'
     go_simp
     with_reducible rfl
    rotate_left
    ·simp only [Act.put, List.setIfInBounds_toArray, List.set_cons_zero, List.set_cons_succ, i64_w, i32_w]
     rfl
    refine pure_ (i := 2) (N := some 58) (v := ?_) (a' := ?_) #[true, true, true, false, false, false, false, false, false, false, false, false, false, false] rfl rfl (any_of HT_.out (by kernel_rfl)) (fun _ _ _ h => h) (Or.inl ⟨by rfl, ?_⟩) ?_ ?_
    rotate_left
    ·intro w'
     go_simp
     with_reducible rfl
    rotate_left
    ·simp only [Act.put, List.setIfInBounds_toArray, List.set_cons_zero, List.set_cons_succ, i64_w, i32_w]
     rfl
    refine pure_ (i := 3) (N := some 59) (v := undef) (a' := ?_) #[true, true, true, true, false, false, false, false, false, false, false, false, false, false] rfl rfl (any_of HT_.out (by kernel_rfl)) (fun _ _ _ h => h) (Or.inr ⟨by rfl, rfl⟩) ?_ ?_
    rotate_left
    ·simp only [Act.put, List.setIfInBounds_toArray, List.set_cons_zero, List.set_cons_succ, i64_w, i32_w]
     rfl
    refine pure_ (i := 4) (N := some 60) (v := undef) (a' := ?_) #[true, true, true, true, true, false, false, false, false, false, false, false, false, false] rfl rfl (any_of HT_.out (by kernel_rfl)) (fun _ _ _ h => h) (Or.inr ⟨by rfl, rfl⟩) ?_ ?_
    rotate_left
    ·simp only [Act.put, List.setIfInBounds_toArray, List.set_cons_zero, List.set_cons_succ, i64_w, i32_w]
     rfl
    refine pure_ (i := 5) (N := some 61) (v := undef) (a' := ?_) #[true, true, true, true, true, true, false, false, false, false, false, false, false, false] rfl rfl (any_of HT_.out (by kernel_rfl)) (fun _ _ _ h => h) (Or.inr ⟨by rfl, rfl⟩) ?_ ?_
    rotate_left
    ·simp only [Act.put, List.setIfInBounds_toArray, List.set_cons_zero, List.set_cons_succ, i64_w, i32_w]
     rfl
    refine pure_ (i := 6) (N := some 62) (v := undef) (a' := ?_) #[true, true, true, true, true, true, true, false, false, false, false, false, false, false] rfl rfl (any_of HT_.out (by kernel_rfl)) (fun _ _ _ h => h) (Or.inr ⟨by rfl, rfl⟩) ?_ ?_
    rotate_left
    ·simp only [Act.put, List.setIfInBounds_toArray, List.set_cons_zero, List.set_cons_succ, i64_w, i32_w]
     rfl
    refine pure_ (i := 7) (N := some 63) (v := undef) (a' := ?_) #[true, true, true, true, true, true, true, true, false, false, false, false, false, false] rfl rfl (any_of HT_.out (by kernel_rfl)) (fun _ _ _ h => h) (Or.inr ⟨by rfl, rfl⟩) ?_ ?_
    rotate_left
    ·simp only [Act.put, List.setIfInBounds_toArray, List.set_cons_zero, List.set_cons_succ, i64_w, i32_w]
     rfl
    refine pure_ (i := 8) (N := some 64) (v := undef) (a' := ?_) #[true, true, true, true, true, true, true, true, true, false, false, false, false, false] rfl rfl (any_of HT_.out (by kernel_rfl)) (fun _ _ _ h => h) (Or.inr ⟨by rfl, rfl⟩) ?_ ?_
    rotate_left
    ·simp only [Act.put, List.setIfInBounds_toArray, List.set_cons_zero, List.set_cons_succ, i64_w, i32_w]
     rfl
    refine pure_ (i := 9) (N := some 65) (v := undef) (a' := ?_) #[true, true, true, true, true, true, true, true, true, true, false, false, false, false] rfl rfl (any_of HT_.out (by kernel_rfl)) (fun _ _ _ h => h) (Or.inr ⟨by rfl, rfl⟩) ?_ ?_
    rotate_left
    ·simp only [Act.put, List.setIfInBounds_toArray, List.set_cons_zero, List.set_cons_succ, i64_w, i32_w]
     rfl
    refine pure_ (i := 10) (N := some 66) (v := undef) (a' := ?_) #[true, true, true, true, true, true, true, true, true, true, true, false, false, false] rfl rfl (any_of HT_.out (by kernel_rfl)) (fun _ _ _ h => h) (Or.inr ⟨by rfl, rfl⟩) ?_ ?_
    rotate_left
    ·simp only [Act.put, List.setIfInBounds_toArray, List.set_cons_zero, List.set_cons_succ, i64_w, i32_w]
     rfl
    refine pure_ (i := 11) (N := some 67) (v := undef) (a' := ?_) #[true, true, true, true, true, true, true, true, true, true, true, true, false, false] rfl rfl (any_of HT_.out (by kernel_rfl)) (fun _ _ _ h => h) (Or.inr ⟨by rfl, rfl⟩) ?_ ?_
    rotate_left
    ·simp only [Act.put, List.setIfInBounds_toArray, List.set_cons_zero, List.set_cons_succ, i64_w, i32_w]
     rfl
    refine pure_ (i := 12) (N := some 68) (v := undef) (a' := ?_) #[true, true, true, true, true, true, true, true, true, true, true, true, true, false] rfl rfl (any_of HT_.out (by kernel_rfl)) (fun _ _ _ h => h) (Or.inr ⟨by rfl, rfl⟩) ?_ ?_
    rotate_left
    ·simp only [Act.put, List.setIfInBounds_toArray, List.set_cons_zero, List.set_cons_succ, i64_w, i32_w]
     rfl
    refine pure_ (i := 13) (N := some 69) (v := ?_) (a' := ?_) #[true, true, true, true, true, true, true, true, true, true, true, true, true, true] rfl rfl (any_of HT_.out (by kernel_rfl)) (fun _ _ _ h => h) (Or.inl ⟨by rfl, ?_⟩) ?_ ?_
    rotate_left
    ·intro w'
     go_simp
     with_reducible rfl
    rotate_left
    ·simp only [Act.put, List.setIfInBounds_toArray, List.set_cons_zero, List.set_cons_succ, i64_w, i32_w]
     rfl
    refine done_ (done_of HT_.out (by kernel_rfl)) ?_
    clear HT_
    obtain rfl : R = (⟨#[]⟩, 7) := by rw [HE.out]; rw [if_neg (fun h => qd h.1)]
    go_wp2
    go_ret2
    exact ⟨rfl, HB.out⟩
   have t4 : (D.2 != 0) = false := by rw [qd]; rfl
   obtain ⟨k, hk⟩ : ∃ k : Nat, be = (k : Int) := ⟨be.toNat, by omega⟩
   subst hk
   rw [Int.toNat_natCast] at HE HKL
   have hkl := HKL.out
   obtain ⟨ad, hA, _⟩ := (HV.out).2.2 (by omega)
   subst hA
   have hgd : l.getD k ⟨#[]⟩ = l[k] := by rw [List.getD_eq_getElem?_getD, List.getElem?_eq_getElem hkl]; rfl
   rw [hgd] at HE
   clear hgd
   have hk8 : (k : Int) < 8 := by omega
   have hk1 : (k : Int) < e0 + 1 := by omega
   have hk0 : decide ((k : Int) < (l.length : Int)) = true := decide_eq_true (by omega)
   have hkn : k < l.length := hkl
   have HVF := Lib.hid (cVerify l[k] D.1 bg)
   generalize hu : l[k] = u at *
   go_wp2_with fail
   have hb : Below w3.heap.size w3 w3.drew := below_drew (Below.refl _ _)
   replace HXb := Lib.hid (blk_below HXb.out hb)
   replace HV := Lib.hid (Kd.C_below HV.out hb)
   replace HB := Lib.hid (below_step HB.out hb)
   clear hb
   refine start_ (n := 14) (S := fun w' => w'.cell? ⟨w.heap.size, 0, none⟩ = some (.int .i64 (k : Int)) ∧ w'.cell? ⟨w.heap.size, 2, none⟩ = some (.string bg) ∧ w'.cell? (ad.add k) = some (.string u)) (ds := []) #[false, false, false, false, false, false, false, false, false, false, false, false, false, false] (by kernel_rfl) rfl rfl ⟨(cell_of_blk HXb.out rfl), (cell_of_blk HXb.out rfl), (hu ▸ rowS_at HV.out hkl rfl)⟩ (fun hHeld => ?_)
   refine with_tabW ro6.tab6 ro6.bits6 (fun HT_ HW_ => ?_)
   refine pure_ (i := 0) (N := some 56) (v := ?_) (a' := ?_) #[true, false, false, false, false, false, false, false, false, false, false, false, false, false] rfl rfl (any_of HT_.out (by kernel_rfl)) (fun _ _ _ h => h) (Or.inl ⟨by rfl, ?_⟩) ?_ ?_
   rotate_left
   ·intro w'
    go_simp
    with_reducible rfl
   rotate_left
   ·simp only [Act.put, List.setIfInBounds_toArray, List.set_cons_zero, List.set_cons_succ, i64_w, i32_w]
    rfl
   refine pure_ (i := 1) (N := some 57) (v := ?_) (a' := ?_) #[true, true, false, false, false, false, false, false, false, false, false, false, false, false] rfl rfl (any_of HT_.out (by kernel_rfl)) (fun _ _ _ h => h) (Or.inl ⟨by rfl, ?_⟩) ?_ ?_
   rotate_left
   ·intro w'
    go_simp
    with_reducible rfl
   rotate_left
   ·simp only [Act.put, List.setIfInBounds_toArray, List.set_cons_zero, List.set_cons_succ, i64_w, i32_w]
    rfl
   refine pure_ (i := 2) (N := some 58) (v := ?_) (a' := ?_) #[true, true, true, false, false, false, false, false, false, false, false, false, false, false] rfl rfl (any_of HT_.out (by kernel_rfl)) (fun _ _ _ h => h) (Or.inl ⟨by rfl, ?_⟩) ?_ ?_
   rotate_left
   ·intro w'
    go_simp
    with_reducible rfl
   rotate_left
   ·simp only [Act.put, List.setIfInBounds_toArray, List.set_cons_zero, List.set_cons_succ, i64_w, i32_w]
    rfl
   refine pure_ (i := 3) (N := some 59) (v := ?_) (a' := ?_) #[true, true, true, true, false, false, false, false, false, false, false, false, false, false] rfl rfl (any_of HT_.out (by kernel_rfl)) (fun _ _ _ h => h) (Or.inl ⟨by rfl, ?_⟩) ?_ ?_
   rotate_left
   ·intro w'
    go_simp
    with_reducible rfl
   rotate_left
   ·simp only [Act.put, List.setIfInBounds_toArray, List.set_cons_zero, List.set_cons_succ, i64_w, i32_w]
    rfl
   refine pure_ (i := 4) (N := some 60) (v := ?_) (a' := ?_) #[true, true, true, true, true, false, false, false, false, false, false, false, false, false] rfl rfl (any_of HT_.out (by kernel_rfl)) (fun _ _ _ h => h) (Or.inl ⟨by rfl, ?_⟩) ?_ ?_
   rotate_left
   ·intro w'
    go_simp
    with_reducible rfl
   rotate_left
   ·simp only [Act.put, List.setIfInBounds_toArray, List.set_cons_zero, List.set_cons_succ, i64_w, i32_w]
    rfl
   refine pure_ (i := 8) (N := some 64) (v := ?_) (a' := ?_) #[true, true, true, true, true, false, false, false, true, false, false, false, false, false] rfl rfl (any_of HT_.out (by kernel_rfl)) (fun _ _ _ h => h) (Or.inl ⟨by rfl, ?_⟩) ?_ ?_
   rotate_left
   ·intro w'
    go_simp
    with_reducible rfl
   rotate_left
   ·simp only [Act.put, List.setIfInBounds_toArray, List.set_cons_zero, List.set_cons_succ, i64_w, i32_w]
    rfl
   refine pure_ (i := 9) (N := some 65) (v := ?_) (a' := ?_) #[true, true, true, true, true, false, false, false, true, true, false, false, false, false] rfl rfl (any_of HT_.out (by kernel_rfl)) (fun _ _ _ h => h) (Or.inl ⟨by rfl, ?_⟩) ?_ ?_
   rotate_left
   ·intro w'
    go_simp
    with_reducible rfl
   rotate_left
   ·simp only [Act.put, List.setIfInBounds_toArray, List.set_cons_zero, List.set_cons_succ, i64_w, i32_w]
    rfl
   refine take_ (i := 5) (N := some 61) (v := ?_) (a' := ?_) #[true, true, true, true, true, true, false, false, true, true, false, false, false, false] rfl rfl (take_ofW HT_.out HW_.out (by kernel_rfl)) (fun _ _ _ h => h) (Or.inl ⟨by rfl, ?_⟩) hHeld ?_ ?_
   rotate_left
   ·rintro w' ⟨s0, s1, s2⟩
    go_simp
    with_reducible rfl
   rotate_left
   ·simp only [Act.put, List.setIfInBounds_toArray, List.set_cons_zero, List.set_cons_succ, i64_w, i32_w]
    rfl
   refine pure_ (i := 6) (N := some 62) (v := ?_) (a' := ?_) #[true, true, true, true, true, true, true, false, true, true, false, false, false, false] rfl rfl (any_of HT_.out (by kernel_rfl)) (fun _ _ _ h => h) (Or.inl ⟨by rfl, ?_⟩) ?_ ?_
   rotate_left
   ·intro w'
    go_simp
    with_reducible rfl
   rotate_left
   ·simp only [Act.put, List.setIfInBounds_toArray, List.set_cons_zero, List.set_cons_succ, i64_w, i32_w]
    rfl
   refine take_ (i := 7) (N := some 63) (v := ?_) (a' := ?_) #[true, true, true, true, true, true, true, true, true, true, false, false, false, false] rfl rfl (take_ofW HT_.out HW_.out (by kernel_rfl)) (fun _ _ _ h => h) (Or.inl ⟨by rfl, ?_⟩) hHeld ?_ ?_
   rotate_left
   ·rintro w' ⟨s0, s1, s2⟩
    go_simp
    with_reducible rfl
   rotate_left
   ·simp only [Act.put, List.setIfInBounds_toArray, List.set_cons_zero, List.set_cons_succ, i64_w, i32_w]
    rfl
   refine take_ (i := 10) (N := some 66) (v := ?_) (a' := ?_) #[true, true, true, true, true, true, true, true, true, true, true, false, false, false] rfl rfl (take_ofW HT_.out HW_.out (by kernel_rfl)) (fun _ _ _ h => h) (Or.inl ⟨by rfl, ?_⟩) hHeld ?_ ?_
   rotate_left
   ·rintro w' ⟨s0, s1, s2⟩
    go_simp
    with_reducible rfl
   rotate_left
   ·simp only [Act.put, List.setIfInBounds_toArray, List.set_cons_zero, List.set_cons_succ, i64_w, i32_w]
    rfl
   refine one_ (i := 11) (N := some 67) #[true, true, true, true, true, true, true, true, true, true, true, true, false, false] rfl rfl (one_of HT_.out (by kernel_rfl)) (by decide) (fun K hK => ?_)
   refine goes_ Tryz.func73 (by kernel_rfl) rfl #[.string u, .string D.1, .string bg] (by rfl) rfl rfl (by simp only [List.map_toArray, List.map_cons, List.map_nil]; rfl) ?_
   refine (HVF.out _).mono ?_
   rintro e w4 ⟨rfl, hb⟩
   refine ⟨_, rfl, ?_⟩
   replace HXb := Lib.hid (blk_below HXb.out hb)
   replace HV := Lib.hid (Kd.C_below HV.out hb)
   replace HB := Lib.hid (below_step HB.out hb)
   clear hb
   refine hK.out _ _ ⟨(cell_of_blk HXb.out rfl), (cell_of_blk HXb.out rfl), (hu ▸ rowS_at HV.out hkl rfl)⟩ (fun hHeld => ?_)
   clear hK K
   refine norm_ (a' := ?_) ?_ ?_
   rotate_left
   ·show Act.put _ (some 67) _ = _
    simp only [Act.put, List.setIfInBounds_toArray, List.set_cons_zero, List.set_cons_succ, i64_w, i32_w]
    rfl
   refine pure_ (i := 12) (N := some 68) (v := ?_) (a' := ?_) #[true, true, true, true, true, true, true, true, true, true, true, true, true, false] rfl rfl (any_of HT_.out (by kernel_rfl)) (fun _ _ _ h => h) (Or.inl ⟨by rfl, ?_⟩) ?_ ?_
   rotate_left
   ·intro w'
    go_simp
    with_reducible rfl
   rotate_left
   ·simp only [Act.put, List.setIfInBounds_toArray, List.set_cons_zero, List.set_cons_succ, i64_w, i32_w]
    rfl
   refine pure_ (i := 13) (N := some 69) (v := ?_) (a' := ?_) #[true, true, true, true, true, true, true, true, true, true, true, true, true, true] rfl rfl (any_of HT_.out (by kernel_rfl)) (fun _ _ _ h => h) (Or.inl ⟨by rfl, ?_⟩) ?_ ?_
   rotate_left
   ·intro w'
    go_simp
    with_reducible rfl
   rotate_left
   ·simp only [Act.put, List.setIfInBounds_toArray, List.set_cons_zero, List.set_cons_succ, i64_w, i32_w]
    rfl
   refine done_ (done_of HT_.out (by kernel_rfl)) ?_
   clear HT_
   by_cases qv : verifyF u D.1 bg = 0
   rotate_left
   ·have t5 : (verifyF u D.1 bg != 0) = true := bne_iff_ne.2 qv
    obtain rfl : R = (⟨#[]⟩, 7) := by rw [HE.out]; rw [if_neg (fun h => qv h.2.1)]
    go_wp2
    go_ret2
    exact ⟨rfl, HB.out⟩
   have t5 : (verifyF u D.1 bg != 0) = false := by rw [qv]; rfl
   have HBK := Lib.hid (cBack st (e0 - (k : Int)) (by omega))
   generalize backF st (e0 - (k : Int)) = K at *
   have x0 := cell_of_blk (j := 0) (v := .int .i64 (k : Int)) HXb.out rfl
   have x1 := cell_of_blk (j := 1) (v := .string bs) HXb.out rfl
   have x2 := cell_of_blk (j := 2) (v := .string bg) HXb.out rfl
   have tw2 : wrap64 (e0 - (k : Int)) = e0 - (k : Int) := w64 (by omega) (by omega)
   go_wp2_with fail
   refine (HBK.out _).mono ?_
   rintro e w5 ⟨rfl, hb⟩
   replace HXb := Lib.hid (blk_below HXb.out hb)
   replace HV := Lib.hid (Kd.C_below HV.out hb)
   replace HB := Lib.hid (below_step HB.out hb)
   clear hb
   clear x0 x1 x2 HBK
   by_cases qk : K.2 = 0
   rotate_left
   ·have t6 : (K.2 != 0) = true := bne_iff_ne.2 qk
    obtain rfl : R = (⟨#[]⟩, 7) := by rw [HE.out]; rw [if_neg (fun h => qk h.2.2.1)]
    go_wp2
    go_ret2
    exact ⟨rfl, HB.out⟩
   have t6 : (K.2 != 0) = false := by rw [qk]; rfl
   have HKY := Lib.hid (cKey K.1)
   generalize keyF K.1 = Y at *
   go_wp2_with fail
   refine (HKY.out _).mono ?_
   rintro e w6 ⟨rfl, hb⟩
   replace HXb := Lib.hid (blk_below HXb.out hb)
   replace HV := Lib.hid (Kd.C_below HV.out hb)
   replace HB := Lib.hid (below_step HB.out hb)
   clear hb
   by_cases qy : Y.2 = 0
   rotate_left
   ·have t7 : (Y.2 != 0) = true := bne_iff_ne.2 qy
    obtain rfl : R = (⟨#[]⟩, 7) := by rw [HE.out]; rw [if_neg (fun h => qy h.2.2.2)]
    go_wp2
    go_ret2
    exact ⟨rfl, HB.out⟩
   have t7 : (Y.2 != 0) = false := by rw [qy]; rfl
   obtain ⟨t, ht, hlast⟩ := inside_texts Y.1 bs pa hbs
   replace HE : Hid (R = lastF t pa) := Lib.hid (by rw [HE.out, if_pos ⟨qd, qv, qk, qy⟩, hlast])
   have hrb : right bs = true := by
    cases h : right bs with
    | true => rfl
    | false => rw [kind_zero h] at hbs; exact absurd hbs (by decide)
   have HOP := Lib.hid (cOpen Y.1 bs hrb)
   generalize unsealF Y.1 bs = P at *
   obtain ⟨kk, hkk⟩ := ev_some ht
   have HTX := Lib.hid (fun W => letterlockref9_texts.calls kk P.1 t.1 t.2.1 t.2.2 W hkk)
   clear hlast ht hkk hrb
   have x0 := cell_of_blk (j := 0) (v := .int .i64 (k : Int)) HXb.out rfl
   have x1 := cell_of_blk (j := 1) (v := .string bs) HXb.out rfl
   have x2 := cell_of_blk (j := 2) (v := .string bg) HXb.out rfl
   go_wp2_with fail
   refine (HOP.out _).mono ?_
   rintro e w7 ⟨rfl, hb⟩
   replace HXb := Lib.hid (blk_below HXb.out hb)
   replace HV := Lib.hid (Kd.C_below HV.out hb)
   replace HB := Lib.hid (below_step HB.out hb)
   clear hb
   clear x0 x1 x2
   go_wp2_with fail
   refine (HTX.out _).mono ?_
   rintro e w8 ⟨rfl, hb⟩
   replace HXb := Lib.hid (blk_below HXb.out hb)
   replace HV := Lib.hid (Kd.C_below HV.out hb)
   replace HB := Lib.hid (below_step HB.out hb)
   clear hb
   unfold lastF at HE
   by_cases p1 : t.2.2 = true
   rotate_left
   ·have p1' : t.2.2 = false := by simpa using p1
    obtain rfl : R = (⟨#[]⟩, 7) := by rw [HE.out]; rw [if_neg p1]
    go_wp2
    go_ret2
    exact ⟨rfl, HB.out⟩
   by_cases p2 : t.1 = pa
   rotate_left
   ·have t8 : (t.1.toList == pa.toList) = false := beq_eq_false_iff_ne.2 (fun e => p2 ((tl_eq _ _).1 e))
    obtain rfl : R = (⟨#[]⟩, 7) := by rw [HE.out]; rw [if_pos p1, if_neg p2]
    go_wp2
    go_ret2
    exact ⟨rfl, HB.out⟩
   have t8 : (t.1.toList == pa.toList) = true := beq_iff_eq.2 ((tl_eq _ _).2 p2)
   by_cases p3 : t.2.1.size ≤ 64
   rotate_left
   ·have t9 : decide (64 < (t.2.1.size : Int)) = true := decide_eq_true (by omega)
    obtain rfl : R = (⟨#[]⟩, 7) := by rw [HE.out]; rw [if_pos p1, if_pos p2, if_neg p3]
    go_wp2
    go_ret2
    exact ⟨rfl, HB.out⟩
   have t9 : decide (64 < (t.2.1.size : Int)) = false := decide_eq_false (by omega)
   obtain rfl : R = (t.2.1, 0) := by rw [HE.out]; rw [if_pos p1, if_pos p2, if_pos p3]
   go_wp2
   go_ret2
   exact ⟨rfl, HB.out⟩
end Go.Proofs.YtphehoidkmficaaGreatDoor.Ref
end
