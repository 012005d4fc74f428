/- Contracts and laws that the statement of LawWriterOpens,LawWriterReads,LawWriterRenews,LawWriterSteps leans on (packed from this claim's own texts): part 9. -/
import Derived.Test.YtphehoidkmficaaGreatDoorQW4
import Derived.Test.YtphehoidkmficaaGreatDoorQW6
import Derived.Test.YtphehoidkmficaaGreatDoorQW7
import Derived.Test.YtphehoidkmficaaGreatDoorQW8
section

namespace Go.Proofs.YtphehoidkmficaaGreatDoor
open Go.RowKit Go.Proofs.YtphehoidkmficaaGreatDoorW.PrintWords Go.Proofs.YtphehoidkmficaaGreatDoorW.PrintLast Go.Proofs.YtphehoidkmficaaGreatDoor.Ref Go.Proofs.YtphehoidkmficaaGreatDoor.PA Go.Proofs.YtphehoidkmficaaGreatDoor.PB
set_option linter.unusedVariables false
set_option linter.unusedSimpArgs false
theorem parts_wf {t a : T} (h : Wf t) (ha : a ∈ t.parts) : Wf a := by
 cases t with
 | atom n => simp [T.parts] at ha
 | text s => simp [T.parts] at ha
 | one k x => simp only [T.parts, List.mem_singleton] at ha; subst ha; exact wf_one h
 | two k x y =>
  simp only [T.parts, List.mem_cons, List.not_mem_nil, or_false] at ha
  rcases ha with rfl | rfl
  ·exact wf_left h
  ·exact wf_right h
theorem words_tm {t : T} (h : Wf t) : wordsF (tm t) = match t with | .text s => (ofBytes s, 0) | _ => (⟨#[]⟩, 2) := by
 unfold wordsF
 rw [term_tm h]
 cases t <;> rfl
def stepsF (e : Int) (s g v st : ByteArray) (n : Int) (pa : ByteArray) (l : List ByteArray) : ByteArray × Int :=
 if (signedF e s).2 = 0 then (if verifyF v (signedF e s).1 g = 0 then (if (backF st n).2 = 0 then (if (keyF (backF st n).1).2 = 0 then (if (unsealF (keyF (backF st n).1).1 s).2 = 0 then afterF l pa else (⟨#[]⟩, (unsealF (keyF (backF st n).1).1 s).2)) else (⟨#[]⟩, (keyF (backF st n).1).2)) else (⟨#[]⟩, (backF st n).2)) else (⟨#[]⟩, verifyF v (signedF e s).1 g)) else (⟨#[]⟩, (signedF e s).2)
theorem inside_after {a b : T} (hw : Wf (.two .s a b)) {k : ByteArray} (h : tm a = k) (pa : ByteArray) :
  insideF k (tm (.two .s a b)) pa = if (afterF (b.parts.map tm) pa).2 = 0 ∧ (afterF (b.parts.map tm) pa).1.size ≤ 64 ∧ b.code.toNat = 112 then some (afterF (b.parts.map tm) pa).1 else none := by
 unfold insideF
 rw [term_tm hw]
 have hb := wf_right hw
 cases b with
 | atom n => simp [T.code]
 | text n => simp [T.code]
 | one kk x => cases kk <;> simp [T.code, K1.code]
 | two kk x y =>
  cases kk with
  | s => simp [T.code, K2.code]
  | b => simp [T.code, K2.code]
  | g => simp [T.code, K2.code]
  | p =>
   have hx := wf_left hb
   have hy := wf_right hb
   have hc : (T.two K2.p x y).code.toNat = 112 := rfl
   simp only [T.parts, List.map_cons, List.map_nil, afterF, hc, and_true]
   rw [words_tm hx, words_tm hy]
   cases x with
   | atom n => simp
   | one _ _ => simp
   | two _ _ _ => simp
   | text s =>
    simp only [if_true]
    by_cases hp : ofBytes s = pa
    ·simp only [if_pos hp]
     cases y with
     | atom n => simp
     | one _ _ => simp
     | two _ _ _ => simp
     | text s' => simp [h, hp, size_ofBytes]
    ·simp only [if_neg hp]
     cases y with
     | atom n => simp
     | one _ _ => simp
     | two _ _ _ => simp
     | text s' => simp [hp]
theorem inside_not {a b : T} (hw : Wf (.two .s a b)) {k : ByteArray} (h : tm a ≠ k) (pa : ByteArray) : insideF k (tm (.two .s a b)) pa = none := by
 unfold insideF
 rw [term_tm hw]
 split
 ·rename_i heq
  simp only [Option.some.injEq, T.two.injEq, true_and] at heq
  obtain ⟨rfl, rfl⟩ := heq
  rw [if_neg (fun hh => h hh.1)]
 ·rfl
theorem unseal_val {a b : T} (hw : Wf (.two .s a b)) {k : ByteArray} : (tm a = k ∧ unsealF k (tm (.two .s a b)) = (tm b, 0)) ∨ (tm a ≠ k ∧ (unsealF k (tm (.two .s a b))).2 ≠ 0) := by
 by_cases h : tm a = k
 ·refine Or.inl ⟨h, ?_⟩
  subst h
  unfold unsealF
  rw [if_pos (right_tm (wf_left hw)), term_tm hw]
  simp
 ·refine Or.inr ⟨h, ?_⟩
  unfold unsealF
  rw [term_tm hw]
  by_cases hr : right k = true
  ·rw [if_pos hr]; simp [h]
  ·rw [if_neg hr]; simp
theorem opened_steps {e n : Int} {g v st pa : ByteArray} {a b : T} (hw : Wf (.two .s a b)) :
  openedF ⟨e, tm (.two .s a b), g⟩ v st n pa = if (stepsF e (tm (.two .s a b)) g v st n pa (b.parts.map tm)).2 = 0 ∧ (stepsF e (tm (.two .s a b)) g v st n pa (b.parts.map tm)).1.size ≤ 64 ∧ b.code.toNat = 112 then some (stepsF e (tm (.two .s a b)) g v st n pa (b.parts.map tm)).1 else none := by
 unfold openedF stepsF
 simp only
 by_cases h1 : (signedF e (tm (.two .s a b))).2 = 0
 ·simp only [if_pos h1]
  by_cases h2 : verifyF v (signedF e (tm (.two .s a b))).1 g = 0
  ·simp only [if_pos h2]
   by_cases h3 : (backF st n).2 = 0
   ·simp only [if_pos h3]
    by_cases h4 : (keyF (backF st n).1).2 = 0
    ·simp only [if_pos h4]
     rw [if_pos ⟨h1, h2, h3, h4⟩]
     rcases unseal_val hw (k := (keyF (backF st n).1).1) with ⟨h5, h6⟩ | ⟨h5, h6⟩
     ·rw [inside_after hw h5, h6, if_pos rfl]
     ·rw [inside_not hw h5, if_neg h6, if_neg (fun h => h6 h.1)]
    ·simp only [if_neg h4]
     rw [if_neg (fun h => h4 h.2.2.2), if_neg (fun h => h4 h.1)]
   ·simp only [if_neg h3]
    rw [if_neg (fun h => h3 h.2.2.1), if_neg (fun h => h3 h.1)]
  ·simp only [if_neg h2]
   rw [if_neg (fun h => h2 h.2.1), if_neg (fun h => h2 h.1)]
 ·simp only [if_neg h1]
  rw [if_neg (fun h => h1 h.1), if_neg (fun h => h1 h.1)]
theorem back_size (s : ByteArray) (n : Int) : (backF s n).1.size ≤ 4000 := by
 unfold backF
 split
 ·rename_i hr
  split
  ·exact Nat.zero_le _
  ·rcases hashes_codes n.toNat s hr with ⟨_, h⟩ | h
   ·exact right_size h
   ·rw [h]; exact Nat.zero_le _
 ·exact Nat.zero_le _
set_option maxRecDepth 100000 in
set_option maxHeartbeats 4000000 in
theorem open_bl_call {b : Bl} {vs : List ByteArray} {st pa : ByteArray} {e0 : Int} (A : Option Addr) (cap : Nat) (hbs : b.s.size ≤ 1000000) (hbg : b.g.size ≤ 1000000) (hst : st.size ≤ 1000000) (hvs : ∀ v ∈ vs, v.size ≤ 1000000) (hl : vs.length ≤ 1000000) (hcap : vs.length ≤ cap) (w : World) (hC : Kd.C Kd.string w A vs.length vs) :
  Calls Tryz.prog 17 #[.agg #[.int .i64 b.e, .string b.s, .string b.g], .slice A vs.length cap, .string st, .int .i64 e0, .string pa] w fun e w' => e = .returned (.tuple #[.string (openBl b vs st e0 pa).1, .int .i64 (openBl b vs st e0 pa).2]) ∧ Below w.heap.size w w' := by
 obtain ⟨R, hR⟩ : ∃ R, openBl b vs st e0 pa = R := ⟨_, rfl⟩
 have HV : Hid (R = openBl b vs st e0 pa) := Lib.hid hR.symm
 rw [hR]
 clear hR
 have HRT := Lib.hid (rightBl_call b hbs hbg)
 have HEP := Lib.hid (epochs_call e0)
 have HK1 := Lib.hid (fun W => kind_call (s := st) hst W)
 have HCC := Lib.hid hC
 have HVS := Lib.hid hvs
 have hmf : ∀ (fn : Fn) (first cap : Array Value) (w : World), (Instr.makeFunc fn first cap).run Tryz.prog w = .ok (.func fn first cap) w := fun _ _ _ _ => rfl
 clear hC hvs
 go_enter Tryz.func17, Tryz.ntmps17
 go_wp2_with fail
 refine (HRT.out _).mono ?_
 rintro e w1 ⟨rfl, hb⟩
 have HX : Hid (w1.heap[w.heap.size]? = some (.cells #[.int .i64 b.e, .string b.s, .string b.g] 23 (0, 0))) := Lib.hid (blk_below (blk_alloc (blk_alloc (blk_alloc (blk_alloc (blk_at _ _ _ (by simp)) _) _) _) _) hb)
 have HV1 : Hid (w1.heap[w.heap.size + 1]? = some (.cells #[.slice A vs.length cap] 24 (0, 0))) := Lib.hid (blk_below (blk_alloc (blk_alloc (blk_alloc (blk_at _ _ _ (by simp)) _) _) _) hb)
 have HS : Hid (w1.heap[w.heap.size + 2]? = some (.cells #[.string st] 9 (0, 0))) := Lib.hid (blk_below (blk_alloc (blk_alloc (blk_at _ _ _ (by simp)) _) _) hb)
 have HE : Hid (w1.heap[w.heap.size + 3]? = some (.cells #[.int .i64 e0] 3 (0, 0))) := Lib.hid (blk_below (blk_alloc (blk_at _ _ _ (by simp)) _) hb)
 have HP : Hid (w1.heap[w.heap.size + 4]? = some (.cells #[.string pa] 9 (0, 0))) := Lib.hid (blk_below (blk_at _ _ _ (by simp)) hb)
 have HB : Hid (Below w.heap.size w w1) := Lib.hid (below_step (w := w) (by repeat' (first | exact Below.refl _ _ | apply below_alloc)) hb)
 clear hb HRT
 by_cases q0 : rightBl b = true
 rotate_left
 ·have q0' : rightBl b = false := by simpa using q0
  rw [q0']
  obtain rfl : R = (⟨#[]⟩, 1) := by rw [HV.out]; unfold openBl openOk; rw [q0', Bool.false_and]; rfl
  go_wp2
  go_ret2
  exact ⟨rfl, HB.out⟩
 rw [q0]
 have cS := cell_of_blk (j := 0) (v := .string st) HS.out rfl
 go_wp2_with fail
 refine (HK1.out _).mono ?_
 rintro e w2 ⟨rfl, hb⟩
 clear cS HK1
 replace HX := Lib.hid (blk_below HX.out hb)
 replace HV1 := Lib.hid (blk_below HV1.out hb)
 replace HS := Lib.hid (blk_below HS.out hb)
 replace HE := Lib.hid (blk_below HE.out hb)
 replace HP := Lib.hid (blk_below HP.out hb)
 replace HB := Lib.hid (below_step HB.out hb)
 clear hb
 by_cases q1 : kindF st = 0
 ·have t1 : (kindF st == 0) = true := by rw [q1]; rfl
  obtain rfl : R = (⟨#[]⟩, 1) := by rw [HV.out]; unfold openBl openOk; rw [(kindF_zero st).1 q1]; simp
  go_wp2
  go_ret2
  exact ⟨rfl, HB.out⟩
 have t1 : (kindF st == 0) = false := by rw [beq_eq_false_iff_ne]; exact q1
 have r1 : right st = true := by cases h : right st with | true => rfl | false => exact absurd ((kindF_zero st).2 h) q1
 have cE := cell_of_blk (j := 0) (v := .int .i64 e0) HE.out rfl
 go_wp2_with fail
 refine (HEP.out _).mono ?_
 rintro e w3 ⟨rfl, hb⟩
 clear cE HEP
 replace HX := Lib.hid (blk_below HX.out hb)
 replace HV1 := Lib.hid (blk_below HV1.out hb)
 replace HS := Lib.hid (blk_below HS.out hb)
 replace HE := Lib.hid (blk_below HE.out hb)
 replace HP := Lib.hid (blk_below HP.out hb)
 replace HB := Lib.hid (below_step HB.out hb)
 clear hb
 by_cases qE : epochB e0 = true
 rotate_left
 ·have qE' : epochB e0 = false := by simpa using qE
  rw [qE']
  obtain rfl : R = (⟨#[]⟩, 1) := by rw [HV.out]; unfold openBl openOk; rw [qE']; simp
  go_wp2
  go_ret2
  exact ⟨rfl, HB.out⟩
 rw [qE]
 obtain ⟨en, rfl, hen⟩ := epoch_nat qE
 have cE := cell_of_blk (j := 0) (v := .int .i64 (en : Int)) HE.out rfl
 have cV := cell_of_blk (j := 0) (v := .slice A vs.length cap) HV1.out rfl
 have cX0 := cell_of_blk (j := 0) (v := .int .i64 b.e) HX.out rfl
 have w1 : wrap64 ((en : Int) + 1) = ((en + 1 : Nat) : Int) := by rw [w64 (by omega) (by omega)]; omega
 by_cases q2 : vs.length = en + 1
 rotate_left
 ·have t2 : ((vs.length : Int) != ((en + 1 : Nat) : Int)) = true := by rw [bne_iff_ne]; omega
  obtain rfl : R = (⟨#[]⟩, 1) := by rw [HV.out]; unfold openBl openOk; rw [decide_eq_false (show ¬ ((vs.length : Int) = (en : Int) + 1) by omega)]; rw [Bool.and_false, Bool.and_false, Bool.and_false]; rfl
  go_wp2
  go_ret2
  exact ⟨rfl, HB.out⟩
 have t2 : ((vs.length : Int) != ((en + 1 : Nat) : Int)) = false := by rw [q2]; simp
 have hok : openOk b vs st (en : Int) = true := by
  unfold openOk
  rw [q0, r1, qE, decide_eq_true (show (vs.length : Int) = (en : Int) + 1 by omega)]; rfl
 have hv := HV.out
 unfold openBl at hv
 rw [if_pos hok] at hv
 clear HV
 have HV := Lib.hid hv
 clear hv
 obtain ⟨hb1, hb2, hb3⟩ := rightBl_inv q0
 obtain ⟨be, bs, bg⟩ := b
 simp only at hb1 hb2 hb3 HV cX0 HX hbs hbg
 obtain ⟨k, rfl⟩ := Int.eq_ofNat_of_zero_le hb1.1
 have hk : k ≤ 7 := by omega
 by_cases q3 : k ≤ en
 rotate_left
 ·have t3 : decide ((en : Int) < (k : Int)) = true := decide_eq_true (by omega)
  obtain rfl : R = (⟨#[]⟩, 7) := by rw [HV.out]; rw [if_pos (by omega)]
  go_wp2
  go_ret2
  exact ⟨rfl, HB.out⟩
 have t3 : decide ((en : Int) < (k : Int)) = false := decide_eq_false (by omega)
 have hv := HV.out
 rw [if_neg (by omega)] at hv
 clear HV
 obtain ⟨sa, sb, hsw, rfl⟩ := kind_sealed hb2
 simp only [Int.toNat_natCast] at hv
 rw [opened_steps hsw] at hv
 have HV := Lib.hid hv
 clear hv
 obtain ⟨S, hS⟩ : ∃ S, stepsF (k : Int) (tm (.two .s sa sb)) bg (vs.getD k ⟨#[]⟩) st ((en : Int) - (k : Int)) pa (sb.parts.map tm) = S := ⟨_, rfl⟩
 have hv := HV.out
 rw [hS] at hv
 replace hv : R = if S.2 = 0 ∧ S.1.size ≤ 64 ∧ sb.code.toNat = 112 then (S.1, 0) else (⟨#[]⟩, 7) := by
  rw [hv]
  by_cases h : S.2 = 0 ∧ S.1.size ≤ 64 ∧ sb.code.toNat = 112
  ·rw [if_pos h, if_pos h]
  ·rw [if_neg h, if_neg h]
 clear HV
 have HV := Lib.hid hv
 clear hv
 obtain ⟨ad, hA, hcell⟩ := readsC HCC.out (k := k) (by omega)
 subst hA
 have hgd : vs.getD k ⟨#[]⟩ = vs[k] := by rw [List.getD_eq_getElem?_getD, List.getElem?_eq_getElem (by omega)]; rfl
 rw [hgd] at hS
 have HST := Lib.hid hS
 have hvk := HVS.out vs[k] (List.getElem_mem (by omega))
 generalize vs[k] = v at hcell hvk HST
 clear hS hgd HVS HCC q1 t1 qE hok q0 hb1 hb2 hb3
 have HPA := Lib.hid (sealedPair_call hsw)
 have HX2 : Hid (∀ C : Nat, C = w3.heap.size → ∀ Wc : World, Wc = w3.alloc (.cells #[.string ⟨#[]⟩] 9) →
   Calls Tryz.prog 47 #[.func (Fn.func 64) #[] #[.pointer (some ⟨w.heap.size + 1, 0, none⟩), .pointer (some ⟨w.heap.size, 0, none⟩), .pointer (some ⟨w.heap.size + 2, 0, none⟩), .pointer (some ⟨w.heap.size + 3, 0, none⟩), .pointer (some ⟨w.heap.size + 4, 0, none⟩), .pointer (some ⟨C, 0, none⟩)]] Wc fun e w' =>
    e = .returned (.int .i64 S.2) ∧ ((S.2 = 0 → w'.heap[C]? = some (.cells #[.string S.1] 9 (0, 0))) ∧ w'.heap[w.heap.size]? = some (.cells #[.int .i64 (k : Int), .string (tm (.two .s sa sb)), .string bg] 23 (0, 0)) ∧ Below w.heap.size w w')) := by
  refine Lib.hid ?_
  rintro C rfl Wc rfl
  have lt := HB.out.size
  have ltP : w.heap.size + 4 < w3.heap.size := by have h := HP.out; rw [Array.getElem?_eq_some_iff] at h; exact h.1
  have hbs4 : (backF st ((en : Int) - (k : Int))).1.size ≤ 1000000 := by have := back_size st ((en : Int) - (k : Int)); omega
  have hks := key_size (backF st ((en : Int) - (k : Int))).1
  have hms := pair_size (atomB k) (tm (.two .s sa sb))
  have hun : (unsealF (keyF (backF st ((en : Int) - (k : Int))).1).1 (tm (.two .s sa sb))).2 = 0 → unsealF (keyF (backF st ((en : Int) - (k : Int))).1).1 (tm (.two .s sa sb)) = (tm sb, 0) := fun h => by
   rcases unseal_val hsw (k := (keyF (backF st ((en : Int) - (k : Int))).1).1) with h1 | h1
   ·exact h1.2
   ·exact absurd h h1.2
  refine caught_open _ _ S.2 _ (fun a b ha hm => ⟨fun h => keep hm (ha.1 h) (by simp), keep hm ha.2.1 (by simp; omega), ?_⟩) ?_
  ·exact Moved.below ha.2.2 hm ha.2.2.size (fun j hj => by subst hj; simp; omega)
  ·refine (open1_walk (V := w.heap.size + 1) (B := w.heap.size) (St := w.heap.size + 2) (Ep := w.heap.size + 3) (P := w.heap.size + 4) (C := w3.heap.size) (n := vs.length) (cap := cap) (k := k) (ad := ad) (bs := tm (.two .s sa sb)) (bg := bg) (st := st) (pa := pa) (v := v) (en := (en : Int)) (vc := verifyF v (signedF k (tm (.two .s sa sb))).1 bg)
    (Bk := backF st ((en : Int) - (k : Int))) (Ky := keyF (backF st ((en : Int) - (k : Int))).1) (Op := unsealF (keyF (backF st ((en : Int) - (k : Int))).1).1 (tm (.two .s sa sb))) (M := signedF k (tm (.two .s sa sb))) (l := sb.parts.map tm) (R := S) _
    (blk_alloc (blk_alloc HV1.out _) _) (blk_alloc (blk_alloc HX.out _) _) (blk_alloc (blk_alloc HS.out _) _) (blk_alloc (blk_alloc HE.out _) _) (blk_alloc (blk_alloc HP.out _) _) (blk_alloc (blk_new _ _) _)
    (pw_cell_below (below_alloc (below_alloc HB.out _) _) hcell) (by omega) hk hcap
    (by omega) (by omega) (by omega) (by omega) (by omega) (by have := World.block_lt_of_cell? w _ hcell; omega)
    (fun W h => signed_ok hk hbs W h) (fun W h => signed_err hk hbs W h)
    (fun W => verify_call v _ bg hvk (by unfold signedF; rw [Int.toNat_natCast]; omega) hbg W)
    (by rw [w64 (by omega) (by omega)]; exact back_call hst _ (by omega)) (key_call hbs4) (fun W => open_call _ _ (by omega) hbs W)
    (fun h W => ?_) ?_ ?_ (by rw [← HST.out]; rfl)).mono ?_
   ·rw [hun h]
    refine term_Parts.calls _ _ _ W ?_
    unfold term_Parts.f partsF
    rw [if_pos (by have := right_size (right_tm (wf_right hsw)); show (tm sb).size ≤ _; omega), term_tm (wf_right hsw)]
    rfl
   ·cases sb <;> simp [T.parts]
   ·intro x hx
    obtain ⟨t, ht, rfl⟩ := List.mem_map.1 hx
    exact right_size (right_tm (parts_wf (wf_right hsw) ht))
   ·rintro e w' ⟨h1, h2, h3⟩
    refine ⟨h1, ?_, h2, ?_, ?_⟩
    ·exact keep h3 (blk_at _ _ _ (by simp)) (by simp)
    ·exact keep h3 (blk_alloc (blk_alloc HX.out _) _) (by omega)
    ·exact Moved.below (below_alloc (below_alloc HB.out _) _) h3 (by simp; omega) (fun j hj => by subst hj; omega)
 clear HST hvk
 go_wp2_with fail
 refine (HX2.out _ rfl _ rfl).mono ?_
 rintro e w5 ⟨rfl, hC5, hX5, hb5⟩
 have HB5 := Lib.hid hb5
 have HX5 := Lib.hid hX5
 clear HX2 hb5 hX5 HV1 HS HP HE HX HB cE cV cX0 hcell
 by_cases q5 : S.2 = 0
 rotate_left
 ·have t5 : (S.2 != 0) = true := by rw [bne_iff_ne]; exact q5
  obtain rfl : R = (⟨#[]⟩, 7) := by rw [HV.out, if_neg (fun h => q5 h.1)]
  clear hC5
  go_wp2
  go_ret2
  exact ⟨rfl, HB5.out⟩
 have t5 : (S.2 != 0) = false := by rw [q5]; rfl
 have HC5 := Lib.hid (hC5 q5)
 clear hC5
 have cC := cell_of_blk (j := 0) (v := .string S.1) HC5.out rfl
 by_cases q6 : S.1.size ≤ 64
 rotate_left
 ·have t6 : decide (64 < (S.1.size : Int)) = true := decide_eq_true (by omega)
  obtain rfl : R = (⟨#[]⟩, 7) := by rw [HV.out, if_neg (fun h => q6 h.2.1)]
  go_wp2
  go_ret2
  exact ⟨rfl, HB5.out⟩
 have t6 : decide (64 < (S.1.size : Int)) = false := decide_eq_false (by omega)
 have cX := cell_of_blk (j := 1) (v := .string (tm (.two .s sa sb))) HX5.out rfl
 go_wp2_with fail
 refine (HPA.out _).mono ?_
 rintro e w6 ⟨rfl, hb⟩
 replace HC5 := Lib.hid (blk_below HC5.out hb)
 replace HB5 := Lib.hid (below_step HB5.out hb)
 clear hb cC cX HPA HX5
 by_cases q7 : sb.code.toNat = 112
 rotate_left
 ·rw [decide_eq_false q7]
  obtain rfl : R = (⟨#[]⟩, 7) := by rw [HV.out, if_neg (fun h => q7 h.2.2)]
  go_wp2
  go_ret2
  exact ⟨rfl, HB5.out⟩
 rw [decide_eq_true q7]
 have cC := cell_of_blk (j := 0) (v := .string S.1) HC5.out rfl
 obtain rfl : R = (S.1, 0) := by rw [HV.out, if_pos ⟨q5, q6, q7⟩]
 go_wp2
 go_ret2
 exact ⟨rfl, HB5.out⟩
end Go.Proofs.YtphehoidkmficaaGreatDoor
end
section

namespace Go.Proofs.YtphehoidkmficaaGreatDoor
open Go.RowKit Go.Proofs.YtphehoidkmficaaGreatDoorW.PrintWords Go.Proofs.YtphehoidkmficaaGreatDoorW.PrintLast Go.Proofs.YtphehoidkmficaaGreatDoorW.PrintMore Go.Proofs.YtphehoidkmficaaGreatDoor.Ref Go.Proofs.YtphehoidkmficaaGreatDoor.PA Go.Proofs.YtphehoidkmficaaGreatDoor.PB
set_option linter.unusedVariables false
set_option linter.unusedSimpArgs false
attribute [local go_sem] max2_int min2_int max_two min_two
theorem row_of_blk {w : World} {g : Nat} {l : List ByteArray} {t : TypeId} (hl : l.length ≤ 1000000) (h : w.heap[g]? = some (.cells (l.map Value.string).toArray t (0, 0))) : Kd.C Kd.string w (some ⟨g, 0, none⟩) l.length l := by
 refine ⟨rfl, by omega, fun _ => ⟨_, rfl, fun j p hj => ⟨[.string p], rfl, rfl, fun i u hi => ?_⟩⟩⟩
 have hi0 : i = 0 ∧ u = .string p := by
  cases i with
  | zero => simpa using hi.symm
  | succ i => simp at hi
 obtain ⟨rfl, rfl⟩ := hi0
 have e : Addr.add ⟨g, 0, none⟩ (j * Kd.string.sz + 0) = ⟨g, j, none⟩ := by simp [Addr.add, Kd.string, Kd.scalar]; exact fun h => h.symm
 rw [e]
 exact cell_of_blk h (by simp [hj])
theorem num_call {n : Nat} (h : n < 18446744073709551616) (W : World) : Calls Tryz.prog 37 #[.int .u64 n] W fun e w' => e = .returned (.string (numB n)) ∧ Below W.heap.size W w' := by
 obtain ⟨k, hk⟩ := ev_some (wirePut_ev n h)
 exact wire_Put.calls k n _ W hk
theorem all_val {l : List ByteArray} (hl : l.length ≤ 1000) (hs : ∀ s ∈ l, s.size ≤ 100000000000) : ∃ k, wire_PutAll.f k l = some (allB l) := ev_some (putAll_ev l hl hs)
theorem takeNum_call (s : ByteArray) (hs : s.size ≤ 1000000) (W : World) : Calls Tryz.prog 41 #[.string s] W fun e w' => e = .returned (.tuple #[.int .u64 (takeF s).1, .string (takeF s).2.1, .int .i64 (takeF s).2.2]) ∧ Below W.heap.size W w' :=
 wire_Take.calls s _ _ _ W (by unfold wire_Take.f; rw [if_pos (by omega)])
theorem takeAll_call (s : ByteArray) (hs : s.size ≤ 1000000) (W : World) : Calls Tryz.prog 40 #[.string s, .int .i64 3, .int .i64 4000] W fun e w' => ∃ v0 : Value, e = .returned (.tuple #[v0, .int .i64 (takeAllF 3 4000 s).2]) ∧ Kd.R Kd.string 9 w' W.heap.size (fun _ => True) v0 (takeAllF 3 4000 s).1 ∧ Below W.heap.size W w' := by
 obtain ⟨k, hk⟩ := ev_some (takeAll_ev 3 4000 s (by omega) (by omega) hs)
 exact wire_TakeAll.calls k s 3 4000 _ _ W hk
def dp3.T3 : Bool × List (List Nat × List Nat) := (true, [([], []), ([0], [0]), ([1], [1]), ([2], [2]), ([], []), ([4], [4]), ([], []), ([6], [6]), ([3, 5, 7], [3, 5, 7]), ([8, 3], [8]), ([9, 9, 0, 1, 2, 3, 4, 5, 6, 7, 8, 9], [9]), ([10, 0, 1, 2, 3, 4, 5, 6, 7, 8, 9, 10], [])])
def dp3.B3 : List Nat := [0, 1, 3, 7, 0, 16, 0, 64, 255, 511, 1023, 2047]
theorem dp3.tab3 : rtab .any (opsOf Tryz.f11 3) = dp3.T3 := by kernel_rfl
theorem dp3.bits3 : waitsOk dp3.T3.2 dp3.B3 = true := by kernel_rfl
def dt5.T5 : Bool × List (List Nat × List Nat) := (true, [([], []), ([0], [0]), ([1], [1]), ([], []), ([3], [3]), ([4], [4]), ([], []), ([6], [6]), ([7], [7]), ([2, 5, 8], [2, 5, 8]), ([], []), ([10, 9, 0, 1, 2, 3, 4, 5, 6, 7, 8, 9, 10], [9, 10])])
def dt5.B5 : List Nat := [0, 1, 3, 0, 8, 24, 0, 64, 192, 511, 0, 2047]
theorem dt5.tab5 : rtab .any (opsOf Tryz.f13 5) = dt5.T5 := by kernel_rfl
theorem dt5.bits5 : waitsOk dt5.T5.2 dt5.B5 = true := by kernel_rfl
set_option maxRecDepth 100000 in
set_option maxHeartbeats 2000000 in
theorem putBl_call (b : Bl) (hs : b.s.size ≤ 1000000) (hg : b.g.size ≤ 1000000) (w : World) :
  Calls Tryz.prog 11 #[.agg #[.int .i64 b.e, .string b.s, .string b.g]] w fun e w' => e = .returned (.tuple #[.string (putBl b).1, .int .i64 (putBl b).2]) ∧ Below w.heap.size w w' := by
 have HRT := Lib.hid (rightBl_call b hs hg)
 obtain ⟨R, hR⟩ : ∃ R, putBl b = R := ⟨_, rfl⟩
 have HV : Hid (R = putBl b) := Lib.hid hR.symm
 rw [hR]
 clear hR
 go_enter Tryz.func11, Tryz.ntmps11
 go_wp2_with fail
 refine (HRT.out _).mono ?_
 rintro e w1 ⟨rfl, hb⟩
 have HN : Hid (w1.heap[w.heap.size]? = some (.cells #[.int .i64 b.e, .string b.s, .string b.g] 23 (0, 0))) := Lib.hid (blk_below (blk_new _ _) hb)
 have HB : Hid (Below w.heap.size w w1) := Lib.hid (below_step (w := w) (by repeat' (first | exact Below.refl _ _ | apply below_alloc)) hb)
 clear hb HRT
 by_cases q0 : rightBl b = true
 rotate_left
 ·have q0' : rightBl b = false := by simpa using q0
  rw [q0']
  obtain rfl : R = (⟨#[]⟩, 1) := by rw [HV.out]; unfold putBl; rw [if_neg q0]
  go_wp2
  go_ret2
  exact ⟨rfl, HB.out⟩
 rw [q0]
 obtain ⟨hb1, hb2, hb3⟩ := rightBl_inv q0
 obtain ⟨be, s, g⟩ := b
 simp only at hb1 hb2 hb3 hs hg HN
 obtain ⟨k, rfl⟩ := Int.eq_ofNat_of_zero_le hb1.1
 have hk := u64_small (k := k) (by omega)
 have HPU := Lib.hid (num_call (n := k) (by omega))
 obtain ⟨kk, hq⟩ := all_val (l := [numB k, s, g]) (by simp) (by
  have := size_numB (n := k) (by omega)
  intro x hx
  simp at hx
  rcases hx with rfl | rfl | rfl <;> omega)
 have HPA : Hid (∀ W : World, Calls Tryz.prog 36 #[.slice (some ⟨W.heap.size, 0, none⟩) 3 3] (W.alloc (.cells #[.string (numB k), .string s, .string g] 9)) fun e w' => e = .returned (.string (allB [numB k, s, g])) ∧ Below (W.alloc (.cells #[.string (numB k), .string s, .string g] 9)).heap.size (W.alloc (.cells #[.string (numB k), .string s, .string g] 9)) w') :=
  Lib.hid (fun W => wire_PutAll.calls kk (some ⟨W.heap.size, 0, none⟩) 3 [numB k, s, g] _ _ (row_of_blk (by simp) (blk_new _ _)) (by simp) hq)
 obtain rfl : R = (allB [numB k, s, g], 0) := by rw [HV.out]; unfold putBl; rw [if_pos q0]; rfl
 clear hq hb1 hb2 hb3 q0 HV
 go_wp2_with fail
 have hb : Below w1.heap.size w1 w1.drew := below_drew (Below.refl _ _)
 replace HN := Lib.hid (blk_below HN.out hb)
 replace HB := Lib.hid (below_step HB.out hb)
 clear hb
 refine start_ (n := 12) (S := fun w' => w'.cell? ⟨w.heap.size, 0, none⟩ = some (.int .i64 (k : Int)) ∧ w'.cell? ⟨w.heap.size, 1, none⟩ = some (.string s) ∧ w'.cell? ⟨w.heap.size, 2, none⟩ = some (.string g)) (ds := []) #[false, false, false, false, false, false, false, false, false, false, false, false] (by kernel_rfl) rfl rfl ⟨(cell_of_blk HN.out rfl), (cell_of_blk HN.out rfl), (cell_of_blk HN.out rfl)⟩ (fun hHeld => ?_)
 refine with_tabW dp3.tab3 dp3.bits3 (fun HT_ HW_ => ?_)
 refine pure_ (i := 0) (N := some 7) (v := ?_) (a' := ?_) #[true, false, false, false, false, false, false, false, false, false, false, false] rfl rfl (any_of HT_.out (by kernel_rfl)) (fun _ _ _ h => h) (Or.inl ⟨by rfl, ?_⟩) ?_ ?_
 rotate_left
 ·intro w'
  go_simp
  with_reducible rfl
 rotate_left
 ·simp only [Act.put, List.setIfInBounds_toArray, List.set_cons_zero, List.set_cons_succ, i64_w, i32_w]
  rfl
 refine pure_ (i := 4) (N := some 11) (v := ?_) (a' := ?_) #[true, false, false, false, true, false, false, false, false, false, false, false] rfl rfl (any_of HT_.out (by kernel_rfl)) (fun _ _ _ h => h) (Or.inl ⟨by rfl, ?_⟩) ?_ ?_
 rotate_left
 ·intro w'
  go_simp
  with_reducible rfl
 rotate_left
 ·simp only [Act.put, List.setIfInBounds_toArray, List.set_cons_zero, List.set_cons_succ, i64_w, i32_w]
  rfl
 refine pure_ (i := 6) (N := some 13) (v := ?_) (a' := ?_) #[true, false, false, false, true, false, true, false, false, false, false, false] rfl rfl (any_of HT_.out (by kernel_rfl)) (fun _ _ _ h => h) (Or.inl ⟨by rfl, ?_⟩) ?_ ?_
 rotate_left
 ·intro w'
  go_simp
  with_reducible rfl
 rotate_left
 ·simp only [Act.put, List.setIfInBounds_toArray, List.set_cons_zero, List.set_cons_succ, i64_w, i32_w]
  rfl
 refine take_ (i := 1) (N := some 8) (v := ?_) (a' := ?_) #[true, true, false, false, true, false, true, false, false, false, false, false] rfl rfl (take_ofW HT_.out HW_.out (by kernel_rfl)) (fun _ _ _ h => h) (Or.inl ⟨by rfl, ?_⟩) hHeld ?_ ?_
 rotate_left
 ·rintro w' ⟨s0, s1, s2⟩
  go_simp
  with_reducible rfl
 rotate_left
 ·simp only [Act.put, List.setIfInBounds_toArray, List.set_cons_zero, List.set_cons_succ, i64_w, i32_w]
  rfl
 refine pure_ (i := 2) (N := some 9) (v := ?_) (a' := ?_) #[true, true, true, false, true, false, true, false, false, false, false, false] rfl rfl (any_of HT_.out (by kernel_rfl)) (fun _ _ _ h => h) (Or.inl ⟨by rfl, ?_⟩) ?_ ?_
 rotate_left
 ·intro w'
  go_simp
  with_reducible rfl
 rotate_left
 ·simp only [Act.put, List.setIfInBounds_toArray, List.set_cons_zero, List.set_cons_succ, i64_w, i32_w]
  rfl
 refine take_ (i := 5) (N := some 12) (v := ?_) (a' := ?_) #[true, true, true, false, true, true, true, false, false, false, false, false] rfl rfl (take_ofW HT_.out HW_.out (by kernel_rfl)) (fun _ _ _ h => h) (Or.inl ⟨by rfl, ?_⟩) hHeld ?_ ?_
 rotate_left
 ·rintro w' ⟨s0, s1, s2⟩
  go_simp
  with_reducible rfl
 rotate_left
 ·simp only [Act.put, List.setIfInBounds_toArray, List.set_cons_zero, List.set_cons_succ, i64_w, i32_w]
  rfl
 refine take_ (i := 7) (N := some 14) (v := ?_) (a' := ?_) #[true, true, true, false, true, true, true, true, false, false, false, false] rfl rfl (take_ofW HT_.out HW_.out (by kernel_rfl)) (fun _ _ _ h => h) (Or.inl ⟨by rfl, ?_⟩) hHeld ?_ ?_
 rotate_left
 ·rintro w' ⟨s0, s1, s2⟩
  go_simp
  with_reducible rfl
 rotate_left
 ·simp only [Act.put, List.setIfInBounds_toArray, List.set_cons_zero, List.set_cons_succ, i64_w, i32_w]
  rfl
 refine one_ (i := 3) (N := some 10) #[true, true, true, true, true, true, true, true, false, false, false, false] rfl rfl (one_of HT_.out (by kernel_rfl)) (by decide) (fun K hK => ?_)
 refine goes_ Tryz.func37 (by kernel_rfl) rfl #[.int .u64 (k : Int)] (by rfl) rfl rfl (by simp only [List.map_toArray, List.map_cons, List.map_nil]; rfl) ?_
 with_reducible refine (HPU.out _).mono ?_
 rintro e w2 ⟨rfl, hb⟩
 refine ⟨_, rfl, ?_⟩
 replace HN := Lib.hid (blk_below HN.out hb)
 replace HB := Lib.hid (below_step HB.out hb)
 clear hb
 refine hK.out _ _ ⟨(cell_of_blk HN.out rfl), (cell_of_blk HN.out rfl), (cell_of_blk HN.out rfl)⟩ (fun hHeld => ?_)
 clear hK K
 refine norm_ (a' := ?_) ?_ ?_
 rotate_left
 ·show Act.put _ (some 10) _ = _
  simp only [Act.put, List.setIfInBounds_toArray, List.set_cons_zero, List.set_cons_succ, i64_w, i32_w]
  rfl
 refine one_ (i := 8) (N := some 15) #[true, true, true, true, true, true, true, true, true, false, false, false] rfl rfl (one_of HT_.out (by kernel_rfl)) (by decide) (fun K hK => ?_)
 refine value_ (w1 := ?_) (v := ?_) (by rfl) rfl ?_ ?_
 rotate_left 2
 ·go_simp
  constructor
  ·rfl
  ·rfl
 refine hK.out _ _ ⟨(cell_of_blk (blk_alloc HN.out _) rfl), (cell_of_blk (blk_alloc HN.out _) rfl), (cell_of_blk (blk_alloc HN.out _) rfl)⟩ (fun hHeld => ?_)
 clear hK K
 refine norm_ (a' := ?_) ?_ ?_
 rotate_left
 ·show Act.put _ (some 15) _ = _
  simp only [Act.put, List.setIfInBounds_toArray, List.set_cons_zero, List.set_cons_succ, i64_w, i32_w]
  rfl
 refine one_ (i := 9) (N := some 16) #[true, true, true, true, true, true, true, true, true, true, false, false] rfl rfl (one_of HT_.out (by kernel_rfl)) (by decide) (fun K hK => ?_)
 refine goes_ Tryz.func36 (by kernel_rfl) rfl #[.slice (some ⟨w2.heap.size, 0, none⟩) 3 3] (by rfl) rfl rfl (by simp only [List.map_toArray, List.map_cons, List.map_nil]; rfl) ?_
 with_reducible refine (HPA.out w2).mono ?_
 rintro e w3 ⟨rfl, hb⟩
 refine ⟨_, rfl, ?_⟩
 replace HN := Lib.hid (blk_below (blk_alloc HN.out _) hb)
 replace HB := Lib.hid (below_step (below_alloc HB.out _) hb)
 clear hb
 refine hK.out _ _ ⟨(cell_of_blk HN.out rfl), (cell_of_blk HN.out rfl), (cell_of_blk HN.out rfl)⟩ (fun hHeld => ?_)
 clear hK K
 refine norm_ (a' := ?_) ?_ ?_
 rotate_left
 ·show Act.put _ (some 16) _ = _
  simp only [Act.put, List.setIfInBounds_toArray, List.set_cons_zero, List.set_cons_succ, i64_w, i32_w]
  rfl
 refine pure_ (i := 10) (N := some 2) (v := ?_) (a' := ?_) #[true, true, true, true, true, true, true, true, true, true, true, false] rfl rfl (any_of HT_.out (by kernel_rfl)) (fun _ _ _ h => h) (Or.inl ⟨by rfl, ?_⟩) ?_ ?_
 rotate_left
 ·intro w'
  go_simp
  with_reducible rfl
 rotate_left
 ·simp only [Act.put, List.setIfInBounds_toArray, List.set_cons_zero, List.set_cons_succ, i64_w, i32_w]
  rfl
 refine pure_ (i := 11) (N := some 3) (v := ?_) (a' := ?_) #[true, true, true, true, true, true, true, true, true, true, true, true] rfl rfl (any_of HT_.out (by kernel_rfl)) (fun _ _ _ h => h) (Or.inl ⟨by rfl, ?_⟩) ?_ ?_
 rotate_left
 ·intro w'
  go_simp
  with_reducible rfl
 rotate_left
 ·simp only [Act.put, List.setIfInBounds_toArray, List.set_cons_zero, List.set_cons_succ, i64_w, i32_w]
  rfl
 refine done_ (done_of HT_.out (by kernel_rfl)) ?_
 clear HT_
 go_wp2
 go_ret2
 exact ⟨rfl, HB.out⟩
set_option maxRecDepth 100000 in
set_option maxHeartbeats 4000000 in
theorem takeBl_call (s : ByteArray) (hs : s.size ≤ 1000000) (w : World) :
  Calls Tryz.prog 13 #[.string s] w (BlPost w (takeBl s)) := by
 have HTA := Lib.hid (takeAll_call s hs)
 obtain ⟨R, hR⟩ : ∃ R, takeBl s = R := ⟨_, rfl⟩
 have HV : Hid (R = takeBl s) := Lib.hid hR.symm
 rw [hR]
 clear hR
 have HSZ : Hid ((takeAllF 3 4000 s).2 = 0 → ∀ x ∈ (takeAllF 3 4000 s).1, x.size ≤ 4000) := Lib.hid (fun h => (takeAll_inv (Prod.ext rfl h : takeAllF 3 4000 s = ((takeAllF 3 4000 s).1, 0))).2.2)
 unfold takeBl at HV
 generalize takeAllF 3 4000 s = X at *
 go_enter Tryz.func13, Tryz.ntmps13
 go_wp2_with fail
 refine (HTA.out _).mono ?_
 rintro e w1 ⟨v0, rfl, hl, hb⟩
 obtain ⟨LA, lc, rfl⟩ := Kd.R_slice hl
 have HR : Hid (w1.heap[w.heap.size]? = some (.cells #[.int .i64 0, .string ⟨#[]⟩, .string ⟨#[]⟩] 23 (0, 0))) := Lib.hid (blk_below (blk_new _ _) hb)
 have HB : Hid (Below w.heap.size w w1) := Lib.hid (below_step (w := w) (by repeat' (first | exact Below.refl _ _ | apply below_alloc)) hb)
 clear hb HTA
 have HL := Lib.hid hl
 clear hl
 by_cases q1 : X.2 = 0
 rotate_left
 ·have t1 : (X.2 != 0) = true := by rw [bne_iff_ne]; exact q1
  obtain rfl : R = (noBl, 2) := by rw [HV.out]; rw [if_neg (fun h => q1 h.1)]
  have cR0 := cell_of_blk (j := 0) (v := .int .i64 0) HR.out rfl
  have cR1 := cell_of_blk (j := 1) (v := .string ⟨#[]⟩) HR.out rfl
  have cR2 := cell_of_blk (j := 2) (v := .string ⟨#[]⟩) HR.out rfl
  have zR0 := free_of_blk (j := 0) HR.out
  have zR1 := free_of_blk (j := 1) HR.out
  have zR2 := free_of_blk (j := 2) HR.out
  obtain ⟨hblk, hbe⟩ := put3 HB.out HR.out (by omega) (.int .i64 0) (.string ⟨#[]⟩) (.string ⟨#[]⟩)
  go_wp2
  refine bodyPost_ret (results_ct rfl _ _ w.heap.size 23 _ (0, 0) _ rfl hblk Tryz.underlying23 rfl (by kernel_rfl)) rfl ?_
  exact ⟨rfl, hbe⟩
 have t1 : (X.2 != 0) = false := by rw [q1]; rfl
 by_cases q2 : X.1.length = 3
 rotate_left
 ·have t2 : ((X.1.length : Int) != 3) = true := by rw [bne_iff_ne]; omega
  obtain rfl : R = (noBl, 2) := by rw [HV.out]; rw [if_neg (fun h => q2 h.2)]
  have cR0 := cell_of_blk (j := 0) (v := .int .i64 0) HR.out rfl
  have cR1 := cell_of_blk (j := 1) (v := .string ⟨#[]⟩) HR.out rfl
  have cR2 := cell_of_blk (j := 2) (v := .string ⟨#[]⟩) HR.out rfl
  have zR0 := free_of_blk (j := 0) HR.out
  have zR1 := free_of_blk (j := 1) HR.out
  have zR2 := free_of_blk (j := 2) HR.out
  obtain ⟨hblk, hbe⟩ := put3 HB.out HR.out (by omega) (.int .i64 0) (.string ⟨#[]⟩) (.string ⟨#[]⟩)
  go_wp2
  refine bodyPost_ret (results_ct rfl _ _ w.heap.size 23 _ (0, 0) _ rfl hblk Tryz.underlying23 rfl (by kernel_rfl)) rfl ?_
  exact ⟨rfl, hbe⟩
 obtain ⟨x, y, z, hxyz⟩ := three_of q2
 have hsz := HSZ.out q1
 rw [hxyz] at HL hsz
 have hv := HV.out
 rw [if_pos ⟨q1, q2⟩, hxyz] at hv
 simp only [List.getD_cons_zero, List.getD_cons_succ] at hv
 clear HV HSZ
 have HV := Lib.hid hv
 rw [hxyz]
 clear q2 hv hxyz
 have hx4 := hsz x (by simp)
 have hy4 := hsz y (by simp)
 have hz4 := hsz z (by simp)
 have hc3 := (Kd.R_reads' HL.out).2.2
 obtain ⟨ga, rfl⟩ : ∃ ga, LA = some ⟨ga, 0, none⟩ := by
  obtain ⟨_, xs, ho, _⟩ := HL.out
  obtain ⟨g, c, e, _⟩ := ho.form (by simp)
  exact ⟨g, by simpa using (Value.slice.inj e).1⟩
 have hcap3 := (Kd.R_reads' HL.out).2.1
 have hx0 : w1.cell? ⟨ga, 0, none⟩ = some (.string x) := by
  obtain ⟨ad, e, h0⟩ := readsC hc3 (k := 0) (by simp)
  obtain rfl := Option.some.inj e
  simpa [Addr.add] using h0
 have hx1 : w1.cell? ⟨ga, 1, none⟩ = some (.string y) := by
  obtain ⟨ad, e, h0⟩ := readsC hc3 (k := 1) (by simp)
  obtain rfl := Option.some.inj e
  simpa [Addr.add] using h0
 have hx2 : w1.cell? ⟨ga, 2, none⟩ = some (.string z) := by
  obtain ⟨ad, e, h0⟩ := readsC hc3 (k := 2) (by simp)
  obtain rfl := Option.some.inj e
  simpa [Addr.add] using h0
 have HX1 := Lib.hid hx1
 have HX2 := Lib.hid hx2
 have HTN := Lib.hid (takeNum_call x (by omega))
 clear hc3 hx1 hx2 HL
 simp only [List.length_cons, List.length_nil] at hcap3 ⊢
 go_wp2_with fail
 refine (HTN.out _).mono ?_
 rintro e w2 ⟨rfl, hb⟩
 replace HX1 := Lib.hid (pw_cell_below hb HX1.out)
 replace HX2 := Lib.hid (pw_cell_below hb HX2.out)
 replace HR := Lib.hid (blk_below HR.out hb)
 replace HB := Lib.hid (below_step HB.out hb)
 clear hb
 clear hx0 HTN
 have hn0 := (takeF_size x).2
 generalize takeF x = n at *
 obtain ⟨m, hm⟩ : ∃ m : Int, (if (8 : Int) < n.1 then 8 else n.1) = m := ⟨_, rfl⟩
 have hm8 : 0 ≤ m ∧ m ≤ 8 ∧ (m ≤ 7 ↔ n.1 ≤ 7) ∧ (n.1 ≤ 7 → m = n.1) := by
  rw [← hm]
  split <;> omega
 have hmw : IntKind.i64.wrap m = m := by
  rw [i64_w]
  exact w64 (by omega) (by omega)
 have HRT := Lib.hid (rightBl_call ⟨m, y, z⟩ (by show y.size ≤ _; omega) (by show z.size ≤ _; omega))
 go_wp2_with fail
 have HB0 := Lib.hid HB.out
 have HR0 := Lib.hid HR.out
 have hb : Below w2.heap.size w2 w2.drew := below_drew (Below.refl _ _)
 replace HX1 := Lib.hid (pw_cell_below hb HX1.out)
 replace HX2 := Lib.hid (pw_cell_below hb HX2.out)
 replace HR := Lib.hid (blk_below HR.out hb)
 replace HB := Lib.hid (below_step HB.out hb)
 clear hb
 refine start_ (n := 12) (S := fun w' => w'.cell? ⟨ga, 1, none⟩ = some (.string y) ∧ w'.cell? ⟨ga, 2, none⟩ = some (.string z)) (ds := [11]) #[false, false, false, false, false, false, false, false, false, false, false, false] (by kernel_rfl) rfl rfl ⟨HX1.out, HX2.out⟩ (fun hHeld => ?_)
 refine with_tabW dt5.tab5 dt5.bits5 (fun HT_ HW_ => ?_)
 refine pure_ (i := 0) (N := some 30) (v := ?_) (a' := ?_) #[true, false, false, false, false, false, false, false, false, false, false, false] rfl rfl (any_of HT_.out (by kernel_rfl)) (fun _ _ _ h => h) (Or.inl ⟨by rfl, ?_⟩) ?_ ?_
 rotate_left
 ·intro w'
  go_simp
  with_reducible rfl
 rotate_left
 ·simp only [Act.put, List.setIfInBounds_toArray, List.set_cons_zero, List.set_cons_succ, i64_w, i32_w]
  rfl
 refine pure_ (i := 1) (N := some 31) (v := ?_) (a' := ?_) #[true, true, false, false, false, false, false, false, false, false, false, false] rfl rfl (any_of HT_.out (by kernel_rfl)) (fun _ _ _ h => h) (Or.inl ⟨by rfl, ?_⟩) ?_ ?_
 rotate_left
 ·intro w'
  go_simp
  with_reducible rfl
 rotate_left
 ·simp only [Act.put, List.setIfInBounds_toArray, List.set_cons_zero, List.set_cons_succ, i64_w, i32_w]
  rfl
 refine pure_ (i := 2) (N := some 32) (v := ?_) (a' := ?_) #[true, true, true, false, false, false, false, false, false, false, false, false] rfl rfl (any_of HT_.out (by kernel_rfl)) (fun _ _ _ h => h) (Or.inl ⟨by rfl, ?_⟩) ?_ ?_
 rotate_left
 ·intro w'
  go_simp
  with_reducible rfl
 rotate_left
 ·simp only [Act.put, List.setIfInBounds_toArray, List.set_cons_zero, List.set_cons_succ, i64_w, i32_w]
  rfl
 refine pure_ (i := 3) (N := some 33) (v := ?_) (a' := ?_) #[true, true, true, true, false, false, false, false, false, false, false, false] rfl rfl (any_of HT_.out (by kernel_rfl)) (fun _ _ _ h => h) (Or.inl ⟨by rfl, ?_⟩) ?_ ?_
 rotate_left
 ·intro w'
  go_simp
  with_reducible rfl
 rotate_left
 ·simp only [Act.put, List.setIfInBounds_toArray, List.set_cons_zero, List.set_cons_succ, i64_w, i32_w]
  rfl
 refine pure_ (i := 4) (N := some 34) (v := ?_) (a' := ?_) #[true, true, true, true, true, false, false, false, false, false, false, false] rfl rfl (any_of HT_.out (by kernel_rfl)) (fun _ _ _ h => h) (Or.inl ⟨by rfl, ?_⟩) ?_ ?_
 rotate_left
 ·intro w'
  go_simp
  with_reducible rfl
 rotate_left
 ·simp only [Act.put, List.setIfInBounds_toArray, List.set_cons_zero, List.set_cons_succ, i64_w, i32_w]
  rfl
 refine pure_ (i := 6) (N := some 36) (v := ?_) (a' := ?_) #[true, true, true, true, true, false, true, false, false, false, false, false] rfl rfl (any_of HT_.out (by kernel_rfl)) (fun _ _ _ h => h) (Or.inl ⟨by rfl, ?_⟩) ?_ ?_
 rotate_left
 ·intro w'
  go_simp
  with_reducible rfl
 rotate_left
 ·simp only [Act.put, List.setIfInBounds_toArray, List.set_cons_zero, List.set_cons_succ, i64_w, i32_w]
  rfl
 refine pure_ (i := 7) (N := some 37) (v := ?_) (a' := ?_) #[true, true, true, true, true, false, true, true, false, false, false, false] rfl rfl (any_of HT_.out (by kernel_rfl)) (fun _ _ _ h => h) (Or.inl ⟨by rfl, ?_⟩) ?_ ?_
 rotate_left
 ·intro w'
  go_simp
  with_reducible rfl
 rotate_left
 ·simp only [Act.put, List.setIfInBounds_toArray, List.set_cons_zero, List.set_cons_succ, i64_w, i32_w]
  rfl
 refine take_ (i := 5) (N := some 35) (v := ?_) (a' := ?_) #[true, true, true, true, true, true, true, true, false, false, false, false] rfl rfl (take_ofW HT_.out HW_.out (by kernel_rfl)) (fun _ _ _ h => h) (Or.inl ⟨by rfl, ?_⟩) hHeld ?_ ?_
 rotate_left
 ·rintro w' ⟨s0, s1⟩
  go_simp
  with_reducible rfl
 rotate_left
 ·simp only [Act.put, List.setIfInBounds_toArray, List.set_cons_zero, List.set_cons_succ, i64_w, i32_w]
  rfl
 refine take_ (i := 8) (N := some 38) (v := ?_) (a' := ?_) #[true, true, true, true, true, true, true, true, true, false, false, false] rfl rfl (take_ofW HT_.out HW_.out (by kernel_rfl)) (fun _ _ _ h => h) (Or.inl ⟨by rfl, ?_⟩) hHeld ?_ ?_
 rotate_left
 ·rintro w' ⟨s0, s1⟩
  go_simp
  with_reducible rfl
 rotate_left
 ·simp only [Act.put, List.setIfInBounds_toArray, List.set_cons_zero, List.set_cons_succ, i64_w, i32_w]
  rfl
 refine pure_ (i := 9) (N := some 39) (v := ?_) (a' := ?_) #[true, true, true, true, true, true, true, true, true, true, false, false] rfl rfl (any_of HT_.out (by kernel_rfl)) (fun _ _ _ h => h) (Or.inl ⟨by rfl, ?_⟩) ?_ ?_
 rotate_left
 ·intro w'
  go_simp
  with_reducible rfl
 rotate_left
 ·simp only [Act.put, List.setIfInBounds_toArray, List.set_cons_zero, List.set_cons_succ, i64_w, i32_w]
  rfl
 refine one_ (i := 10) (N := some 8) #[true, true, true, true, true, true, true, true, true, true, true, false] rfl rfl (one_of HT_.out (by kernel_rfl)) (by decide) (fun K hK => ?_)
 refine value_ (w1 := ?_) (v := ?_) (by rfl) rfl ?_ ?_
 rotate_left 2
 ·go_simp
  constructor
  ·rfl
  ·rfl
 have c0 := cell_of_blk (j := 0) (v := .int .i64 0) (blk_new w2.drew (.cells #[.int .i64 0, .string ⟨#[]⟩, .string ⟨#[]⟩] 23)) rfl
 have c1 := cell_of_blk (j := 1) (v := .string ⟨#[]⟩) (blk_new w2.drew (.cells #[.int .i64 0, .string ⟨#[]⟩, .string ⟨#[]⟩] 23)) rfl
 have c2 := cell_of_blk (j := 2) (v := .string ⟨#[]⟩) (blk_new w2.drew (.cells #[.int .i64 0, .string ⟨#[]⟩, .string ⟨#[]⟩] 23)) rfl
 refine hK.out _ _ ⟨(pw_cell_below (below_alloc (Below.refl _ _) _) HX1.out), (pw_cell_below (below_alloc (Below.refl _ _) _) HX2.out)⟩ (fun hHeld => ?_)
 clear hK K
 refine norm_ (a' := ?_) ?_ ?_
 rotate_left
 ·show Act.put _ (some 8) _ = _
  simp only [Act.put, List.setIfInBounds_toArray, List.set_cons_zero, List.set_cons_succ, i64_w, i32_w]
  rfl
 refine last_ (i := 11) (N := none) #[true, true, true, true, true, true, true, true, true, true, true, true] rfl rfl (one_of HT_.out (by kernel_rfl)) (by decide) (fun K hK => ?_)
 refine skip_ (w1 := ?_) (by rfl) rfl ?_ ?_
 rotate_left
 ·go_simp
  rfl
 refine hK.out _ _ ?_
 clear hK K
 refine done_ (done_of HT_.out (by kernel_rfl)) ?_
 clear HT_
 have hH : Below (w2.alloc (.cells #[.int .i64 m, .string y, .string z] 23)).heap.size (w2.alloc (.cells #[.int .i64 m, .string y, .string z] 23)) (w2.alloc (.cells #[.int .i64 m, .string y, .string z] 23)).drew := below_drew (Below.refl _ _)
 replace HR := Lib.hid (blk_below (blk_alloc HR0.out (.cells #[.int .i64 m, .string y, .string z] 23)) hH)
 replace HB : Hid (Below w.heap.size w (w2.alloc (.cells #[.int .i64 m, .string y, .string z] 23)).drew) := Lib.hid (below_drew (below_alloc HB0.out _))
 have HN := Lib.hid (blk_below (blk_new w2 (.cells #[.int .i64 m, .string y, .string z] 23)) hH)
 clear hH HX1 HX2 HB0 HR0 c0 c1 c2 hHeld
 generalize (w2.alloc (.cells #[.int .i64 m, .string y, .string z] 23)).drew = W3 at HR HB HN ⊢
 generalize w2.heap.size = NB at HN ⊢
 have hev : epochB m = epochB n.1 := by unfold epochB; exact decide_eq_decide.2 (by omega)
 have HRE : Hid (rightBl ⟨m, y, z⟩ = rightBl ⟨n.1, y, z⟩) := Lib.hid (by unfold rightBl; simp only [hev])
 clear hev
 by_cases q3 : n.2.2 = 0
 rotate_left
 ·have t3 : (n.2.2 != 0) = true := by rw [bne_iff_ne]; exact q3
  obtain rfl : R = (noBl, 2) := by rw [HV.out]; unfold takenF; rw [if_neg (fun h => q3 h.1)]
  have cR0 := cell_of_blk (j := 0) (v := .int .i64 0) HR.out rfl
  have cR1 := cell_of_blk (j := 1) (v := .string ⟨#[]⟩) HR.out rfl
  have cR2 := cell_of_blk (j := 2) (v := .string ⟨#[]⟩) HR.out rfl
  have zR0 := free_of_blk (j := 0) HR.out
  have zR1 := free_of_blk (j := 1) HR.out
  have zR2 := free_of_blk (j := 2) HR.out
  obtain ⟨hblk, hbe⟩ := put3 HB.out HR.out (by omega) (.int .i64 0) (.string ⟨#[]⟩) (.string ⟨#[]⟩)
  go_wp2
  refine bodyPost_ret (results_ct rfl _ _ w.heap.size 23 _ (0, 0) _ rfl hblk Tryz.underlying23 rfl (by kernel_rfl)) rfl ?_
  exact ⟨rfl, hbe⟩
 have t3 : (n.2.2 != 0) = false := by rw [q3]; rfl
 by_cases q4 : n.2.1 = ⟨#[]⟩
 rotate_left
 ·have t4 : (n.2.1.toList == []) = false := by
   rw [beq_eq_false_iff_ne]
   intro e
   exact q4 ((toL _ _).1 (by rw [e, bytes_toList]; rfl))
  obtain rfl : R = (noBl, 2) := by rw [HV.out]; unfold takenF; rw [if_neg (fun h => q4 h.2.1)]
  have cR0 := cell_of_blk (j := 0) (v := .int .i64 0) HR.out rfl
  have cR1 := cell_of_blk (j := 1) (v := .string ⟨#[]⟩) HR.out rfl
  have cR2 := cell_of_blk (j := 2) (v := .string ⟨#[]⟩) HR.out rfl
  have zR0 := free_of_blk (j := 0) HR.out
  have zR1 := free_of_blk (j := 1) HR.out
  have zR2 := free_of_blk (j := 2) HR.out
  obtain ⟨hblk, hbe⟩ := put3 HB.out HR.out (by omega) (.int .i64 0) (.string ⟨#[]⟩) (.string ⟨#[]⟩)
  go_wp2
  refine bodyPost_ret (results_ct rfl _ _ w.heap.size 23 _ (0, 0) _ rfl hblk Tryz.underlying23 rfl (by kernel_rfl)) rfl ?_
  exact ⟨rfl, hbe⟩
 have t4 : (n.2.1.toList == []) = true := by rw [q4, bytes_toList]; rfl
 have cN0 := cell_of_blk (j := 0) (v := .int .i64 m) HN.out rfl
 have cN1 := cell_of_blk (j := 1) (v := .string y) HN.out rfl
 have cN2 := cell_of_blk (j := 2) (v := .string z) HN.out rfl
 go_wp2_with fail
 refine (HRT.out _).mono ?_
 rintro e w4 ⟨rfl, hb⟩
 replace HN := Lib.hid (blk_below HN.out hb)
 replace HR := Lib.hid (blk_below HR.out hb)
 replace HB := Lib.hid (below_step HB.out hb)
 clear hb
 clear cN0 cN1 cN2 HRT
 by_cases q5 : rightBl ⟨m, y, z⟩ = true
 rotate_left
 ·have q5' : rightBl ⟨m, y, z⟩ = false := by simpa using q5
  rw [q5']
  obtain rfl : R = (noBl, 2) := by rw [HV.out]; unfold takenF; rw [if_neg (fun h => q5 (by rw [HRE.out]; exact h.2.2))]
  have cR0 := cell_of_blk (j := 0) (v := .int .i64 0) HR.out rfl
  have cR1 := cell_of_blk (j := 1) (v := .string ⟨#[]⟩) HR.out rfl
  have cR2 := cell_of_blk (j := 2) (v := .string ⟨#[]⟩) HR.out rfl
  have zR0 := free_of_blk (j := 0) HR.out
  have zR1 := free_of_blk (j := 1) HR.out
  have zR2 := free_of_blk (j := 2) HR.out
  obtain ⟨hblk, hbe⟩ := put3 HB.out HR.out (by omega) (.int .i64 0) (.string ⟨#[]⟩) (.string ⟨#[]⟩)
  go_wp2
  refine bodyPost_ret (results_ct rfl _ _ w.heap.size 23 _ (0, 0) _ rfl hblk Tryz.underlying23 rfl (by kernel_rfl)) rfl ?_
  exact ⟨rfl, hbe⟩
 rw [q5]
 have hmn : m = n.1 := by
  have h := (rightBl_inv q5).1
  simp only at h
  omega
 obtain rfl : R = (⟨m, y, z⟩, 0) := by rw [HV.out]; unfold takenF; rw [if_pos ⟨q3, q4, by rw [← HRE.out]; exact q5⟩, hmn]
 have cN0 := cell_of_blk (j := 0) (v := .int .i64 m) HN.out rfl
 have cN1 := cell_of_blk (j := 1) (v := .string y) HN.out rfl
 have cN2 := cell_of_blk (j := 2) (v := .string z) HN.out rfl
 have cR0 := cell_of_blk (j := 0) (v := .int .i64 0) HR.out rfl
 have cR1 := cell_of_blk (j := 1) (v := .string ⟨#[]⟩) HR.out rfl
 have cR2 := cell_of_blk (j := 2) (v := .string ⟨#[]⟩) HR.out rfl
 have zR0 := free_of_blk (j := 0) HR.out
 have zR1 := free_of_blk (j := 1) HR.out
 have zR2 := free_of_blk (j := 2) HR.out
 obtain ⟨hblk, hbe⟩ := put3 HB.out HR.out (by omega) (.int .i64 m) (.string y) (.string z)
 clear hmn hm hm8
 go_wp2
 refine bodyPost_ret (results_ct rfl _ _ w.heap.size 23 _ (0, 0) _ rfl hblk Tryz.underlying23 rfl (by kernel_rfl)) rfl ?_
 exact ⟨rfl, hbe⟩
end Go.Proofs.YtphehoidkmficaaGreatDoor
end
section

namespace Go.Proofs.YtphehoidkmficaaGreatDoor
open Go.RowKit Go.Proofs.YtphehoidkmficaaGreatDoorW.PrintWords Go.Proofs.YtphehoidkmficaaGreatDoorW.PrintLast Go.Proofs.YtphehoidkmficaaGreatDoor.Ref
set_option linter.unusedVariables false
set_option linter.unusedSimpArgs false
structure Ky where
 pa : ByteArray
 e : Int
 st : ByteArray
 sg : ByteArray
 vs : List ByteArray
def ropenF (k : Ky) (blob : ByteArray) : ByteArray × Int := if (takeBl blob).2 = 0 then openBl (takeBl blob).1 k.vs k.st k.e k.pa else (⟨#[]⟩, (takeBl blob).2)
def rsealF (k : Ky) (ct : ByteArray) : ByteArray × Int :=
 if k.sg = ⟨#[]⟩ then (⟨#[]⟩, 6) else if (buildF k.st k.e k.sg k.pa ct).2 = 0 then putBl (buildF k.st k.e k.sg k.pa ct).1 else (⟨#[]⟩, (buildF k.st k.e k.sg k.pa ct).2)
def behindF (k : Ky) (blob : ByteArray) : Bool := decide ((ropenF k blob).2 = 0) && decide ((takeBl blob).1.e < k.e)
theorem take_size (blob : ByteArray) : (takeBl blob).1.s.size ≤ 1000000 ∧ (takeBl blob).1.g.size ≤ 1000000 := by
 rcases take_bl_codes blob with h | h
 ·obtain ⟨_, h1, h2⟩ := rightBl_inv (take_bl_inv h).1
  have h3 := right_kind h1 (by decide)
  have h4 := right_kind h2 (by decide)
  omega
 ·rw [h]; exact ⟨by decide, by decide⟩
set_option maxRecDepth 100000 in
set_option maxHeartbeats 2000000 in
theorem ropen_call {k : Ky} (A : Option Addr) (c : Nat) (blob : ByteArray) (hz : blob.size ≤ 1000000) (hst : k.st.size ≤ 1000000) (hvs : ∀ v ∈ k.vs, v.size ≤ 1000000) (hl : k.vs.length ≤ 1000000) (hc : k.vs.length ≤ c) (w : World) (hC : Kd.C Kd.string w A k.vs.length k.vs) :
  Calls Tryz.prog 25 #[.agg #[.string k.pa, .int .i64 k.e, .string k.st, .string k.sg, .slice A k.vs.length c], .string blob] w fun e w' => e = .returned (.tuple #[.string (ropenF k blob).1, .int .i64 (ropenF k blob).2]) ∧ Below w.heap.size w w' := by
 obtain ⟨z1, z2⟩ := take_size blob
 have HTK := Lib.hid (takeBl_call blob hz)
 obtain ⟨R, hR⟩ : ∃ R, ropenF k blob = R := ⟨_, rfl⟩
 have HV := Lib.hid hR
 rw [hR]
 clear hR
 unfold ropenF at HV
 have HOP : Hid (∀ W : World, Kd.C Kd.string W A k.vs.length k.vs → Calls Tryz.prog 17 #[.agg #[.int .i64 (takeBl blob).1.e, .string (takeBl blob).1.s, .string (takeBl blob).1.g], .slice A k.vs.length c, .string k.st, .int .i64 k.e, .string k.pa] W fun e w' => e = .returned (.tuple #[.string (openBl (takeBl blob).1 k.vs k.st k.e k.pa).1, .int .i64 (openBl (takeBl blob).1 k.vs k.st k.e k.pa).2]) ∧ Below W.heap.size W w') :=
  Lib.hid (fun W h => open_bl_call A c z1 z2 hst hvs hl hc W h)
 have HCC := Lib.hid hC
 generalize takeBl blob = B at *
 clear z1 z2 hvs hC
 go_enter Tryz.func25, Tryz.ntmps25
 go_wp2_with fail
 refine (HTK.out _).mono ?_
 rintro e w1 ⟨rfl, hb⟩
 have HK : Hid (w1.heap[w.heap.size]? = some (.cells #[.string k.pa, .int .i64 k.e, .string k.st, .string k.sg, .slice A k.vs.length c] 45 (0, 0))) := Lib.hid (blk_below (blk_new _ _) hb)
 have HB : Hid (Below w.heap.size w w1) := Lib.hid (below_step (w := w) (below_alloc (Below.refl _ _) _) hb)
 clear hb HTK
 by_cases q : B.2 = 0
 rotate_left
 ·have t : (B.2 != 0) = true := by rw [bne_iff_ne]; exact q
  obtain rfl : R = (⟨#[]⟩, B.2) := by rw [← HV.out, if_neg q]
  go_wp2
  go_ret2
  exact ⟨rfl, below_alloc HB.out _⟩
 have t : (B.2 != 0) = false := by rw [q]; rfl
 obtain rfl : R = openBl B.1 k.vs k.st k.e k.pa := by rw [← HV.out, if_pos q]
 have x0 := cell_of_blk (j := 0) (v := .string k.pa) (blk_alloc HK.out (.cells #[.int .i64 B.1.e, .string B.1.s, .string B.1.g] 23)) rfl
 have x1 := cell_of_blk (j := 1) (v := .int .i64 k.e) (blk_alloc HK.out (.cells #[.int .i64 B.1.e, .string B.1.s, .string B.1.g] 23)) rfl
 have x2 := cell_of_blk (j := 2) (v := .string k.st) (blk_alloc HK.out (.cells #[.int .i64 B.1.e, .string B.1.s, .string B.1.g] 23)) rfl
 have x4 := cell_of_blk (j := 4) (v := .slice A k.vs.length c) (blk_alloc HK.out (.cells #[.int .i64 B.1.e, .string B.1.s, .string B.1.g] 23)) rfl
 go_wp2_with fail
 refine (HOP.out _ (Kd.C_below HCC.out (below_alloc HB.out _))).mono ?_
 rintro e w2 ⟨rfl, hb⟩
 have HB2 := Lib.hid (below_step (below_alloc HB.out _) hb)
 clear hb x0 x1 x2 x4
 go_wp2
 go_ret2
 exact ⟨rfl, HB2.out⟩
theorem ofF_le (k : ByteArray) (l : List ByteArray) : (ofF k l).1.size ≤ 4000 := ofF_size _ _
theorem build_le (st sg pa ct : ByteArray) (e : Int) : (buildF st e sg pa ct).1.s.size ≤ 1000000 ∧ (buildF st e sg pa ct).1.g.size ≤ 1000000 := by
 have h0 : noBl.s.size ≤ 1000000 ∧ noBl.g.size ≤ 1000000 := ⟨by decide, by decide⟩
 unfold buildF
 split
 ·split
  ·unfold builtF
   split
   ·split
    ·split
     ·split
      ·have h1 := ofF_le (⟨#[115]⟩ : ByteArray) [(keyF st).1, bodyF pa ct]
       have h2 := ofF_le (⟨#[103]⟩ : ByteArray) [sg, (signedF e (sealF (keyF st).1 (bodyF pa ct)).1).1]
       unfold sealF signF at *
       simp only
       omega
      ·exact h0
     ·exact h0
    ·exact h0
   ·exact h0
  ·exact h0
 ·exact h0
theorem tl_empty (s : ByteArray) : (s.toList == []) = decide (s = ⟨#[]⟩) := by
 rw [bytes_toList]
 by_cases h : s = ⟨#[]⟩
 ·subst h; rfl
 ·rw [decide_eq_false h, beq_eq_false_iff_ne]
  intro hh
  exact h (bs_inj (by rw [hh]; rfl))
set_option maxRecDepth 100000 in
set_option maxHeartbeats 2000000 in
theorem sealed_call {k : Ky} (A : Option Addr) (n c : Nat) (ct : ByteArray) (hst : k.st.size ≤ 1000000) (hsg : k.sg.size ≤ 1000000) (hpa : k.pa.size ≤ 1000000) (w : World) (HTB : Aside0 (Tabs w)) :
  Calls Tryz.prog 80 #[.agg #[.string k.pa, .int .i64 k.e, .string k.st, .string k.sg, .slice A n c], .string ct] w fun e w' => e = .returned (.agg #[.string (rsealF k ct).1, .int .i64 (rsealF k ct).2]) ∧ Below w.heap.size w w' := by
 obtain ⟨pa, e0, st, sg, vs⟩ := k
 simp only at hst hsg hpa
 obtain ⟨R, hR⟩ : ∃ R, rsealF ⟨pa, e0, st, sg, vs⟩ ct = R := ⟨_, rfl⟩
 have HV := Lib.hid hR
 rw [hR]
 clear hR
 unfold rsealF at HV
 simp only at HV ⊢
 obtain ⟨z1, z2⟩ := build_le st sg pa ct e0
 have HBD : Hid (∀ W : World, Below w.heap.size w W → Calls Tryz.prog 15 #[.string st, .int .i64 e0, .string sg, .string pa, .string ct] W fun e w' => e = .returned (.tuple #[.agg #[.int .i64 (buildF st e0 sg pa ct).1.e, .string (buildF st e0 sg pa ct).1.s, .string (buildF st e0 sg pa ct).1.g], .int .i64 (buildF st e0 sg pa ct).2]) ∧ Below W.heap.size W w') := Lib.hid (fun W hb => build_call hst hsg hpa W ⟨HTB.out.below hb⟩)
 have HPT : Hid _ := Lib.hid (putBl_call (buildF st e0 sg pa ct).1 z1 z2)
 generalize buildF st e0 sg pa ct = D at *
 clear z1 z2 hst hsg hpa HTB
 have HK : Hid (((w.alloc (.cells #[.string pa, .int .i64 e0, .string st, .string sg, .slice A n c] 45)).alloc (.cells #[.string ⟨#[]⟩, .int .i64 0] 90)).heap[w.heap.size]? = some (.cells #[.string pa, .int .i64 e0, .string st, .string sg, .slice A n c] 45 (0, 0))) := Lib.hid (wkeep (wnew w _) _)
 have hr := wnew (w.alloc (.cells #[.string pa, .int .i64 e0, .string st, .string sg, .slice A n c] 45)) (.cells #[.string ⟨#[]⟩, .int .i64 0] 90)
 rw [show (w.alloc (.cells #[.string pa, .int .i64 e0, .string st, .string sg, .slice A n c] 45)).heap.size = w.heap.size + 1 from by simp] at hr
 have HR := Lib.hid hr
 have HB : Hid (Below w.heap.size w ((w.alloc (.cells #[.string pa, .int .i64 e0, .string st, .string sg, .slice A n c] 45)).alloc (.cells #[.string ⟨#[]⟩, .int .i64 0] 90))) := Lib.hid (below_alloc (below_alloc (Below.refl _ _) _) _)
 clear hr
 have t0 := tl_empty sg
 by_cases q : sg = ⟨#[]⟩
 ·skip
  rw [decide_eq_true q] at t0
  obtain rfl : R = (⟨#[]⟩, 6) := by rw [← HV.out, if_pos q]
  subst q
  have x0 := cell_of_blk (j := 0) (v := .string pa) (HK.out) rfl
  have x1 := cell_of_blk (j := 1) (v := .int .i64 e0) (HK.out) rfl
  have x2 := cell_of_blk (j := 2) (v := .string st) (HK.out) rfl
  have x3 := cell_of_blk (j := 3) (v := .string ⟨#[]⟩) (HK.out) rfl
  have x4 := cell_of_blk (j := 4) (v := .slice A n c) (HK.out) rfl
  go_enter Tryz.func80, Tryz.ntmps80
  go_wp2_with fail
  refine (ofS_call _ _ _).mono ?_
  rintro e w1 ⟨rfl, hb⟩
  replace HR := Lib.hid (blk_below HR.out hb)
  replace HB := Lib.hid (below_step HB.out hb)
  clear hb
  clear x0 x1 x2 x3 x4
  have c0 := cell_of_blk (j := 0) (v := .string ⟨#[]⟩) HR.out rfl
  have c1 := cell_of_blk (j := 1) (v := .int .i64 0) HR.out rfl
  have z0 := free_of_blk (j := 0) HR.out
  have z1 := free_of_blk (j := 1) HR.out
  obtain ⟨hblk, hbe⟩ := put2 HB.out HR.out (by omega) (.string ⟨#[]⟩) (.int .i64 6)
  go_wp2
  refine bodyPost_ret (results_cell_row rfl _ _ (w.heap.size + 1) 90 _ (0, 0) _ rfl hblk Tryz.underlying90 rfl (by kernel_rfl)) rfl ?_
  exact ⟨rfl, hbe⟩
 ·skip
  rw [decide_eq_false q] at t0
  rw [if_neg q] at HV
  have x0 := cell_of_blk (j := 0) (v := .string pa) (HK.out) rfl
  have x1 := cell_of_blk (j := 1) (v := .int .i64 e0) (HK.out) rfl
  have x2 := cell_of_blk (j := 2) (v := .string st) (HK.out) rfl
  have x3 := cell_of_blk (j := 3) (v := .string sg) (HK.out) rfl
  have x4 := cell_of_blk (j := 4) (v := .slice A n c) (HK.out) rfl
  go_enter Tryz.func80, Tryz.ntmps80
  go_wp2_with fail
  refine (HBD.out _ HB.out).mono ?_
  rintro e w1 ⟨rfl, hb⟩
  replace HR := Lib.hid (blk_below HR.out hb)
  replace HB := Lib.hid (below_step HB.out hb)
  clear hb
  clear x0 x1 x2 x3 x4
  go_wp2_with fail
  refine (ofB_call _ _ _ _ _).mono ?_
  rintro e w2 ⟨rfl, hb⟩
  replace HR := Lib.hid (blk_below HR.out hb)
  replace HB := Lib.hid (below_step HB.out hb)
  clear hb
  go_wp2_with fail
  refine (thenBS_call _ _ _ _ (putBl D.1).1 (putBl D.1).2 _ (fun _ W _ => HPT.out W)).mono ?_
  rintro e w3 ⟨rfl, hb⟩
  replace HR := Lib.hid (blk_below HR.out hb)
  replace HB := Lib.hid (below_step HB.out hb)
  clear hb
  by_cases q2 : D.2 = 0
  ·rw [if_pos q2, if_pos q2]
   obtain rfl : R = putBl D.1 := by rw [← HV.out, if_pos q2]
   have c0 := cell_of_blk (j := 0) (v := .string ⟨#[]⟩) HR.out rfl
   have c1 := cell_of_blk (j := 1) (v := .int .i64 0) HR.out rfl
   have z0 := free_of_blk (j := 0) HR.out
   have z1 := free_of_blk (j := 1) HR.out
   obtain ⟨hblk, hbe⟩ := put2 HB.out HR.out (by omega) (.string (putBl D.1).1) (.int .i64 (putBl D.1).2)
   go_wp2
   refine bodyPost_ret (results_cell_row rfl _ _ (w.heap.size + 1) 90 _ (0, 0) _ rfl hblk Tryz.underlying90 rfl (by kernel_rfl)) rfl ?_
   exact ⟨rfl, hbe⟩
  ·rw [if_neg q2, if_neg q2]
   obtain rfl : R = (⟨#[]⟩, D.2) := by rw [← HV.out, if_neg q2]
   have c0 := cell_of_blk (j := 0) (v := .string ⟨#[]⟩) HR.out rfl
   have c1 := cell_of_blk (j := 1) (v := .int .i64 0) HR.out rfl
   have z0 := free_of_blk (j := 0) HR.out
   have z1 := free_of_blk (j := 1) HR.out
   obtain ⟨hblk, hbe⟩ := put2 HB.out HR.out (by omega) (.string ⟨#[]⟩) (.int .i64 D.2)
   go_wp2
   refine bodyPost_ret (results_cell_row rfl _ _ (w.heap.size + 1) 90 _ (0, 0) _ rfl hblk Tryz.underlying90 rfl (by kernel_rfl)) rfl ?_
   exact ⟨rfl, hbe⟩
def wsl.T2 : Bool × List (List Nat × List Nat) := (true, [([], []), ([0], [0]), ([], []), ([2], [2]), ([1, 0, 1], [1]), ([3, 4, 0, 1, 2, 3, 4], [3])])
def wsl.B2 : List Nat := [0, 1, 0, 4, 3, 31]
theorem wsl.tab2 : rtab .any (opsOf Tryz.f24 2) = wsl.T2 := by kernel_rfl
theorem wsl.bits2 : waitsOk wsl.T2.2 wsl.B2 = true := by kernel_rfl
set_option maxRecDepth 100000 in
set_option maxHeartbeats 2000000 in
theorem seal9_call {k : Ky} (A : Option Addr) (n c : Nat) (ct : ByteArray) (hst : k.st.size ≤ 1000000) (hsg : k.sg.size ≤ 1000000) (hpa : k.pa.size ≤ 1000000) (w : World) (HTB : Aside0 (Tabs w)) :
  Calls Tryz.prog 24 #[.agg #[.string k.pa, .int .i64 k.e, .string k.st, .string k.sg, .slice A n c], .string ct] w fun e w' => e = .returned (.tuple #[.string (rsealF k ct).1, .int .i64 (rsealF k ct).2]) ∧ Below w.heap.size w w' := by
 have HS := Lib.hid (fun (W : World) (hb : Below w.heap.size w W) => sealed_call A n c ct hst hsg hpa W ⟨HTB.out.below hb⟩)
 generalize rsealF k ct = R at *
 obtain ⟨pa, e0, st, sg, vs⟩ := k
 simp only at hst hsg hpa HS ⊢
 clear hst hsg hpa HTB
 have HB : Hid (Below w.heap.size w (w.alloc (.cells #[.string pa, .int .i64 e0, .string st, .string sg, .slice A n c] 45))) := Lib.hid (below_alloc (Below.refl _ _) _)
 have x0 := cell_of_blk (j := 0) (v := .string pa) (wnew w (.cells #[.string pa, .int .i64 e0, .string st, .string sg, .slice A n c] 45)) rfl
 have x1 := cell_of_blk (j := 1) (v := .int .i64 e0) (wnew w (.cells #[.string pa, .int .i64 e0, .string st, .string sg, .slice A n c] 45)) rfl
 have x2 := cell_of_blk (j := 2) (v := .string st) (wnew w (.cells #[.string pa, .int .i64 e0, .string st, .string sg, .slice A n c] 45)) rfl
 have x3 := cell_of_blk (j := 3) (v := .string sg) (wnew w (.cells #[.string pa, .int .i64 e0, .string st, .string sg, .slice A n c] 45)) rfl
 have x4 := cell_of_blk (j := 4) (v := .slice A n c) (wnew w (.cells #[.string pa, .int .i64 e0, .string st, .string sg, .slice A n c] 45)) rfl
 go_enter Tryz.func24, Tryz.ntmps24
 go_wp2_with fail
 refine (HS.out _ HB.out).mono ?_
 rintro e w1 ⟨rfl, hb⟩
 replace HB := Lib.hid (below_step HB.out hb)
 clear hb
 clear x0 x1 x2 x3 x4
 go_wp2_with fail
 have hb0 : Below (w1.alloc (.cells #[.string R.1, .int .i64 R.2] 90)).heap.size (w1.alloc (.cells #[.string R.1, .int .i64 R.2] 90)) (w1.alloc (.cells #[.string R.1, .int .i64 R.2] 90)).drew := below_drew (Below.refl _ _)
 have hb := below_step (below_alloc (Below.refl _ _) _) hb0
 replace HB := Lib.hid (below_step HB.out hb)
 have HXr := Lib.hid (blk_below (blk_new w1 (.cells #[.string R.1, .int .i64 R.2] 90)) hb0)
 clear hb hb0
 refine start_ (n := 6) (S := fun w' => w'.cell? ⟨w1.heap.size, 0, none⟩ = some (.string R.1) ∧ w'.cell? ⟨w1.heap.size, 1, none⟩ = some (.int .i64 R.2)) (ds := []) #[false, false, false, false, false, false] (by kernel_rfl) rfl rfl ⟨(cell_of_blk HXr.out rfl), (cell_of_blk HXr.out rfl)⟩ (fun hHeld => ?_)
 refine with_tabW wsl.tab2 wsl.bits2 (fun HT_ HW_ => ?_)
 refine pure_ (i := 0) (N := some 10) (v := ?_) (a' := ?_) #[true, false, false, false, false, false] rfl rfl (any_of HT_.out (by kernel_rfl)) (fun _ _ _ h => h) (Or.inl ⟨by rfl, ?_⟩) ?_ ?_
 rotate_left
 ·intro w'
  go_simp
  with_reducible rfl
 rotate_left
 ·simp only [Act.put, List.setIfInBounds_toArray, List.set_cons_zero, List.set_cons_succ, i64_w, i32_w]
  rfl
 refine pure_ (i := 2) (N := some 12) (v := ?_) (a' := ?_) #[true, false, true, false, false, false] rfl rfl (any_of HT_.out (by kernel_rfl)) (fun _ _ _ h => h) (Or.inl ⟨by rfl, ?_⟩) ?_ ?_
 rotate_left
 ·intro w'
  go_simp
  with_reducible rfl
 rotate_left
 ·simp only [Act.put, List.setIfInBounds_toArray, List.set_cons_zero, List.set_cons_succ, i64_w, i32_w]
  rfl
 refine take_ (i := 1) (N := some 11) (v := ?_) (a' := ?_) #[true, true, true, false, false, false] rfl rfl (take_ofW HT_.out HW_.out (by kernel_rfl)) (fun _ _ _ h => h) (Or.inl ⟨by rfl, ?_⟩) hHeld ?_ ?_
 rotate_left
 ·rintro w' ⟨s0, s1⟩
  go_simp
  with_reducible rfl
 rotate_left
 ·simp only [Act.put, List.setIfInBounds_toArray, List.set_cons_zero, List.set_cons_succ, i64_w, i32_w]
  rfl
 refine pure_ (i := 4) (N := some 4) (v := ?_) (a' := ?_) #[true, true, true, false, true, false] rfl rfl (any_of HT_.out (by kernel_rfl)) (fun _ _ _ h => h) (Or.inl ⟨by rfl, ?_⟩) ?_ ?_
 rotate_left
 ·intro w'
  go_simp
  with_reducible rfl
 rotate_left
 ·simp only [Act.put, List.setIfInBounds_toArray, List.set_cons_zero, List.set_cons_succ, i64_w, i32_w]
  rfl
 refine take_ (i := 3) (N := some 13) (v := ?_) (a' := ?_) #[true, true, true, true, true, false] rfl rfl (take_ofW HT_.out HW_.out (by kernel_rfl)) (fun _ _ _ h => h) (Or.inl ⟨by rfl, ?_⟩) hHeld ?_ ?_
 rotate_left
 ·rintro w' ⟨s0, s1⟩
  go_simp
  with_reducible rfl
 rotate_left
 ·simp only [Act.put, List.setIfInBounds_toArray, List.set_cons_zero, List.set_cons_succ, i64_w, i32_w]
  rfl
 refine pure_ (i := 5) (N := some 5) (v := ?_) (a' := ?_) #[true, true, true, true, true, true] rfl rfl (any_of HT_.out (by kernel_rfl)) (fun _ _ _ h => h) (Or.inl ⟨by rfl, ?_⟩) ?_ ?_
 rotate_left
 ·intro w'
  go_simp
  with_reducible rfl
 rotate_left
 ·simp only [Act.put, List.setIfInBounds_toArray, List.set_cons_zero, List.set_cons_succ, i64_w, i32_w]
  rfl
 refine done_ (done_of HT_.out (by kernel_rfl)) ?_
 clear HT_
 go_wp2
 go_ret2
 exact ⟨rfl, HB.out⟩
set_option maxRecDepth 100000 in
set_option maxHeartbeats 2000000 in
theorem behind1_call {k : Ky} (A : Option Addr) (n c : Nat) (s blob : ByteArray) (bb bk : Nat) (hz : blob.size ≤ 1000000) (w : World) (h1 : w.heap[bb]? = some (.cells #[.string blob] 9 (0, 0))) (h2 : w.heap[bk]? = some (.cells #[.string k.pa, .int .i64 k.e, .string k.st, .string k.sg, .slice A n c] 45 (0, 0))) :
  Calls Tryz.prog 83 #[.string s, .pointer (some ⟨bb, 0, none⟩), .pointer (some ⟨bk, 0, none⟩)] w fun e w' => e = .returned (.tuple #[.bool (decide ((takeBl blob).1.e < k.e)), .int .i64 (takeBl blob).2]) ∧ Below w.heap.size w w' := by
 have HTK := Lib.hid (takeBl_call blob hz)
 have HB := Lib.hid (Below.refl w.heap.size w)
 have HK := Lib.hid h2
 have x := cell_of_blk (j := 0) (v := .string blob) h1 rfl
 clear h1 h2 hz
 generalize takeBl blob = B at *
 go_enter Tryz.func83, Tryz.ntmps83
 go_wp2_with fail
 refine (HTK.out _).mono ?_
 rintro e w1 ⟨rfl, hb⟩
 replace HK := Lib.hid (blk_below HK.out hb)
 replace HB := Lib.hid (below_step HB.out hb)
 clear hb
 clear x
 have y := cell_of_blk (j := 1) (v := .int .i64 k.e) (blk_alloc HK.out (.cells #[.int .i64 B.1.e, .string B.1.s, .string B.1.g] 23)) rfl
 go_wp2
 go_ret2
 exact ⟨rfl, below_alloc HB.out _⟩
set_option maxRecDepth 100000 in
set_option maxHeartbeats 2000000 in
theorem renew1_call {k : Ky} (A : Option Addr) (n c : Nat) (ct : ByteArray) (bk : Nat) (hst : k.st.size ≤ 1000000) (hsg : k.sg.size ≤ 1000000) (hpa : k.pa.size ≤ 1000000) (w : World) (HTB : Aside0 (Tabs w)) (h2 : w.heap[bk]? = some (.cells #[.string k.pa, .int .i64 k.e, .string k.st, .string k.sg, .slice A n c] 45 (0, 0))) :
  Calls Tryz.prog 85 #[.string ct, .pointer (some ⟨bk, 0, none⟩)] w fun e w' => e = .returned (.tuple #[.string (rsealF k ct).1, .int .i64 (rsealF k ct).2]) ∧ Below w.heap.size w w' := by
 have HS := Lib.hid (seal9_call A n c ct hst hsg hpa w HTB)
 have HB := Lib.hid (Below.refl w.heap.size w)
 generalize rsealF k ct = R at *
 obtain ⟨pa, e0, st, sg, vs⟩ := k
 simp only at hst hsg hpa HS h2 ⊢
 have HK := Lib.hid h2
 clear hst hsg hpa HTB h2
 have x0 := cell_of_blk (j := 0) (v := .string pa) (HK.out) rfl
 have x1 := cell_of_blk (j := 1) (v := .int .i64 e0) (HK.out) rfl
 have x2 := cell_of_blk (j := 2) (v := .string st) (HK.out) rfl
 have x3 := cell_of_blk (j := 3) (v := .string sg) (HK.out) rfl
 have x4 := cell_of_blk (j := 4) (v := .slice A n c) (HK.out) rfl
 go_enter Tryz.func85, Tryz.ntmps85
 go_wp2_with fail
 refine (HS.out).mono ?_
 rintro e w1 ⟨rfl, hb⟩
 replace HB := Lib.hid (below_step HB.out hb)
 clear hb
 go_wp2
 go_ret2
 exact ⟨rfl, HB.out⟩
set_option maxRecDepth 100000 in
set_option maxHeartbeats 2000000 in
theorem behind_call {k : Ky} (A : Option Addr) (c : Nat) (blob : ByteArray) (hz : blob.size ≤ 1000000) (hst : k.st.size ≤ 1000000) (hvs : ∀ v ∈ k.vs, v.size ≤ 1000000) (hl : k.vs.length ≤ 1000000) (hc : k.vs.length ≤ c) (w : World) (hC : Kd.C Kd.string w A k.vs.length k.vs) :
  Calls Tryz.prog 26 #[.agg #[.string k.pa, .int .i64 k.e, .string k.st, .string k.sg, .slice A k.vs.length c], .string blob] w fun e w' => e = .returned (.bool (behindF k blob)) ∧ Below w.heap.size w w' := by
 have HOP : Hid (∀ W : World, Below w.heap.size w W → Calls Tryz.prog 25 #[.agg #[.string k.pa, .int .i64 k.e, .string k.st, .string k.sg, .slice A k.vs.length c], .string blob] W fun e w' => e = .returned (.tuple #[.string (ropenF k blob).1, .int .i64 (ropenF k blob).2]) ∧ Below W.heap.size W w') := Lib.hid (fun W hb => ropen_call A c blob hz hst hvs hl hc W (Kd.C_below hC hb))
 have HCL := Lib.hid (fun (s : ByteArray) (bb bk : Nat) (W : World) => behind1_call (k := k) A k.vs.length c s blob bb bk hz W)
 obtain ⟨R, hR⟩ : ∃ R, behindF k blob = R := ⟨_, rfl⟩
 have HV := Lib.hid hR
 rw [hR]
 clear hR hC
 unfold behindF at HV
 generalize ropenF k blob = O at *
 generalize takeBl blob = B at *
 obtain ⟨pa, e0, st, sg, vs⟩ := k
 simp only at hst hvs hl hc HOP HV HCL ⊢
 generalize vs.length = n at *
 clear hst hvs hl hc hz
 have hkb := wkeep (wnew w (.cells #[.string pa, .int .i64 e0, .string st, .string sg, .slice A n c] 45)) (.cells #[.string blob] 9)
 have hbb := wnew (w.alloc (.cells #[.string pa, .int .i64 e0, .string st, .string sg, .slice A n c] 45)) (.cells #[.string blob] 9)
 rw [show (w.alloc (.cells #[.string pa, .int .i64 e0, .string st, .string sg, .slice A n c] 45)).heap.size = w.heap.size + 1 from by simp] at hbb
 have HK := Lib.hid hkb
 have HL := Lib.hid hbb
 clear hkb hbb
 have HB : Hid (Below w.heap.size w ((w.alloc (.cells #[.string pa, .int .i64 e0, .string st, .string sg, .slice A n c] 45)).alloc (.cells #[.string blob] 9))) := Lib.hid (below_alloc (below_alloc (Below.refl _ _) _) _)
 have x0 := cell_of_blk (j := 0) (v := .string pa) (HK.out) rfl
 have x1 := cell_of_blk (j := 1) (v := .int .i64 e0) (HK.out) rfl
 have x2 := cell_of_blk (j := 2) (v := .string st) (HK.out) rfl
 have x3 := cell_of_blk (j := 3) (v := .string sg) (HK.out) rfl
 have x4 := cell_of_blk (j := 4) (v := .slice A n c) (HK.out) rfl
 have y0 := cell_of_blk (j := 0) (v := .string blob) (HL.out) rfl
 go_enter Tryz.func26, Tryz.ntmps26
 go_wp2_with fail
 refine (HOP.out _ HB.out).mono ?_
 rintro e w1 ⟨rfl, hb⟩
 replace HK := Lib.hid (blk_below HK.out hb)
 replace HL := Lib.hid (blk_below HL.out hb)
 replace HB := Lib.hid (below_step HB.out hb)
 clear hb
 clear x0 x1 x2 x3 x4
 clear y0
 go_wp2_with fail
 refine (ofS_call _ _ _).mono ?_
 rintro e w2 ⟨rfl, hb⟩
 replace HK := Lib.hid (blk_below HK.out hb)
 replace HL := Lib.hid (blk_below HL.out hb)
 replace HB := Lib.hid (below_step HB.out hb)
 clear hb
 replace HK := Lib.hid (wkeep HK.out (.cells #[.string O.1, .int .i64 O.2] 90))
 replace HL := Lib.hid (wkeep HL.out (.cells #[.string O.1, .int .i64 O.2] 90))
 replace HB := Lib.hid (below_alloc HB.out (.cells #[.string O.1, .int .i64 O.2] 90))
 have x0 := cell_of_blk (j := 0) (v := .string O.1) (wnew w2 (.cells #[.string O.1, .int .i64 O.2] 90)) rfl
 have x1 := cell_of_blk (j := 1) (v := .int .i64 O.2) (wnew w2 (.cells #[.string O.1, .int .i64 O.2] 90)) rfl
 go_wp2_with fail
 refine (thenST_call _ _ (decide (B.1.e < e0)) B.2 _ _ _ (fun _ W hb => HCL.out _ _ _ W (blk_below HL.out hb) (blk_below HK.out hb))).mono ?_
 rintro e w3 ⟨rfl, hb⟩
 replace HK := Lib.hid (blk_below HK.out hb)
 replace HL := Lib.hid (blk_below HL.out hb)
 replace HB := Lib.hid (below_step HB.out hb)
 clear hb
 clear x0 x1
 by_cases q : O.2 = 0
 ·rw [if_pos q, if_pos q]
  obtain rfl : R = decide (B.1.e < e0) := by rw [← HV.out, decide_eq_true q]; rfl
  go_wp2
  go_ret
  exact ⟨rfl, below_alloc HB.out _⟩
 ·rw [if_neg q, if_neg q]
  obtain rfl : R = false := by rw [← HV.out, decide_eq_false q]; rfl
  go_wp2
  go_ret
  exact ⟨rfl, below_alloc HB.out _⟩
def renewF (k : Ky) (blob : ByteArray) : ByteArray × Bool × Int :=
 if (ropenF k blob).2 = 0 then (if behindF k blob = true then ((rsealF k (ropenF k blob).1).1, decide ((rsealF k (ropenF k blob).1).2 = 0), (rsealF k (ropenF k blob).1).2) else (blob, false, 0)) else (⟨#[]⟩, false, (ropenF k blob).2)
def wrn.T5 : Bool × List (List Nat × List Nat) := (true, [([], []), ([0], [0]), ([], []), ([2], [2]), ([3], [3]), ([], []), ([5], [5]), ([1, 0, 1], [1]), ([4, 7, 0, 1, 2, 3, 4, 7], [4]), ([6, 8, 0, 1, 2, 3, 4, 5, 6, 7, 8], [6])])
def wrn.B5 : List Nat := [0, 1, 0, 4, 12, 0, 32, 3, 159, 511]
theorem wrn.tab5 : rtab .any (opsOf Tryz.f29 5) = wrn.T5 := by kernel_rfl
theorem wrn.bits5 : waitsOk wrn.T5.2 wrn.B5 = true := by kernel_rfl
set_option maxRecDepth 100000 in
set_option maxHeartbeats 2000000 in
theorem renew_call {k : Ky} (A : Option Addr) (c : Nat) (blob : ByteArray) (hz : blob.size ≤ 1000000) (hst : k.st.size ≤ 1000000) (hsg : k.sg.size ≤ 1000000) (hpa : k.pa.size ≤ 1000000) (hvs : ∀ v ∈ k.vs, v.size ≤ 1000000) (hl : k.vs.length ≤ 1000000) (hc : k.vs.length ≤ c) (w : World) (HTB : Aside0 (Tabs w)) (hC : Kd.C Kd.string w A k.vs.length k.vs) :
  Calls Tryz.prog 29 #[.agg #[.string k.pa, .int .i64 k.e, .string k.st, .string k.sg, .slice A k.vs.length c], .string blob] w fun e w' => e = .returned (.tuple #[.string (renewF k blob).1, .bool (renewF k blob).2.1, .int .i64 (renewF k blob).2.2]) ∧ Below w.heap.size w w' := by
 have HOP : Hid (∀ W : World, Below w.heap.size w W → Calls Tryz.prog 25 #[.agg #[.string k.pa, .int .i64 k.e, .string k.st, .string k.sg, .slice A k.vs.length c], .string blob] W fun e w' => e = .returned (.tuple #[.string (ropenF k blob).1, .int .i64 (ropenF k blob).2]) ∧ Below W.heap.size W w') := Lib.hid (fun W hb => ropen_call A c blob hz hst hvs hl hc W (Kd.C_below hC hb))
 have HBH : Hid (∀ W : World, Below w.heap.size w W → Calls Tryz.prog 26 #[.agg #[.string k.pa, .int .i64 k.e, .string k.st, .string k.sg, .slice A k.vs.length c], .string blob] W fun e w' => e = .returned (.bool (behindF k blob)) ∧ Below W.heap.size W w') := Lib.hid (fun W hb => behind_call A c blob hz hst hvs hl hc W (Kd.C_below hC hb))
 have HCL := Lib.hid (fun (ct : ByteArray) (bk : Nat) (W : World) (hb : Below w.heap.size w W) => renew1_call (k := k) A k.vs.length c ct bk hst hsg hpa W ⟨HTB.out.below hb⟩)
 obtain ⟨R, hR⟩ : ∃ R, renewF k blob = R := ⟨_, rfl⟩
 have HV := Lib.hid hR
 rw [hR]
 clear hR hC
 unfold renewF at HV
 generalize ropenF k blob = O at *
 obtain ⟨o1, o2⟩ := O
 simp only at HOP HV
 generalize behindF k blob = H at *
 have HSE : Hid (rsealF k o1 = rsealF k o1) := Lib.hid rfl
 obtain ⟨Z, hZ⟩ : ∃ Z, rsealF k o1 = Z := ⟨_, rfl⟩
 have HZ := Lib.hid hZ
 rw [hZ] at HV
 replace HCL := Lib.hid (fun (bk : Nat) (W : World) (hb : Below w.heap.size w W) => HCL.out o1 bk W hb)
 rw [hZ] at HCL
 clear hZ HZ HSE
 obtain ⟨pa, e0, st, sg, vs⟩ := k
 simp only at hst hvs hl hc hsg hpa HOP HBH HCL ⊢
 generalize vs.length = n at *
 clear hst hvs hl hc hz hsg hpa HTB
 have HK := Lib.hid (wnew w (.cells #[.string pa, .int .i64 e0, .string st, .string sg, .slice A n c] 45))
 have HB : Hid (Below w.heap.size w (w.alloc (.cells #[.string pa, .int .i64 e0, .string st, .string sg, .slice A n c] 45))) := Lib.hid (below_alloc (Below.refl _ _) _)
 have x0 := cell_of_blk (j := 0) (v := .string pa) (HK.out) rfl
 have x1 := cell_of_blk (j := 1) (v := .int .i64 e0) (HK.out) rfl
 have x2 := cell_of_blk (j := 2) (v := .string st) (HK.out) rfl
 have x3 := cell_of_blk (j := 3) (v := .string sg) (HK.out) rfl
 have x4 := cell_of_blk (j := 4) (v := .slice A n c) (HK.out) rfl
 go_enter Tryz.func29, Tryz.ntmps29
 go_wp2_with fail
 refine (HOP.out _ HB.out).mono ?_
 rintro e w1 ⟨rfl, hb⟩
 replace HK := Lib.hid (blk_below HK.out hb)
 replace HB := Lib.hid (below_step HB.out hb)
 clear hb
 clear x0 x1 x2 x3 x4
 go_wp2_with fail
 refine (ofS_call _ _ _).mono ?_
 rintro e w2 ⟨rfl, hb⟩
 replace HK := Lib.hid (blk_below HK.out hb)
 replace HB := Lib.hid (below_step HB.out hb)
 clear hb
 replace HK := Lib.hid (wkeep HK.out (.cells #[.string o1, .int .i64 o2] 90))
 have HO := Lib.hid (wnew w2 (.cells #[.string o1, .int .i64 o2] 90))
 replace HB := Lib.hid (below_alloc HB.out (.cells #[.string o1, .int .i64 o2] 90))
 by_cases q : o2 = 0
 rotate_left
 ·skip
  have t0 : (o2 == 0) = false := by rw [beq_eq_false_iff_ne]; exact q
  obtain rfl : R = (⟨#[]⟩, false, o2) := by rw [← HV.out, if_neg q]
  have y0 := cell_of_blk (j := 0) (v := .string o1) (HO.out) rfl
  have y1 := cell_of_blk (j := 1) (v := .int .i64 o2) (HO.out) rfl
  go_wp2_with fail
  refine (thenSS_call _ _ Z.1 Z.2 _ _ (fun _ W hb => HCL.out _ W (below_step HB.out hb) (blk_below HK.out hb))).mono ?_
  rintro e w4 ⟨rfl, hb⟩
  replace HB := Lib.hid (below_step HB.out hb)
  clear hb
  clear y0 y1
  rw [if_neg q, if_neg q]
  go_wp2_with fail
  have hb0 : Below (w4.alloc (.cells #[.string ⟨#[]⟩, .int .i64 o2] 90)).heap.size (w4.alloc (.cells #[.string ⟨#[]⟩, .int .i64 o2] 90)) (w4.alloc (.cells #[.string ⟨#[]⟩, .int .i64 o2] 90)).drew := below_drew (Below.refl _ _)
  have hb := below_step (below_alloc (Below.refl _ _) _) hb0
  replace HB := Lib.hid (below_step HB.out hb)
  have HXg := Lib.hid (blk_below (blk_new w4 (.cells #[.string ⟨#[]⟩, .int .i64 o2] 90)) hb0)
  clear hb hb0
  refine start_ (n := 10) (S := fun w' => w'.cell? ⟨w4.heap.size, 0, none⟩ = some (.string ⟨#[]⟩) ∧ w'.cell? ⟨w4.heap.size, 1, none⟩ = some (.int .i64 o2)) (ds := []) #[false, false, false, false, false, false, false, false, false, false] (by kernel_rfl) rfl rfl ⟨(cell_of_blk HXg.out rfl), (cell_of_blk HXg.out rfl)⟩ (fun hHeld => ?_)
  refine with_tabW wrn.tab5 wrn.bits5 (fun HT_ HW_ => ?_)
  refine pure_ (i := 0) (N := some 28) (v := ?_) (a' := ?_) #[true, false, false, false, false, false, false, false, false, false] rfl rfl (any_of HT_.out (by kernel_rfl)) (fun _ _ _ h => h) (Or.inl ⟨by rfl, ?_⟩) ?_ ?_
  rotate_left
  ·intro w'
   go_simp
   with_reducible rfl
  rotate_left
  ·simp only [Act.put, List.setIfInBounds_toArray, List.set_cons_zero, List.set_cons_succ, i64_w, i32_w]
   rfl
  refine pure_ (i := 2) (N := some 30) (v := ?_) (a' := ?_) #[true, false, true, false, false, false, false, false, false, false] rfl rfl (any_of HT_.out (by kernel_rfl)) (fun _ _ _ h => h) (Or.inl ⟨by rfl, ?_⟩) ?_ ?_
  rotate_left
  ·intro w'
   go_simp
   with_reducible rfl
  rotate_left
  ·simp only [Act.put, List.setIfInBounds_toArray, List.set_cons_zero, List.set_cons_succ, i64_w, i32_w]
   rfl
  refine pure_ (i := 5) (N := some 33) (v := ?_) (a' := ?_) #[true, false, true, false, false, true, false, false, false, false] rfl rfl (any_of HT_.out (by kernel_rfl)) (fun _ _ _ h => h) (Or.inl ⟨by rfl, ?_⟩) ?_ ?_
  rotate_left
  ·intro w'
   go_simp
   with_reducible rfl
  rotate_left
  ·simp only [Act.put, List.setIfInBounds_toArray, List.set_cons_zero, List.set_cons_succ, i64_w, i32_w]
   rfl
  refine take_ (i := 1) (N := some 29) (v := ?_) (a' := ?_) #[true, true, true, false, false, true, false, false, false, false] rfl rfl (take_ofW HT_.out HW_.out (by kernel_rfl)) (fun _ _ _ h => h) (Or.inl ⟨by rfl, ?_⟩) hHeld ?_ ?_
  rotate_left
  ·rintro w' ⟨s0, s1⟩
   go_simp
   with_reducible rfl
  rotate_left
  ·simp only [Act.put, List.setIfInBounds_toArray, List.set_cons_zero, List.set_cons_succ, i64_w, i32_w]
   rfl
  refine pure_ (i := 7) (N := some 4) (v := ?_) (a' := ?_) #[true, true, true, false, false, true, false, true, false, false] rfl rfl (any_of HT_.out (by kernel_rfl)) (fun _ _ _ h => h) (Or.inl ⟨by rfl, ?_⟩) ?_ ?_
  rotate_left
  ·intro w'
   go_simp
   with_reducible rfl
  rotate_left
  ·simp only [Act.put, List.setIfInBounds_toArray, List.set_cons_zero, List.set_cons_succ, i64_w, i32_w]
   rfl
  refine take_ (i := 3) (N := some 31) (v := ?_) (a' := ?_) #[true, true, true, true, false, true, false, true, false, false] rfl rfl (take_ofW HT_.out HW_.out (by kernel_rfl)) (fun _ _ _ h => h) (Or.inl ⟨by rfl, ?_⟩) hHeld ?_ ?_
  rotate_left
  ·rintro w' ⟨s0, s1⟩
   go_simp
   with_reducible rfl
  rotate_left
  ·simp only [Act.put, List.setIfInBounds_toArray, List.set_cons_zero, List.set_cons_succ, i64_w, i32_w]
   rfl
  refine pure_ (i := 4) (N := some 32) (v := ?_) (a' := ?_) #[true, true, true, true, true, true, false, true, false, false] rfl rfl (any_of HT_.out (by kernel_rfl)) (fun _ _ _ h => h) (Or.inl ⟨by rfl, ?_⟩) ?_ ?_
  rotate_left
  ·intro w'
   go_simp
   with_reducible rfl
  rotate_left
  ·simp only [Act.put, List.setIfInBounds_toArray, List.set_cons_zero, List.set_cons_succ, i64_w, i32_w]
   rfl
  refine pure_ (i := 8) (N := some 5) (v := ?_) (a' := ?_) #[true, true, true, true, true, true, false, true, true, false] rfl rfl (any_of HT_.out (by kernel_rfl)) (fun _ _ _ h => h) (Or.inl ⟨by rfl, ?_⟩) ?_ ?_
  rotate_left
  ·intro w'
   go_simp
   with_reducible rfl
  rotate_left
  ·simp only [Act.put, List.setIfInBounds_toArray, List.set_cons_zero, List.set_cons_succ, i64_w, i32_w]
   rfl
  refine take_ (i := 6) (N := some 34) (v := ?_) (a' := ?_) #[true, true, true, true, true, true, true, true, true, false] rfl rfl (take_ofW HT_.out HW_.out (by kernel_rfl)) (fun _ _ _ h => h) (Or.inl ⟨by rfl, ?_⟩) hHeld ?_ ?_
  rotate_left
  ·rintro w' ⟨s0, s1⟩
   go_simp
   with_reducible rfl
  rotate_left
  ·simp only [Act.put, List.setIfInBounds_toArray, List.set_cons_zero, List.set_cons_succ, i64_w, i32_w]
   rfl
  refine pure_ (i := 9) (N := some 6) (v := ?_) (a' := ?_) #[true, true, true, true, true, true, true, true, true, true] rfl rfl (any_of HT_.out (by kernel_rfl)) (fun _ _ _ h => h) (Or.inl ⟨by rfl, ?_⟩) ?_ ?_
  rotate_left
  ·intro w'
   go_simp
   with_reducible rfl
  rotate_left
  ·simp only [Act.put, List.setIfInBounds_toArray, List.set_cons_zero, List.set_cons_succ, i64_w, i32_w]
   rfl
  refine done_ (done_of HT_.out (by kernel_rfl)) ?_
  clear HT_
  go_wp2
  refine bodyPost_ret (results_tmp3 rfl _ _ _) rfl ?_
  exact ⟨rfl, HB.out⟩
 subst q
 have y0 := cell_of_blk (j := 0) (v := .string o1) (HO.out) rfl
 have y1 := cell_of_blk (j := 1) (v := .int .i64 0) (HO.out) rfl
 have x0 := cell_of_blk (j := 0) (v := .string pa) (HK.out) rfl
 have x1 := cell_of_blk (j := 1) (v := .int .i64 e0) (HK.out) rfl
 have x2 := cell_of_blk (j := 2) (v := .string st) (HK.out) rfl
 have x3 := cell_of_blk (j := 3) (v := .string sg) (HK.out) rfl
 have x4 := cell_of_blk (j := 4) (v := .slice A n c) (HK.out) rfl
 go_wp2_with fail
 refine (HBH.out _ HB.out).mono ?_
 rintro e w3 ⟨rfl, hb⟩
 replace HK := Lib.hid (blk_below HK.out hb)
 replace HO := Lib.hid (blk_below HO.out hb)
 replace HB := Lib.hid (below_step HB.out hb)
 clear hb
 clear x0 x1 x2 x3 x4
 clear y0 y1
 cases H with
 | false =>
  obtain rfl : R = (blob, false, 0) := by rw [← HV.out]; rfl
  go_wp2
  refine bodyPost_ret (results_tmp3 rfl _ _ _) rfl ?_
  exact ⟨rfl, HB.out⟩
 | true =>
  obtain rfl : R = (Z.1, (Z.2 == 0), Z.2) := by rw [← HV.out]; rfl
  have y0 := cell_of_blk (j := 0) (v := .string o1) (HO.out) rfl
  have y1 := cell_of_blk (j := 1) (v := .int .i64 0) (HO.out) rfl
  go_wp2_with fail
  refine (thenSS_call _ _ Z.1 Z.2 _ _ (fun _ W hb => HCL.out _ W (below_step HB.out hb) (blk_below HK.out hb))).mono ?_
  rintro e w4 ⟨rfl, hb⟩
  replace HB := Lib.hid (below_step HB.out hb)
  clear hb
  clear y0 y1
  rw [if_pos rfl, if_pos rfl]
  go_wp2_with fail
  have hb0 : Below (w4.alloc (.cells #[.string Z.1, .int .i64 Z.2] 90)).heap.size (w4.alloc (.cells #[.string Z.1, .int .i64 Z.2] 90)) (w4.alloc (.cells #[.string Z.1, .int .i64 Z.2] 90)).drew := below_drew (Below.refl _ _)
  have hb := below_step (below_alloc (Below.refl _ _) _) hb0
  replace HB := Lib.hid (below_step HB.out hb)
  have HXg := Lib.hid (blk_below (blk_new w4 (.cells #[.string Z.1, .int .i64 Z.2] 90)) hb0)
  clear hb hb0
  refine start_ (n := 10) (S := fun w' => w'.cell? ⟨w4.heap.size, 0, none⟩ = some (.string Z.1) ∧ w'.cell? ⟨w4.heap.size, 1, none⟩ = some (.int .i64 Z.2)) (ds := []) #[false, false, false, false, false, false, false, false, false, false] (by kernel_rfl) rfl rfl ⟨(cell_of_blk HXg.out rfl), (cell_of_blk HXg.out rfl)⟩ (fun hHeld => ?_)
  refine with_tabW wrn.tab5 wrn.bits5 (fun HT_ HW_ => ?_)
  refine pure_ (i := 0) (N := some 28) (v := ?_) (a' := ?_) #[true, false, false, false, false, false, false, false, false, false] rfl rfl (any_of HT_.out (by kernel_rfl)) (fun _ _ _ h => h) (Or.inl ⟨by rfl, ?_⟩) ?_ ?_
  rotate_left
  ·intro w'
   go_simp
   with_reducible rfl
  rotate_left
  ·simp only [Act.put, List.setIfInBounds_toArray, List.set_cons_zero, List.set_cons_succ, i64_w, i32_w]
   rfl
  refine pure_ (i := 2) (N := some 30) (v := ?_) (a' := ?_) #[true, false, true, false, false, false, false, false, false, false] rfl rfl (any_of HT_.out (by kernel_rfl)) (fun _ _ _ h => h) (Or.inl ⟨by rfl, ?_⟩) ?_ ?_
  rotate_left
  ·intro w'
   go_simp
   with_reducible rfl
  rotate_left
  ·simp only [Act.put, List.setIfInBounds_toArray, List.set_cons_zero, List.set_cons_succ, i64_w, i32_w]
   rfl
  refine pure_ (i := 5) (N := some 33) (v := ?_) (a' := ?_) #[true, false, true, false, false, true, false, false, false, false] rfl rfl (any_of HT_.out (by kernel_rfl)) (fun _ _ _ h => h) (Or.inl ⟨by rfl, ?_⟩) ?_ ?_
  rotate_left
  ·intro w'
   go_simp
   with_reducible rfl
  rotate_left
  ·simp only [Act.put, List.setIfInBounds_toArray, List.set_cons_zero, List.set_cons_succ, i64_w, i32_w]
   rfl
  refine take_ (i := 1) (N := some 29) (v := ?_) (a' := ?_) #[true, true, true, false, false, true, false, false, false, false] rfl rfl (take_ofW HT_.out HW_.out (by kernel_rfl)) (fun _ _ _ h => h) (Or.inl ⟨by rfl, ?_⟩) hHeld ?_ ?_
  rotate_left
  ·rintro w' ⟨s0, s1⟩
   go_simp
   with_reducible rfl
  rotate_left
  ·simp only [Act.put, List.setIfInBounds_toArray, List.set_cons_zero, List.set_cons_succ, i64_w, i32_w]
   rfl
  refine pure_ (i := 7) (N := some 4) (v := ?_) (a' := ?_) #[true, true, true, false, false, true, false, true, false, false] rfl rfl (any_of HT_.out (by kernel_rfl)) (fun _ _ _ h => h) (Or.inl ⟨by rfl, ?_⟩) ?_ ?_
  rotate_left
  ·intro w'
   go_simp
   with_reducible rfl
  rotate_left
  ·simp only [Act.put, List.setIfInBounds_toArray, List.set_cons_zero, List.set_cons_succ, i64_w, i32_w]
   rfl
  refine take_ (i := 3) (N := some 31) (v := ?_) (a' := ?_) #[true, true, true, true, false, true, false, true, false, false] rfl rfl (take_ofW HT_.out HW_.out (by kernel_rfl)) (fun _ _ _ h => h) (Or.inl ⟨by rfl, ?_⟩) hHeld ?_ ?_
  rotate_left
  ·rintro w' ⟨s0, s1⟩
   go_simp
   with_reducible rfl
  rotate_left
  ·simp only [Act.put, List.setIfInBounds_toArray, List.set_cons_zero, List.set_cons_succ, i64_w, i32_w]
   rfl
  refine pure_ (i := 4) (N := some 32) (v := ?_) (a' := ?_) #[true, true, true, true, true, true, false, true, false, false] rfl rfl (any_of HT_.out (by kernel_rfl)) (fun _ _ _ h => h) (Or.inl ⟨by rfl, ?_⟩) ?_ ?_
  rotate_left
  ·intro w'
   go_simp
   with_reducible rfl
  rotate_left
  ·simp only [Act.put, List.setIfInBounds_toArray, List.set_cons_zero, List.set_cons_succ, i64_w, i32_w]
   rfl
  refine pure_ (i := 8) (N := some 5) (v := ?_) (a' := ?_) #[true, true, true, true, true, true, false, true, true, false] rfl rfl (any_of HT_.out (by kernel_rfl)) (fun _ _ _ h => h) (Or.inl ⟨by rfl, ?_⟩) ?_ ?_
  rotate_left
  ·intro w'
   go_simp
   with_reducible rfl
  rotate_left
  ·simp only [Act.put, List.setIfInBounds_toArray, List.set_cons_zero, List.set_cons_succ, i64_w, i32_w]
   rfl
  refine take_ (i := 6) (N := some 34) (v := ?_) (a' := ?_) #[true, true, true, true, true, true, true, true, true, false] rfl rfl (take_ofW HT_.out HW_.out (by kernel_rfl)) (fun _ _ _ h => h) (Or.inl ⟨by rfl, ?_⟩) hHeld ?_ ?_
  rotate_left
  ·rintro w' ⟨s0, s1⟩
   go_simp
   with_reducible rfl
  rotate_left
  ·simp only [Act.put, List.setIfInBounds_toArray, List.set_cons_zero, List.set_cons_succ, i64_w, i32_w]
   rfl
  refine pure_ (i := 9) (N := some 6) (v := ?_) (a' := ?_) #[true, true, true, true, true, true, true, true, true, true] rfl rfl (any_of HT_.out (by kernel_rfl)) (fun _ _ _ h => h) (Or.inl ⟨by rfl, ?_⟩) ?_ ?_
  rotate_left
  ·intro w'
   go_simp
   with_reducible rfl
  rotate_left
  ·simp only [Act.put, List.setIfInBounds_toArray, List.set_cons_zero, List.set_cons_succ, i64_w, i32_w]
   rfl
  refine done_ (done_of HT_.out (by kernel_rfl)) ?_
  clear HT_
  go_wp2
  refine bodyPost_ret (results_tmp3 rfl _ _ _) rfl ?_
  exact ⟨rfl, HB.out⟩
end Go.Proofs.YtphehoidkmficaaGreatDoor
end
section

section
namespace Go.Proofs.YtphehoidkmficaaGreatDoor.Ref
open Go.RowKit Go.Proofs.YtphehoidkmficaaGreatDoor Go.Proofs.YtphehoidkmficaaGreatDoor.PA Go.Proofs.YtphehoidkmficaaGreatDoorW.PrintWords Go.Proofs.YtphehoidkmficaaGreatDoorW.PrintLast
set_option linter.unusedVariables false
def manyC (c : UInt8) : Int := if c = 97 then 0 else if c = 116 then 0 else match kind1 c with | some _ => 1 | none => match kind2 c with | some _ => 2 | none => -1
theorem many_fin : ∀ c : Fin 256, letterlockref3_many.f 2 ((c.val : Nat) : Int) = some (manyC (UInt8.ofNat c.val)) := by decide +kernel
theorem many_ev (c : UInt8) : Ev (fun k => letterlockref3_many.f k (c.toNat : Int)) (manyC c) := by
 refine Ev.of (k := 2) (letterlockref3_many.mono _) ?_
 have := many_fin ⟨c.toNat, c.toNat_lt⟩
 simpa using this
def sizeF (d : Nat) (l : Bs) : Int := match parse d l with | some (t, _) => ((enc t).length : Int) | none => 0
theorem size_end {s : ByteArray} {c : UInt8} {l : Bs} (hs : bytes s = c :: l) (a x : Int) (m : Int) (hm : manyC c ≤ m) : Ev (fun k => letterlockref3_size.l0 k s a x m) x := by
 have hsz : s.size = l.length + 1 := by rw [← bytes_length, hs, List.length_cons]
 have hb0 : bt s 0 = (c.toNat : Int) := by
  have := bt_bytes s 0 (by omega)
  simp only [hs, List.getElem_cons_zero] at this
  exact this
 refine Ev.step (fun _ => rfl) (Ev.pos (by omega) ?_)
 rw [hb0]
 exact Ev.bind (many_ev c) (Ev.neg (by omega) (Ev.now _))
theorem size_more {s : ByteArray} {c : UInt8} {l : Bs} (hs : bytes s = c :: l) (a x m v : Int) (hm : m < manyC c) (hb : c ≠ 98 ∨ m ≠ 0) (h : Ev (fun k => letterlockref3_size.j3 k s a x m false) v) :
  Ev (fun k => letterlockref3_size.l0 k s a x m) v := by
 have hsz : s.size = l.length + 1 := by rw [← bytes_length, hs, List.length_cons]
 have hb0 : bt s 0 = (c.toNat : Int) := by
  have := bt_bytes s 0 (by omega)
  simp only [hs, List.getElem_cons_zero] at this
  exact this
 refine Ev.step (fun _ => rfl) (Ev.pos (by omega) ?_)
 rw [hb0]
 refine Ev.bind (many_ev c) (Ev.pos hm ?_)
 by_cases h98 : c = 98
 ·refine Ev.pos (by rw [h98]; rfl) (Ev.neg ?_ h)
  rcases hb with hb | hb
  ·exact absurd h98 hb
  ·exact hb
 ·refine Ev.neg (fun e => h98 (UInt8.toNat_inj.1 (by omega : c.toNat = 98))) h
def Told (d : Nat) : Prop := ∀ s : ByteArray, s.size ≤ 4000 → Ev (fun k => letterlockref3_size.f k s (d : Int)) (sizeF d (bytes s))
theorem part_none {d : Nat} (ih : Told d) (hd : d ≤ 40) {s : ByteArray} (hs : s.size ≤ 4000) {x : Nat} (hx : x ≤ s.size) (m : Int) (hp : parse d ((bytes s).drop x) = none) :
  Ev (fun k => letterlockref3_size.j3 k s ((d + 1 : Nat) : Int) (x : Int) m false) 0 := by
 refine Ev.step (fun _ => rfl) (Ev.pos (by omega) ?_)
 rw [Int.toNat_natCast, show wrap64 (((d + 1 : Nat) : Int) - 1) = (d : Int) from by rw [w64 (by omega) (by omega)]; omega]
 have h := ih (s.extract x s.size) (by rw [← bytes_length, bytes_from, List.length_drop, bytes_length]; omega)
 rw [bytes_from, show sizeF d ((bytes s).drop x) = 0 from by unfold sizeF; rw [hp]] at h
 exact Ev.bind h (Ev.pos rfl (Ev.now _))
theorem part_some {d : Nat} (ih : Told d) (hd : d ≤ 40) {s : ByteArray} (hs : s.size ≤ 4000) {x : Nat} (hx : x ≤ s.size) (m : Nat) (hm : m ≤ 5) {t : T} {r : Bs} (hp : parse d ((bytes s).drop x) = some (t, r)) {v : Int}
  (h1 : Ev (fun k => letterlockref3_size.l0 k s ((d + 1 : Nat) : Int) ((x + (enc t).length : Nat) : Int) ((m + 1 : Nat) : Int)) v) :
  Ev (fun k => letterlockref3_size.j3 k s ((d + 1 : Nat) : Int) (x : Int) (m : Int) false) v := by
 refine Ev.step (fun _ => rfl) (Ev.pos (by omega) ?_)
 rw [Int.toNat_natCast, show wrap64 (((d + 1 : Nat) : Int) - 1) = (d : Int) from by rw [w64 (by omega) (by omega)]; omega]
 have h := ih (s.extract x s.size) (by rw [← bytes_length, bytes_from, List.length_drop, bytes_length]; omega)
 have hz : sizeF d ((bytes s).drop x) = ((enc t).length : Int) := by unfold sizeF; rw [hp]
 rw [bytes_from, hz] at h
 have hl := enc_pos t
 have hl2 : (enc t).length ≤ 4000 := by
  have := congrArg List.length (parse_inv _ _ _ _ hp).1
  rw [List.length_drop, bytes_length, List.length_append] at this
  omega
 refine Ev.bind h (Ev.neg (by omega) ?_)
 rw [w64 (n := (x : Int) + _) (by omega) (by omega), w64 (n := (m : Int) + 1) (by omega) (by omega)]
 exact h1
theorem told (d : Nat) (hd : d ≤ 40) : Told d := by
 induction d with
 | zero =>
  intro s hs
  refine Ev.step (fun _ => rfl) ?_
  by_cases h0 : s.toList = ([] : List UInt8)
  ·exact Ev.pos h0 (Ev.step (fun _ => rfl) (Ev.now _))
  ·exact Ev.neg h0 (Ev.step (fun _ => rfl) (Ev.now _))
 | succ d ih =>
  have ih := ih (by omega)
  intro s hs
  refine Ev.step (fun _ => rfl) ?_
  cases hb : bytes s with
  | nil => exact Ev.pos (by rw [bytes_toList, hb]) (Ev.step (fun _ => rfl) (Ev.now _))
  | cons c l =>
   have hsz : s.size = l.length + 1 := by rw [← bytes_length, hb, List.length_cons]
   have hb0 : bt s 0 = (c.toNat : Int) := by
    have := bt_bytes s 0 (by omega)
    simp only [hb, List.getElem_cons_zero] at this
    exact this
   have hx : s.extract 1 s.size = ofBytes l := bs_inj (by rw [bytes_from, hb, bytes_ofBytes]; rfl)
   have hd1 : (bytes s).drop 1 = l := by rw [hb]; rfl
   refine Ev.neg (by rw [bytes_toList, hb]; simp) (Ev.neg (by omega) (Ev.pos (by omega) ?_))
   rw [hb0]
   refine Ev.bind (many_ev c) ?_
   unfold sizeF
   simp only [parse]
   by_cases h97 : c = 97
   ·subst h97
    rw [show manyC 97 = 0 from rfl, if_pos rfl]
    refine Ev.step (fun _ => rfl) (Ev.pos (by omega) ?_)
    rw [hb0]
    refine Ev.pos rfl (Ev.step (fun _ => rfl) (Ev.pos (by omega) ?_))
    rw [hx, hb0]
    refine Ev.bind (refTake_ev (ofBytes l)) (Ev.pos (by omega) (Ev.neg (by decide) ?_))
    unfold takeF
    rw [bytes_ofBytes]
    cases ht : takeL l with
    | none => exact Ev.neg (by simp) (Ev.now _)
    | some y =>
     obtain ⟨n, r⟩ := y
     have := congrArg List.length (take_inv ht).1
     rw [List.length_append] at this
     refine Ev.pos rfl (Ev.const ?_)
     simp only [Option.map_some, size_ofBytes, enc, List.length_cons]
     rw [w64 (by omega) (by omega)]
     congr 1
     omega
   rw [if_neg h97]
   have hn97 : ¬ (c.toNat : Int) = 97 := fun e => h97 (UInt8.toNat_inj.1 (by omega : c.toNat = 97))
   by_cases h116 : c = 116
   ·subst h116
    rw [show manyC 116 = 0 from rfl, if_pos rfl]
    refine Ev.step (fun _ => rfl) (Ev.pos (by omega) ?_)
    rw [hb0]
    refine Ev.neg (by decide) (Ev.step (fun _ => rfl) (Ev.pos (by omega) ?_))
    rw [hx, hb0]
    refine Ev.bind (refTake_ev (ofBytes l)) (Ev.pos (by omega) (Ev.pos rfl (Ev.bind (refTakeText_ev (ofBytes l) (by rw [size_ofBytes]; omega)) ?_)))
    unfold takeTextF takeT
    rw [bytes_ofBytes]
    cases ht : takeL l with
    | none => exact Ev.neg (by simp) (Ev.now _)
    | some y =>
     obtain ⟨n, r⟩ := y
     simp only
     by_cases h1 : 4000 < n
     ·rw [if_pos h1, if_pos h1]; exact Ev.neg (by simp) (Ev.now _)
     rw [if_neg h1, if_neg h1]
     by_cases h2 : r.length < n
     ·rw [if_pos h2, if_pos h2]; exact Ev.neg (by simp) (Ev.now _)
     rw [if_neg h2, if_neg h2]
     have := congrArg List.length (take_inv ht).1
     rw [List.length_append] at this
     refine Ev.pos rfl (Ev.const ?_)
     have hlt : (r.take n).length = n := by rw [List.length_take]; omega
     simp only [Option.map_some, size_ofBytes, enc, List.length_cons, putT, List.length_append, hlt, List.length_drop]
     rw [w64 (by omega) (by omega)]
     congr 1
     omega
   rw [if_neg h116]
   have hn116 : ((c.toNat : Int) == 116) = false := beq_eq_false_iff_ne.mpr fun e => h116 (UInt8.toNat_inj.1 (by omega : c.toNat = 116))
   have hgo : ∀ v, 0 ≤ manyC c → Ev (fun k => letterlockref3_size.l0 k s ((d + 1 : Nat) : Int) ((1 : Nat) : Int) ((0 : Nat) : Int)) v → Ev (fun k => letterlockref3_size.j0 k s ((d + 1 : Nat) : Int) (decide (manyC c < 0))) v := by
    intro v hm h
    rw [decide_eq_false (by omega)]
    refine Ev.step (fun _ => rfl) (Ev.pos (by omega) ?_)
    rw [hb0, hn116]
    exact Ev.neg hn97 (Ev.step (fun _ => rfl) h)
   cases hk1 : kind1 c with
   | some k =>
    have hm : manyC c = 1 := by unfold manyC; rw [if_neg h97, if_neg h116, hk1]
    have hc98 : c ≠ 98 := by rintro rfl; simp [kind1] at hk1
    refine hgo _ (by omega) (size_more hb _ _ _ _ (by omega) (Or.inl hc98) ?_)
    cases hp : parse d l with
    | none => exact part_none ih (by omega) hs (by omega) _ (by rw [hd1]; exact hp)
    | some y =>
     obtain ⟨t, r⟩ := y
     refine part_some ih (by omega) hs (by omega) 0 (by omega) (by rw [hd1]; exact hp) ?_
     refine ev_cast (size_end hb _ _ _ (by omega)) ?_
     simp only [Option.map_some, enc, List.length_cons]
     omega
   | none =>
    simp only
    cases hk2 : kind2 c with
    | none =>
     have hm : manyC c = -1 := by unfold manyC; rw [if_neg h97, if_neg h116, hk1]; simp only; rw [hk2]
     rw [hm]
     exact Ev.step (fun _ => rfl) (Ev.now _)
    | some k =>
     have hm : manyC c = 2 := by unfold manyC; rw [if_neg h97, if_neg h116, hk1]; simp only; rw [hk2]
     refine hgo _ (by omega) ?_
     have hc98 : c = 98 ↔ k = .b := by
      rw [kind2_inv hk2]
      cases k <;> decide
     -- the parts, where nothing bars a box
     have hparts : (k = .b → l.head? = some 117) → Ev (fun k => letterlockref3_size.j3 k s ((d + 1 : Nat) : Int) ((1 : Nat) : Int) ((0 : Nat) : Int) false)
       (match (parse d l).bind fun x => (parse d x.2).bind fun y => if k = .b ∧ x.1.isPub = false then none else some (T.two k x.1 y.1, y.2) with | some (t, _) => ((enc t).length : Int) | none => 0) := by
      intro hpub
      cases hp : parse d l with
      | none => exact part_none ih (by omega) hs (by omega) _ (by rw [hd1]; exact hp)
      | some y =>
       obtain ⟨t, r⟩ := y
       have hi := (parse_inv _ _ _ _ hp).1
       have hl := congrArg List.length hi
       rw [List.length_append] at hl
       refine part_some ih (by omega) hs (by omega) 0 (by omega) (by rw [hd1]; exact hp) (size_more hb _ _ _ _ (by omega) (Or.inr (by omega)) ?_)
       have hd2 : (bytes s).drop (1 + (enc t).length) = r := by rw [← List.drop_drop, hd1, hi, List.drop_left]
       simp only [Option.bind_some]
       cases hq : parse d r with
       | none => exact part_none ih (by omega) hs (by omega) _ (by rw [hd2]; exact hq)
       | some y =>
        obtain ⟨u, q⟩ := y
        refine part_some ih (by omega) hs (by omega) 1 (by omega) (by rw [hd2]; exact hq) ?_
        refine ev_cast (size_end hb _ _ _ (by omega)) ?_
        simp only [Option.bind_some]
        rw [if_neg]
        ·simp only [enc, List.length_cons, List.length_append]
         omega
        ·rintro ⟨e1, e2⟩
         have h3 := hpub e1
         rw [hi] at h3
         cases t with
         | atom n => simp [enc] at h3
         | text n => simp [enc] at h3
         | one k2 a => cases k2 <;> simp [enc, K1.code, T.isPub] at h3 e2
         | two k2 a b => cases k2 <;> simp [enc, K2.code] at h3
     by_cases hkb : k = .b
     ·have hc := hc98.2 hkb
      have hbad : l.head? ≠ some 117 → (match (parse d l).bind fun x => (parse d x.2).bind fun y => if k = .b ∧ x.1.isPub = false then none else some (T.two k x.1 y.1, y.2) with | some (t, _) => ((enc t).length : Int) | none => 0) = 0 := by
       intro hh
       cases hp : parse d l with
       | none => rfl
       | some y =>
        obtain ⟨t, r⟩ := y
        have hi := (parse_inv _ _ _ _ hp).1
        have hnp : t.isPub = false := by
         cases t with
         | atom n => rfl
         | text n => rfl
         | one k2 a =>
          cases k2 with
          | h => rfl
          | u => rw [hi] at hh; exact absurd rfl hh
         | two k2 a b => rfl
        simp only [Option.bind_some]
        cases parse d r with
        | none => rfl
        | some y =>
         simp only [Option.bind_some]
         rw [if_pos ⟨hkb, hnp⟩]
      refine Ev.step (fun _ => rfl) (Ev.pos (by omega) ?_)
      rw [hb0]
      refine Ev.bind (many_ev c) (Ev.pos (by omega) (Ev.pos (by rw [hc]; rfl) (Ev.pos rfl ?_)))
      cases hl : l with
      | nil =>
       subst hl
       rw [hbad (by simp)]
       exact Ev.pos (by simp only [List.length_nil] at hsz; omega) (Ev.step (fun _ => rfl) (Ev.now _))
      | cons c1 l1 =>
       have hb1 : bt s ((1 : Nat) : Int) = (c1.toNat : Int) := by
        have := bt_bytes s 1 (by rw [hsz, hl, List.length_cons]; omega)
        simp only [hb, hl, List.getElem_cons_succ, List.getElem_cons_zero] at this
        exact this
       have hl1 : l.length = l1.length + 1 := by rw [hl, List.length_cons]
       refine Ev.neg (by omega) (Ev.pos (by omega) (Ev.pos (by omega) ?_))
       rw [hb1, ← hl]
       by_cases h117 : c1 = 117
       ·rw [show ((c1.toNat : Int) != 117) = false from by rw [h117]; rfl]
        exact hparts fun _ => by rw [hl, h117]; rfl
       ·rw [show ((c1.toNat : Int) != 117) = true from bne_iff_ne.mpr fun e => h117 (UInt8.toNat_inj.1 (by omega : c1.toNat = 117)), hbad (by rw [hl]; simpa using h117)]
        exact Ev.step (fun _ => rfl) (Ev.now _)
     ·exact size_more hb _ _ _ _ (by omega) (Or.inl (fun e => hkb (hc98.1 e))) (hparts fun e => absurd e hkb)
theorem refRight_ev (s : ByteArray) : Ev (fun k => letterlockref3_Right.f k s) (right s) := by
 unfold letterlockref3_Right.f
 by_cases h0 : s.toList = ([] : List UInt8)
 ·refine ev_cast (Ev.pos h0 (Ev.now _)) ?_
  rw [bytes_toList] at h0
  unfold right termOf
  rw [h0]; rfl
 refine Ev.neg h0 ?_
 by_cases h1 : s.size ≤ 4000
 ·refine Ev.pos (by omega) (Ev.bind (told 40 (by omega) s h1) (Ev.const (congrArg some ?_)))
  unfold right termOf sizeF
  rw [if_pos (by rw [bytes_length]; exact h1)]
  cases hp : parse 40 (bytes s) with
  | none =>
   simp only [Option.isSome_none]
   refine beq_eq_false_iff_ne.mpr fun e => h0 ?_
   rw [bytes_toList]
   refine List.length_eq_zero_iff.1 ?_
   rw [bytes_length]; omega
  | some y =>
   obtain ⟨t, r⟩ := y
   have hl := congrArg List.length (parse_inv _ _ _ _ hp).1
   rw [bytes_length, List.length_append] at hl
   cases r with
   | nil =>
    simp only [List.length_nil, Option.isSome_some] at hl ⊢
    exact beq_iff_eq.mpr (by omega)
   | cons c r =>
    simp only [List.length_cons, Option.isSome_none] at hl ⊢
    exact beq_eq_false_iff_ne.mpr (by omega)
 ·rw [right_big (by omega)]
  exact Ev.neg (by omega) (Ev.now _)
end Go.Proofs.YtphehoidkmficaaGreatDoor.Ref
end
section
namespace Go.Proofs.YtphehoidkmficaaGreatDoor.Ref
open Go.RowKit Go.Proofs.YtphehoidkmficaaGreatDoor Go.Proofs.YtphehoidkmficaaGreatDoor.PA Go.Proofs.YtphehoidkmficaaGreatDoorW.PrintWords Go.Proofs.YtphehoidkmficaaGreatDoorW.PrintLast
set_option linter.unusedVariables false
theorem made_ev (s : ByteArray) : Ev (fun k => letterlockref3_made.f k s) (if right s = true then (s, 0) else (⟨#[]⟩, 10)) := by
 unfold letterlockref3_made.f
 refine Ev.bind (refRight_ev s) ?_
 by_cases h : right s = true
 ·simp only [if_pos h]; exact Ev.now _
 ·simp only [if_neg h]; exact Ev.now _
theorem refText_ev (s : ByteArray) (h : s.size ≤ 100000000000000) : Ev (fun k => letterlockref3_OfText.f k s) (textF s) := by
 have hw : IntKind.u64.wrap (s.size : Int) = (s.size : Int) := by rw [IntKind.wrap_u64]; omega
 have h1 := size_numB (n := s.size) (by omega)
 have h2 : (numB s.size ++ s).size ≤ 100000000000009 := by rw [ByteArray.size_append]; omega
 have hp : Ev (fun k => letterlockref2_PutText.f k s) (numB s.size ++ s) := by
  unfold letterlockref2_PutText.f
  rw [hw]
  exact Ev.bind (refPut_ev s.size (by omega)) (Ev.pos (by omega) (Ev.now _))
 unfold letterlockref3_OfText.f
 refine Ev.bind hp (Ev.pos (by omega) (Ev.bind (made_ev (textB s)) (ev_cast (Ev.now _) ?_)))
 rw [textF_right]
theorem one_ev (c : UInt8) (s : ByteArray) : Ev (fun k => letterlockref3_one.f k ⟨#[c]⟩ s) (ofF ⟨#[c]⟩ [s]) := by
 unfold letterlockref3_one.f ofF
 refine Ev.bind (refRight_ev s) ?_
 cases h : right s with
 | false =>
  rw [if_neg (by simp [h])]
  exact Ev.neg (by simp) (Ev.now _)
 | true =>
  rw [if_pos (by simp [h])]
  have hs := right_size h
  refine Ev.pos rfl (Ev.pos (by rw [size_one]; omega) (Ev.bind (made_ev (⟨#[c]⟩ ++ s)) (ev_cast (Ev.now _) ?_)))
  rfl
theorem two_ev (c : UInt8) (s t : ByteArray) : Ev (fun k => letterlockref3_two.f k ⟨#[c]⟩ s t) (ofF ⟨#[c]⟩ [s, t]) := by
 unfold letterlockref3_two.f ofF
 refine Ev.bind (refRight_ev s) ?_
 cases h : right s with
 | false =>
  rw [if_neg (by simp [h])]
  exact Ev.neg (by simp) (Ev.now _)
 | true =>
  refine Ev.pos rfl (Ev.bind (refRight_ev t) ?_)
  cases h2 : right t with
  | false =>
   rw [if_neg (by simp [h2])]
   exact Ev.neg (by simp) (Ev.now _)
  | true =>
   rw [if_pos (by simp [h, h2])]
   have hs := right_size h
   have ht := right_size h2
   refine Ev.pos rfl (Ev.pos (by rw [size_one]; omega) (Ev.pos (by rw [ByteArray.size_append, size_one]; omega) (Ev.bind (made_ev ((⟨#[c]⟩ ++ s) ++ t)) (ev_cast (Ev.now _) ?_))))
   rfl
theorem refHash_ev (s : ByteArray) : Ev (fun k => letterlockref3_OfHash.f k s) (hashF s) := by
 unfold letterlockref3_OfHash.f
 exact Ev.bind (one_ev 104 s) (Ev.now _)
theorem refPublic_ev (s : ByteArray) : Ev (fun k => letterlockref3_OfPublic.f k s) (ofF ⟨#[117]⟩ [s]) := by
 unfold letterlockref3_OfPublic.f
 exact Ev.bind (one_ev 117 s) (Ev.now _)
theorem refPair_ev (s t : ByteArray) : Ev (fun k => letterlockref3_OfPair.f k s t) (pairF s t) := by
 unfold letterlockref3_OfPair.f
 exact Ev.bind (two_ev 112 s t) (Ev.now _)
theorem refAtom_ev (n : Nat) (h : n < 18446744073709551616) : Ev (fun k => letterlockref3_OfAtom.f k (n : Int)) (atomB n) := by
 unfold letterlockref3_OfAtom.f
 have := size_numB h
 exact Ev.bind (refPut_ev n h) (Ev.pos (by omega) (Ev.now _))
end Go.Proofs.YtphehoidkmficaaGreatDoor.Ref
end
end
section

namespace Go.Proofs.YtphehoidkmficaaGreatDoor.Ref
open Go.RowKit Go.Proofs.YtphehoidkmficaaGreatDoor Go.Proofs.YtphehoidkmficaaGreatDoor.PA Go.Proofs.YtphehoidkmficaaGreatDoorW.PrintWords Go.Proofs.YtphehoidkmficaaGreatDoorW.PrintLast
set_option linter.unusedVariables false
theorem ref5Secret_ev (a b : ByteArray) (n : Nat) (ha : a.size ≤ 1000000) (hb : b.size ≤ 1000000) (h : n < 18446744073709551616) :
  Ev (fun k => letterlockref5_Secret.f k a b (n : Int)) (secretF a b n) := by
 have hs := nameB_size a b
 unfold letterlockref5_Secret.f secretF
 refine Ev.pos (by omega) (Ev.pos (by rw [ByteArray.size_append, size_one]; omega) (Ev.bind (refText_ev (nameB a b) (by omega)) ?_))
 by_cases h0 : (textF (nameB a b)).2 = 0
 ·rw [if_pos h0]
  refine Ev.pos h0 (Ev.bind (refAtom_ev n h) (Ev.bind (refPair_ev (textF (nameB a b)).1 (atomB n)) ?_))
  by_cases h1 : (pairF (textF (nameB a b)).1 (atomB n)).2 = 0
  ·rw [if_pos h1]
   exact Ev.pos h1 (Ev.bind (refHash_ev _) (Ev.now _))
  ·rw [if_neg h1]
   exact Ev.neg h1 (Ev.now _)
 ·rw [if_neg h0]
  exact Ev.neg h0 (Ev.now _)
theorem ref6_loop (m : Nat) (s : ByteArray) (n : Int) (hm : n = m) (hn : n ≤ 9223372036854775807) : Ev (fun k => letterlockref6_Back.l0 k s n) (hashesF m s) := by
 induction m generalizing s n with
 | zero => exact Ev.step (fun _ => rfl) (Ev.neg (by omega) (Ev.now _))
 | succ m ih =>
  refine Ev.step (fun _ => rfl) (Ev.pos (by omega) (Ev.bind (refHash_ev s) ?_))
  unfold hashesF
  by_cases h0 : (hashF s).2 = 0
  ·rw [if_pos h0]
   refine Ev.pos h0 ?_
   rw [w64 (by omega) (by omega)]
   exact ih _ _ (by omega) (by omega)
  ·rw [if_neg h0]
   exact Ev.neg h0 (Ev.now _)
theorem ref6Back_ev (s : ByteArray) (n : Int) (hn : n ≤ 9223372036854775807) : Ev (fun k => letterlockref6_Back.f k s n) (backF s n) := by
 unfold letterlockref6_Back.f backF
 refine Ev.bind (refRight_ev s) ?_
 cases hr : right s with
 | false =>
  rw [if_neg (by simp)]
  exact Ev.neg (by simp) (Ev.step (fun _ => rfl) (Ev.now _))
 | true =>
  rw [if_pos rfl]
  refine Ev.pos rfl ?_
  by_cases h0 : n < 0
  ·rw [if_pos h0]
   exact Ev.step (fun _ => rfl) (Ev.pos (decide_eq_true h0) (Ev.now _))
  ·rw [if_neg h0]
   exact Ev.step (fun _ => rfl) (Ev.neg (by simpa using h0) (ref6_loop n.toNat s n (by omega) hn))
theorem ref6State_ev (s : ByteArray) (e : Int) : Ev (fun k => letterlockref6_State.f k s e) (stateF s e) := by
 unfold letterlockref6_State.f stateF
 refine Ev.bind (refRight_ev s) ?_
 cases hr : right s with
 | false =>
  rw [if_neg (by simp)]
  exact Ev.neg (by simp) (Ev.now _)
 | true =>
  rw [if_pos rfl]
  refine Ev.pos rfl ?_
  by_cases h0 : e < 0
  ·rw [if_pos h0]; exact Ev.pos h0 (Ev.now _)
  rw [if_neg h0]
  refine Ev.neg h0 ?_
  by_cases h1 : 7 < e
  ·rw [if_pos h1]; exact Ev.pos (by omega) (Ev.now _)
  rw [if_neg h1]
  refine Ev.neg (by omega) ?_
  rw [w64 (by omega) (by omega)]
  exact Ev.bind (ref6Back_ev s (7 - e) (by omega)) (Ev.now _)
end Go.Proofs.YtphehoidkmficaaGreatDoor.Ref
namespace Go.Proofs.YtphehoidkmficaaGreatDoor
open Go.RowKit Go.Proofs.YtphehoidkmficaaGreatDoorW.PrintWords Go.Proofs.YtphehoidkmficaaGreatDoorW.PrintLast Go.Proofs.YtphehoidkmficaaGreatDoor.Ref Go.Proofs.YtphehoidkmficaaGreatDoor.PA
set_option linter.unusedVariables false
def pickN (c : Int) (n : Nat) : Nat := if c < 0 then ((-(c + 1)).toNat) % n else c.toNat % n
theorem pick_lt (c : Int) {n : Nat} (h : 0 < n) : pickN c n < n := by unfold pickN; split <;> exact Nat.mod_lt _ h
abbrev I64 (c : Int) : Prop := -9223372036854775808 ≤ c ∧ c ≤ 9223372036854775807
theorem u64_of {n : Nat} (h : n < 18446744073709551616) : IntKind.u64.wrap (n : Int) = (n : Int) := by rw [IntKind.wrap_u64]; omega
theorem secret_root {n : Nat} (h : n < 1000) : secretF rootB xB n = (tm (rT n), 0) := secret_tm rootB xB n (by decide) (by omega)
theorem secret_sign {n : Nat} (h : n < 1000) : secretF signB xB n = (tm (sT n), 0) := secret_tm signB xB n (by decide) (by omega)
theorem state_call {r e : Nat} (hr : r < 1000) (he : e ≤ 7) (W : World) : Calls Tryz.prog 32 #[.string (tm (rT r)), .int .i64 e] W fun e' w' => e' = .returned (.tuple #[.string (tm (hT (7 - e) (rT r))), .int .i64 0]) ∧ Below W.heap.size W w' := by
 have h := ref6State_ev (tm (rT r)) e
 rw [state_tm e 3 (rT r) he (rT_ok hr).1 (by omega) (by have := (rT_ok hr).2; omega)] at h
 obtain ⟨k, hk⟩ := ev_some h
 exact letterlockref6_State.calls k _ _ _ _ W hk
theorem pubs_succ (n : Nat) : pubs (n + 1) = pubs n ++ [tm (.one .u (sT n))] := by simp [pubs, List.range_succ]
theorem take_empty : takeBl ⟨#[]⟩ = (noBl, 2) := by
 unfold takeBl
 rw [if_neg]
 intro h
 exact absurd h.1 (by decide +kernel)
def notes : ByteArray := ⟨#[97, 110, 110, 97, 47, 110, 111, 116, 101, 115]⟩
theorem anna_right : rightN [97, 110, 110, 97] = true := by decide +kernel
theorem notes_right : rightN [110, 111, 116, 101, 115] = true := by decide +kernel
theorem split_notes : (splitF notes).2.2 = 0 := by
 have h := split_path (a := ⟨#[97, 110, 110, 97]⟩) (b := ⟨#[110, 111, 116, 101, 115]⟩) anna_right notes_right
 rw [show ((⟨#[97, 110, 110, 97]⟩ ++ ⟨#[47]⟩) ++ ⟨#[110, 111, 116, 101, 115]⟩ : ByteArray) = notes from bs_inj (by rw [bytes_append, bytes_append]; rfl)] at h
 rw [h]
theorem pubs_small (n : Nat) (h : n ≤ 1000) : ∀ v ∈ pubs n, v.size ≤ 1000000 := by
 intro v hv
 simp only [pubs, List.mem_map, List.mem_range] at hv
 obtain ⟨i, hi, rfl⟩ := hv
 have := right_size (right_tm (pub_ok (i := i) (by omega)))
 omega
end Go.Proofs.YtphehoidkmficaaGreatDoor
end
section

namespace Go.Proofs.YtphehoidkmficaaGreatDoor
open Go.RowKit Go.Proofs.YtphehoidkmficaaGreatDoorW.PrintWords Go.Proofs.YtphehoidkmficaaGreatDoorW.PrintLast Go.Proofs.YtphehoidkmficaaGreatDoor.Ref Go.Proofs.YtphehoidkmficaaGreatDoor.PA
set_option linter.unusedVariables false
set_option linter.unusedSimpArgs false
theorem pick17_val (c : Int) (n : Nat) (h0 : 0 < n) (hn : n ≤ 1000000) (hc : I64 c) : letterlocklaw17_pick.f c n = some ((pickN c n : Nat) : Int) := by
 unfold letterlocklaw17_pick.f pickN
 by_cases h : c < 0
 ·rw [if_pos h, if_neg (by omega), if_pos h]
  rw [w64 (n := c + 1) (by omega) (by omega), w64 (n := -(c + 1)) (by omega) (by omega)]
  refine congrArg some ?_
  rw [Int.tmod_eq_emod_of_nonneg (by omega)]
  have : ((-(c + 1)).toNat : Int) = -(c + 1) := by omega
  rw [Int.natCast_emod, this]
 ·rw [if_neg h, if_neg (by omega), if_neg h]
  refine congrArg some ?_
  rw [Int.tmod_eq_emod_of_nonneg (by omega)]
  have : (c.toNat : Int) = c := by omega
  rw [Int.natCast_emod, this]
theorem pick17_call (c : Int) (n : Nat) (h0 : 0 < n) (hn : n ≤ 1000000) (hc : I64 c) (w : World) :
  Calls Tryz.prog 22 #[.int .i64 c, .int .i64 n] w fun e w' => e = .returned (.int .i64 (pickN c n : Nat)) ∧ Below w.heap.size w w' :=
 (letterlocklaw17_pick.calls c n _ w (pick17_val c n h0 hn hc)).mono fun e w' h => ⟨h.1, h.2.below⟩
theorem rootS_call {n : Nat} (h : n < 1000) (W : World) : Calls Tryz.prog 78 #[.string ⟨#[114, 111, 111, 116]⟩, .string ⟨#[120]⟩, .int .u64 n] W fun e w' => e = .returned (.tuple #[.string (tm (rT n)), .int .i64 0]) ∧ Below W.heap.size W w' := by
 have hs := ref5Secret_ev rootB xB n (by decide) (by decide) (by omega)
 rw [secret_root h] at hs
 obtain ⟨k, hk⟩ := ev_some hs
 exact letterlockref5_Secret.calls k _ _ _ _ _ W hk
theorem signS_call {n : Nat} (h : n < 1000) (W : World) : Calls Tryz.prog 78 #[.string ⟨#[115, 105, 103, 110]⟩, .string ⟨#[120]⟩, .int .u64 n] W fun e w' => e = .returned (.tuple #[.string (tm (sT n)), .int .i64 0]) ∧ Below W.heap.size W w' := by
 have hs := ref5Secret_ev signB xB n (by decide) (by decide) (by omega)
 rw [secret_sign h] at hs
 obtain ⟨k, hk⟩ := ev_some hs
 exact letterlockref5_Secret.calls k _ _ _ _ _ W hk
theorem pubS_call {n : Nat} (h : n < 1000) (W : World) : Calls Tryz.prog 79 #[.string (tm (sT n))] W fun e w' => e = .returned (.tuple #[.string (tm (.one .u (sT n))), .int .i64 0]) ∧ Below W.heap.size W w' := by
 have hp := refPublic_ev (tm (sT n))
 rw [show ofF (⟨#[117]⟩ : ByteArray) [tm (sT n)] = _ from public_tm (pub_ok (i := n) h)] at hp
 obtain ⟨k, hk⟩ := ev_some hp
 exact letterlockref3_OfPublic.calls k _ _ _ W hk
def sgAt : Nat → ByteArray
 | 0 => ⟨#[]⟩
 | k + 1 => tm (sT k)
theorem put5 {w W : World} (hb : Below w.heap.size w W) {b : Nat} {x1 x2 x3 x4 x5 : Value} {t : TypeId} (h : W.heap[b]? = some (.cells #[x1, x2, x3, x4, x5] t (0, 0))) (hn : w.heap.size ≤ b) (y1 y2 y3 y4 y5 : Value) :
  (((((W.setCell ⟨b, 0, none⟩ y1).setCell ⟨b, 1, none⟩ y2).setCell ⟨b, 2, none⟩ y3).setCell ⟨b, 3, none⟩ y4).setCell ⟨b, 4, none⟩ y5).heap[b]? = some (.cells #[y1, y2, y3, y4, y5] t (0, 0)) ∧ Below w.heap.size w (((((W.setCell ⟨b, 0, none⟩ y1).setCell ⟨b, 1, none⟩ y2).setCell ⟨b, 2, none⟩ y3).setCell ⟨b, 3, none⟩ y4).setCell ⟨b, 4, none⟩ y5)
   ∧ Moved (· = b) W (((((W.setCell ⟨b, 0, none⟩ y1).setCell ⟨b, 1, none⟩ y2).setCell ⟨b, 2, none⟩ y3).setCell ⟨b, 3, none⟩ y4).setCell ⟨b, 4, none⟩ y5) := by
 have m : Moved (· = b) W (((((W.setCell ⟨b, 0, none⟩ y1).setCell ⟨b, 1, none⟩ y2).setCell ⟨b, 2, none⟩ y3).setCell ⟨b, 3, none⟩ y4).setCell ⟨b, 4, none⟩ y5) :=
  ((((Moved.setCell (S := (· = b)) W (a := ⟨b, 0, none⟩) rfl y1).trans (Moved.setCell (S := (· = b)) _ (a := ⟨b, 1, none⟩) rfl y2)).trans (Moved.setCell (S := (· = b)) _ (a := ⟨b, 2, none⟩) rfl y3)).trans (Moved.setCell (S := (· = b)) _ (a := ⟨b, 3, none⟩) rfl y4)).trans (Moved.setCell (S := (· = b)) _ (a := ⟨b, 4, none⟩) rfl y5)
 exact ⟨blk_setCell (j := 4) (blk_setCell (j := 3) (blk_setCell (j := 2) (blk_setCell (j := 1) (blk_setCell (j := 0) h)))), Moved.below hb m hb.size (fun k hk => by subst hk; exact hn), m⟩
set_option maxRecDepth 100000 in
set_option maxHeartbeats 4000000 in
theorem keysOf_call (c0 : Int) {x : Nat} (hc0 : I64 c0) (hx : x ≤ 7) (w : World) :
  Calls Tryz.prog 23 #[.int .i64 c0, .int .i64 x] w fun e w' => ∃ A c, e = .returned (.agg #[.string ⟨#[97, 110, 110, 97, 47, 110, 111, 116, 101, 115]⟩, .int .i64 (x : Int), .string (tm (hT (7 - x) (rT (pickN c0 5)))), .string (tm (sT x)), .slice A (pubs (x + 1)).length c]) ∧ (pubs (x + 1)).length ≤ c ∧ Kd.C Kd.string w' A (pubs (x + 1)).length (pubs (x + 1)) ∧ Below w.heap.size w w' := by
 have hr := pick_lt c0 (n := 5) (by omega)
 have HPK := Lib.hid (fun W => pick17_call c0 5 (by omega) (by omega) hc0 W)
 generalize pickN c0 5 = r at *
 have hur : IntKind.u64.wrap (r : Int) = (r : Int) := u64_of (by omega)
 have HRS := Lib.hid (fun W => rootS_call (n := r) (by omega) W)
 have HST := Lib.hid (fun W => state_call (r := r) (e := x) (by omega) hx W)
 generalize tm (hT (7 - x) (rT r)) = st at *
 generalize tm (rT r) = rt at *
 have HR0 := Lib.hid (wnew w (.cells #[.string ⟨#[]⟩, .int .i64 0, .string ⟨#[]⟩, .string ⟨#[]⟩, .slice none 0 0] 45))
 have HB := Lib.hid (below_alloc (Below.refl w.heap.size w) (.cells #[.string ⟨#[]⟩, .int .i64 0, .string ⟨#[]⟩, .string ⟨#[]⟩, .slice none 0 0] 45))
 have HSS := Lib.hid (fun (n : Nat) (h : n ≤ 7) (W : World) => signS_call (n := n) (by omega) W)
 have HPB := Lib.hid (fun (n : Nat) (h : n ≤ 7) (W : World) => pubS_call (n := n) (by omega) W)
 go_enter Tryz.func23, Tryz.ntmps23
 go_wp2_with fail
 refine (HPK.out _).mono ?_
 rintro e W1 ⟨rfl, hb⟩
 replace HR0 := Lib.hid (blk_below HR0.out hb)
 replace HB := Lib.hid (below_step HB.out hb)
 clear hb
 go_wp2_with fail
 refine (HRS.out _).mono ?_
 rintro e W2 ⟨rfl, hb⟩
 replace HR0 := Lib.hid (blk_below HR0.out hb)
 replace HB := Lib.hid (below_step HB.out hb)
 clear hb
 go_wp2_with fail
 refine (HST.out _).mono ?_
 rintro e W3 ⟨rfl, hb⟩
 replace HR0 := Lib.hid (blk_below HR0.out hb)
 replace HB := Lib.hid (below_step HB.out hb)
 clear hb
 have HQ0 : Hid (w.heap.size < W3.heap.size) := Lib.hid (lt_of_block HR0.out)
 replace HR0 := Lib.hid (wkeep HR0.out (.cells #[.string ⟨#[97, 110, 110, 97, 47, 110, 111, 116, 101, 115]⟩, .int .i64 (x : Int), .string st, .string ⟨#[]⟩, .slice none 0 0] 45))
 have HP := Lib.hid (wnew W3 (.cells #[.string ⟨#[97, 110, 110, 97, 47, 110, 111, 116, 101, 115]⟩, .int .i64 (x : Int), .string st, .string ⟨#[]⟩, .slice none 0 0] 45))
 replace HB := Lib.hid (below_alloc HB.out (.cells #[.string ⟨#[97, 110, 110, 97, 47, 110, 111, 116, 101, 115]⟩, .int .i64 (x : Int), .string st, .string ⟨#[]⟩, .slice none 0 0] 45))
 have HSZ : Hid (W3.heap.size < (W3.alloc (.cells #[.string ⟨#[97, 110, 110, 97, 47, 110, 111, 116, 101, 115]⟩, .int .i64 (x : Int), .string st, .string ⟨#[]⟩, .slice none 0 0] 45)).heap.size) := Lib.hid (by simp)
 have HX := Lib.hid (And.intro hx hr)
 clear HPK HRS HST hr hur hx hc0
 go_wp2_with fail
 go_loopw [10] (fun i wr => ∃ (k : Nat) (l : List ByteArray) (A : Option Addr) (c : Nat), k ≤ x + 1 ∧ i = .int .i64 k ∧ l = pubs k ∧ Below w.heap.size w wr ∧ W3.heap.size < wr.heap.size ∧ wr.heap[w.heap.size]? = some (.cells #[.string ⟨#[]⟩, .int .i64 0, .string ⟨#[]⟩, .string ⟨#[]⟩, .slice none 0 0] 45 (0, 0)) ∧ wr.heap[W3.heap.size]? = some (.cells #[.string ⟨#[97, 110, 110, 97, 47, 110, 111, 116, 101, 115]⟩, .int .i64 (x : Int), .string st, .string (sgAt k), .slice A l.length c] 45 (0, 0)) ∧ Kd.R Kd.string 9 wr w.heap.size (fun j => W3.heap.size < j) (.slice A l.length c) l) (fun i _ => 100 - (intOf i).toNat)
 case atStart => exact ⟨0, [], none, 0, by omega, rfl, rfl, HB.out, HSZ.out, HR0.out, HP.out, Kd.R_nil _ _ _ _ _⟩
 case round =>
  obtain ⟨k, l, A, c, hk, rfl, hl, hb0, hq0, h0, hp, ho⟩ := hrel
  clear HB HSZ HR0 HP
  have HB := Lib.hid hb0
  have HQ := Lib.hid hq0
  have HR0 := Lib.hid h0
  have HP := Lib.hid hp
  have HO := Lib.hid ho
  clear hb0 hq0 h0 hp ho
  by_cases hkx : k ≤ x
  ·skip
   have hd : decide ((k : Int) ≤ (x : Int)) = true := decide_eq_true (by omega)
   have hdn : decide (k ≤ x) = true := decide_eq_true hkx
   have hk7 : k ≤ 7 := by have := HX.out.1; omega
   have huk : IntKind.u64.wrap (k : Int) = (k : Int) := u64_of (by omega)
   have HS1 := Lib.hid (fun W => HSS.out k hk7 W)
   have HP1 := Lib.hid (fun W => HPB.out k hk7 W)
   have hap : l ++ [tm (.one .u (sT k))] = pubs (k + 1) := by rw [hl, pubs_succ]
   have hln : l.length ≤ 8 := by rw [hl, pubs_len]; omega
   have HAP := Lib.hid hap
   have HLN := Lib.hid hln
   have hsg : sgAt (k + 1) = tm (sT k) := rfl
   have HSG := Lib.hid hsg
   generalize tm (.one .u (sT k)) = uk at *
   generalize tm (sT k) = sk at *
   have HKX := Lib.hid (And.intro hk hkx)
   generalize sgAt k = s0 at *
   clear hap hln hsg hk hl
   go_wp2_with fail
   refine (HS1.out _).mono ?_
   rintro e V1 ⟨rfl, hb⟩
   replace HR0 := Lib.hid (blk_below HR0.out hb)
   replace HP := Lib.hid (blk_below HP.out hb)
   replace HB := Lib.hid (below_step HB.out hb)
   replace HQ := Lib.hid (Nat.lt_of_lt_of_le HQ.out hb.size)
   replace HO := Lib.hid (Kd.R_below HO.out hb)
   clear hb
   go_wp2_with fail
   refine (HP1.out _).mono ?_
   rintro e V2 ⟨rfl, hb⟩
   replace HR0 := Lib.hid (blk_below HR0.out hb)
   replace HP := Lib.hid (blk_below HP.out hb)
   replace HB := Lib.hid (below_step HB.out hb)
   replace HQ := Lib.hid (Nat.lt_of_lt_of_le HQ.out hb.size)
   replace HO := Lib.hid (Kd.R_below HO.out hb)
   clear hb
   have c3 := cell_of_blk (j := 3) (v := .string s0) HP.out rfl
   have z3 := free_of_blk (j := 3) HP.out
   have y4 := cell_of_blk (j := 4) (v := .slice A l.length c) (blk_setCell (j := 3) (u := .string sk) HP.out) rfl
   have hm := Moved.setCell (S := (· = W3.heap.size)) V2 (a := ⟨W3.heap.size, 3, none⟩) rfl (.string sk)
   have HQw : Hid (w.heap.size ≤ W3.heap.size) := Lib.hid (Nat.le_of_lt HQ0.out)
   replace HR0 := Lib.hid ((hm.block _ (lt_of_block HR0.out) (fun e => by have := HQ0.out; omega)).trans HR0.out)
   replace HO := Lib.hid (Kd.R_far (p := ⟨W3.heap.size, 3, none⟩) HO.out (fun j hj e => by simp only at e; omega) (.string sk))
   replace HB := Lib.hid (Moved.below HB.out hm HB.out.size (fun j hj => by subst hj; exact HQw.out))
   replace HP := Lib.hid (blk_setCell (j := 3) (u := .string sk) HP.out)
   replace HQ := Lib.hid (lt_of_block HP.out)
   replace HP : Hid ((V2.setCell ⟨W3.heap.size, 3, none⟩ (.string sk)).heap[W3.heap.size]? = some (.cells #[.string ⟨#[97, 110, 110, 97, 47, 110, 111, 116, 101, 115]⟩, .int .i64 (x : Int), .string st, .string sk, .slice A l.length c] 45 (0, 0))) := HP
   clear hm
   go_wp2_with (first | ((with_reducible refine gate_builtin (b := .append) (xs := #[.tmp 50, .tmp 52]) rfl ?_); at_builtin; refine Kd.R_append Kd.string (w0 := w) w.heap.size rfl (.tmp 50) (.tmp 52) 24 9 (.string ⟨#[]⟩) 16 rfl Tryz.underlying24 info9 rfl (by decide) (by omega) (.slice A l.length c) l uk [.string uk] (fun j => W3.heap.size < j) (fun _ => False) rfl ?hx ?aP (fun _ hk => hk.elim) ?aF ?aO ?aB ?aS ?aL ?_; (case hx => (rw [show (V2.setCell ⟨W3.heap.size, 3, none⟩ (.string sk)).heap.size = V2.heap.size from by simp [World.setCell]]; rfl)); (case aP => exact rfl); (case aB => exact HB.out); (case aF => exact fun j hj => Nat.lt_of_lt_of_le HQ.out hj); (case aO => exact HO.out); (case aS => exact (below_size HB.out)); (case aL => have := HLN.out; omega); intro v1 U ho hb hg hat; have hne : some W3.heap.size ≠ (Value.slice A l.length c).ownBlock := Kd.R_away HO.out (fun j hj e => by omega); have hne0 : some w.heap.size ≠ (Value.slice A l.length c).ownBlock := Kd.R_away HO.out (fun j hj e => by have := HQ0.out; omega); replace HP := Lib.hid ((hg.block W3.heap.size HQ.out hne).trans HP.out); replace HR0 := Lib.hid ((hg.block _ (lt_of_block HR0.out) hne0).trans HR0.out); replace HB := Lib.hid hb; rw [HAP.out] at ho; obtain ⟨A1, c1, rfl⟩ := Kd.R_slice ho; replace HO := Lib.hid ho; replace HQ := Lib.hid (lt_of_block HP.out); clear ho hb hg hat hne hne0; have c4 := cell_of_blk (j := 4) (v := .slice A l.length c) HP.out rfl; have z4 := free_of_blk (j := 4) HP.out))
   go_roundw
   case rel =>
    have hkx1 := HKX.out.2
    have hm := Moved.setCell (S := (· = W3.heap.size)) U (a := ⟨W3.heap.size, 4, none⟩) rfl (.slice A1 (pubs (k + 1)).length c1)
    exact ⟨k + 1, pubs (k + 1), A1, c1, Nat.succ_le_succ hkx1, by go_num, rfl, Moved.below HB.out hm HB.out.size (fun j hj => by subst hj; exact HQw.out), lt_of_block (blk_setCell (j := 4) HP.out), (hm.block _ (lt_of_block HR0.out) (fun e => by have := HQ0.out; omega)).trans HR0.out, by rw [HSG.out]; exact blk_setCell (j := 4) HP.out, Kd.R_far (p := ⟨W3.heap.size, 4, none⟩) HO.out (fun j hj e => by simp only at e; omega) _⟩
   case measure =>
    have hkx1 := HKX.out.2
    have := HX.out.1
    simp only [intOf]
    omega
  have hd : decide ((k : Int) ≤ (x : Int)) = false := decide_eq_false (by omega)
  have hdn : decide (k ≤ x) = false := decide_eq_false hkx
  obtain rfl : k = x + 1 := by omega
  have y0 := cell_of_blk (j := 0) (v := .string ⟨#[97, 110, 110, 97, 47, 110, 111, 116, 101, 115]⟩) HP.out rfl
  have y1 := cell_of_blk (j := 1) (v := .int .i64 (x : Int)) HP.out rfl
  have y2 := cell_of_blk (j := 2) (v := .string st) HP.out rfl
  have y3 := cell_of_blk (j := 3) (v := .string (sgAt (x + 1))) HP.out rfl
  have y4 := cell_of_blk (j := 4) (v := .slice A l.length c) HP.out rfl
  have d0 := cell_of_blk (j := 0) (v := .string ⟨#[]⟩) HR0.out rfl
  have z0 := free_of_blk (j := 0) HR0.out
  have d1 := cell_of_blk (j := 1) (v := .int .i64 0) HR0.out rfl
  have z1 := free_of_blk (j := 1) HR0.out
  have d2 := cell_of_blk (j := 2) (v := .string ⟨#[]⟩) HR0.out rfl
  have z2 := free_of_blk (j := 2) HR0.out
  have d3 := cell_of_blk (j := 3) (v := .string ⟨#[]⟩) HR0.out rfl
  have z3 := free_of_blk (j := 3) HR0.out
  have d4 := cell_of_blk (j := 4) (v := .slice none 0 0) HR0.out rfl
  have z4 := free_of_blk (j := 4) HR0.out
  obtain ⟨hblk, hbe, hmv⟩ := put5 HB.out HR0.out (Nat.le_refl _) (.string ⟨#[97, 110, 110, 97, 47, 110, 111, 116, 101, 115]⟩) (.int .i64 (x : Int)) (.string st) (.string (sgAt (x + 1))) (.slice A l.length c)
  have hC := (Kd.R_reads' (Kd.R_step HO.out (fun j hj hlt => hmv.block j hlt (fun e => by have := HQ0.out; omega)))).2
  have HL := Lib.hid hl
  clear hl hk hkx
  go_wp2
  refine bodyPost_ret (results_cell_row rfl _ _ w.heap.size 45 _ (0, 0) _ rfl hblk Tryz.underlying45 rfl (by kernel_rfl)) rfl ?_
  refine ⟨A, c, ?_, ?_, ?_, hbe⟩
  ·rw [← HL.out]; rfl
  ·rw [← HL.out]; exact hC.1
  ·rw [← HL.out]; exact hC.2
end Go.Proofs.YtphehoidkmficaaGreatDoor
end
section

namespace Go.Proofs.YtphehoidkmficaaGreatDoor
open Go.RowKit Go.Proofs.YtphehoidkmficaaGreatDoorW.PrintWords Go.Proofs.YtphehoidkmficaaGreatDoorW.PrintLast Go.Proofs.YtphehoidkmficaaGreatDoor.Ref
set_option linter.unusedVariables false
set_option linter.unusedSimpArgs false
def hi : ByteArray := ⟨#[104, 105]⟩
theorem st_small {r j : Nat} (hr : r < 1000) (hj : j ≤ 20) : (tm (hT j (rT r))).size ≤ 1000000 := by have := right_size (right_state hr hj); omega
theorem sg_small {i : Nat} (hi : i < 1000) : (tm (sT i)).size ≤ 1000000 := by have := right_size (right_sign hi); omega
end Go.Proofs.YtphehoidkmficaaGreatDoor
end
section

namespace Go.Proofs.YtphehoidkmficaaGreatDoor
open Go.RowKit Go.Proofs.YtphehoidkmficaaGreatDoorW.PrintWords Go.Proofs.YtphehoidkmficaaGreatDoorW.PrintLast Go.Proofs.YtphehoidkmficaaGreatDoor.Ref
set_option linter.unusedVariables false
set_option linter.unusedSimpArgs false
theorem open_early {i e e' r j m y : Nat} (hi : i < 1000) (he : e ≤ 7) (he' : e' ≤ 7) (hy : y ≤ 7) (hr : r < 1000) (hj : j ≤ 7) (hm : m ≤ 7) {pa ct : Bs} {pa' : ByteArray} (hp : pa.length ≤ 300) (hc : ct.length ≤ 64)
  {vs : List ByteArray} (hv : vs.length = y + 1) (h : ¬ e' ≤ y) :
  openBl ⟨(e' : Int), tm (sealT r j pa ct), tm (sigT i e r j pa ct)⟩ vs (tm (hT m (rT r))) (y : Int) pa' = (⟨#[]⟩, 7) := by
 unfold openBl openOk epochB
 rw [rightBl_tm hi e' he' (by omega) hr hj hp hc, right_state hr (by omega), hv, if_pos (by simp; omega), if_pos (by simp only; omega)]
theorem i64_of {n : Int} (hn : (Lit.int .i64 n).wf = true) : I64 n := by simpa [Lit.wf, IntKind.min, IntKind.max, IntKind.bits, IntKind.signed] using hn
theorem cat_size (s : ByteArray) (l : List ByteArray) (h : s.size ≤ 1000000) : (catT (s :: l)).size ≤ 9 + s.size + (catT l).size := by
 have := size_numB (n := s.size) (by omega)
 rw [catT_cons, ByteArray.size_append, ByteArray.size_append]; omega
theorem put_size {b : Bl} (h : rightBl b = true) : (putBl b).1.size ≤ 1000000 := by
 obtain ⟨h1, h2, h3⟩ := rightBl_inv h
 have h4 := right_kind h2 (by decide)
 have h5 := right_kind h3 (by decide)
 have h6 := size_numB (n := b.e.toNat) (by omega)
 have h7 := size_numB (n := 3) (by omega)
 have c1 := cat_size (numB b.e.toNat) [b.s, b.g] (by omega)
 have c2 := cat_size b.s [b.g] (by omega)
 have c3 := cat_size b.g [] (by omega)
 have c4 : (catT []).size = 0 := by rw [catT_nil]; rfl
 unfold putBl
 rw [if_pos h]
 simp only [allB]
 rw [ByteArray.size_append]
 change (numB 3).size + _ ≤ _
 omega
def kk (r y : Nat) (sg : ByteArray) : Ky := ⟨notes, (y : Int), tm (hT (7 - y) (rT r)), sg, pubs (y + 1)⟩
def ky (r y : Nat) : Ky := kk r y (tm (sT y))
def kr (r y : Nat) : Ky := kk r y ⟨#[]⟩
def bx (r x : Nat) (ct : ByteArray) : Bl := ⟨(x : Int), tm (sealT r (7 - x) (bytes notes) (bytes ct)), tm (sigT x x r (7 - x) (bytes notes) (bytes ct))⟩
def pb (r x : Nat) (ct : ByteArray) : ByteArray := (putBl (bx r x ct)).1
section
variable {r x y : Nat} {ct : ByteArray}
theorem ctl (hc : ct.size ≤ 64) : (bytes ct).length ≤ 64 := by rw [bytes_length]; exact hc
theorem notl : (bytes notes).length ≤ 300 := by decide
theorem bx_right (hx : x ≤ 7) (hr : r < 1000) (hc : ct.size ≤ 64) : rightBl (bx r x ct) = true :=
 rightBl_tm (i := x) (e := x) (r := r) (j := 7 - x) (pa := bytes notes) (ct := bytes ct) (by omega) x (by omega) (by omega) (by omega) (by omega) notl (ctl hc)
theorem pb_take (hx : x ≤ 7) (hr : r < 1000) (hc : ct.size ≤ 64) : takeBl (pb r x ct) = (bx r x ct, 0) := (take_put_bl (bx_right hx hr hc)).1
theorem pb_size (hx : x ≤ 7) (hr : r < 1000) (hc : ct.size ≤ 64) : (pb r x ct).size ≤ 1000000 := put_size (bx_right hx hr hc)
theorem pb_ne (hx : x ≤ 7) (hy : y ≤ 7) (hr : r < 1000) (hc : ct.size ≤ 64) (h : x ≠ y) : pb r x ct ≠ pb r y ct := by
 intro e
 have h1 := pb_take hx hr hc
 rw [e, pb_take hy hr hc] at h1
 have h2 : ((y : Int)) = (x : Int) := congrArg (fun p => p.1.e) h1
 omega
theorem tmS_ne {n : Nat} (h : n < 1000) : tm (sT n) ≠ ⟨#[]⟩ := by
 intro e
 have h1 := right_sign (i := n) h
 rw [e] at h1
 exact absurd h1 (by decide +kernel)
theorem seal_ky (hx : x ≤ 7) (hr : r < 1000) (hc : ct.size ≤ 64) : rsealF (ky r x) ct = (pb r x ct, 0) := by
 unfold rsealF ky kk
 simp only
 rw [if_neg (tmS_ne (by omega)), build_tm (i := x) (e := x) (r := r) (j := 7 - x) (pa := notes) (ct := ct) (by omega) (by omega) hr (by omega) split_notes hc, if_pos rfl]
 exact Prod.ext rfl (take_put_bl (bx_right hx hr hc)).2
theorem seal_big (hx : x ≤ 7) (hr : r < 1000) (hc : ¬ ct.size ≤ 64) : rsealF (ky r x) ct = (⟨#[]⟩, 10) := by
 unfold rsealF ky kk
 simp only
 rw [if_neg (tmS_ne (by omega)), build_long (i := x) (e := x) (r := r) (j := 7 - x) (pa := notes) (ct := ct) (by omega) (by omega) hr (by omega) split_notes hc, if_neg (by decide)]
theorem seal_kr : rsealF (kr r x) ct = (⟨#[]⟩, 6) := by
 unfold rsealF kr kk
 simp only
 rw [if_pos trivial]
theorem open_pb {sg : ByteArray} (hx : x ≤ 7) (hy : y ≤ 7) (hr : r < 1000) (hc : ct.size ≤ 64) : ropenF (kk r y sg) (pb r x ct) = if x ≤ y then (ct, 0) else (⟨#[]⟩, 7) := by
 unfold ropenF kk
 simp only
 rw [pb_take hx hr hc, if_pos rfl]
 by_cases h : x ≤ y
 ·have h1 := open_tm (i := x) (e := x) (e' := x) (i' := x) (r := r) (j := 7 - x) (m := 7 - y) (y := y) (pa := bytes notes) (ct := bytes ct) (pa' := notes) (vs := pubs (y + 1)) (by omega) (by omega) (by omega) (by omega) (by omega) hr (by omega) (by omega) notl (ctl hc) (pubs_len _) (pubs_getD (by omega))
  rw [ofBytes_bytes, ofBytes_bytes, if_pos (by refine ⟨h, ?_, ?_, by omega, ?_⟩ <;> trivial)] at h1
  rw [if_pos h]
  exact h1
 ·rw [if_neg h]
  exact open_early (i := x) (e := x) (e' := x) (r := r) (j := 7 - x) (m := 7 - y) (y := y) (pa := bytes notes) (ct := bytes ct) (pa' := notes) (vs := pubs (y + 1)) (by omega) (by omega) (by omega) (by omega) hr (by omega) (by omega) notl (ctl hc) (pubs_len _) h
theorem behind_pb {sg : ByteArray} (hx : x ≤ 7) (hy : y ≤ 7) (hr : r < 1000) (hc : ct.size ≤ 64) : behindF (kk r y sg) (pb r x ct) = decide (x < y) := by
 unfold behindF
 rw [open_pb hx hy hr hc, pb_take hx hr hc]
 by_cases h : x ≤ y
 ·rw [if_pos h]
  show (true && decide ((x : Int) < (y : Int))) = _
  rw [Bool.true_and]
  exact decide_eq_decide.2 (by omega)
 ·rw [if_neg h, decide_eq_false (show ¬ x < y by omega)]
  rfl
theorem renew_ky (hx : x ≤ 7) (hy : y ≤ 7) (hr : r < 1000) (hc : ct.size ≤ 64) : renewF (ky r y) (pb r x ct) = if x < y then (pb r y ct, true, 0) else if x = y then (pb r x ct, false, 0) else (⟨#[]⟩, false, 7) := by
 unfold renewF
 have h2 : behindF (ky r y) (pb r x ct) = decide (x < y) := behind_pb hx hy hr hc
 have h3 : ropenF (ky r y) (pb r x ct) = _ := open_pb hx hy hr hc
 rw [h2, h3]
 by_cases h : x ≤ y
 ·rw [if_pos h, if_pos rfl]
  by_cases h1 : x < y
  ·rw [if_pos (decide_eq_true h1), if_pos h1, seal_ky hy hr hc]
   rfl
  ·rw [if_neg (by simpa using h1), if_neg h1, if_pos (by omega)]
 ·rw [if_neg h, if_neg (by decide), if_neg (by omega), if_neg (by omega)]
theorem renew_kr (hx : x ≤ 7) (hy : y ≤ 7) (hr : r < 1000) (hc : ct.size ≤ 64) : renewF (kr r y) (pb r x ct) = if x < y then (⟨#[]⟩, false, 6) else if x = y then (pb r x ct, false, 0) else (⟨#[]⟩, false, 7) := by
 unfold renewF
 have h2 : behindF (kr r y) (pb r x ct) = decide (x < y) := behind_pb hx hy hr hc
 have h3 : ropenF (kr r y) (pb r x ct) = _ := open_pb hx hy hr hc
 rw [h2, h3]
 by_cases h : x ≤ y
 ·rw [if_pos h, if_pos rfl]
  by_cases h1 : x < y
  ·rw [if_pos (decide_eq_true h1), if_pos h1, seal_kr]
   rfl
  ·rw [if_neg (by simpa using h1), if_neg h1, if_pos (by omega)]
 ·rw [if_neg h, if_neg (by decide), if_neg (by omega), if_neg (by omega)]
theorem renew_err {k : Ky} {blob : ByteArray} (h : (ropenF k blob).2 ≠ 0) : renewF k blob = (⟨#[]⟩, false, (ropenF k blob).2) := by
 unfold renewF
 rw [if_neg h]
end
theorem kk_st {r y : Nat} (hr : r < 1000) (hy : y ≤ 7) : (tm (hT (7 - y) (rT r))).size ≤ 1000000 := st_small hr (by omega)
theorem notes_small : notes.size ≤ 1000000 := by decide
theorem sealAt {w : World} (HTB : Aside0 (Tabs w)) {r y : Nat} {sg ct : ByteArray} {R : ByteArray × Int} (hr : r < 1000) (hy : y ≤ 7) (hsg : sg.size ≤ 1000000) (hR : rsealF (kk r y sg) ct = R) :
  ∀ (W : World) (A : Option Addr) (n c : Nat), Below w.heap.size w W → Calls Tryz.prog 24 #[.agg #[.string ⟨#[97, 110, 110, 97, 47, 110, 111, 116, 101, 115]⟩, .int .i64 (y : Int), .string (tm (hT (7 - y) (rT r))), .string sg, .slice A n c], .string ct] W fun e w' => e = .returned (.tuple #[.string R.1, .int .i64 R.2]) ∧ Below W.heap.size W w' :=
 fun W A n c hb => hR ▸ seal9_call (k := kk r y sg) A n c ct (kk_st hr hy) hsg notes_small W ⟨HTB.out.below hb⟩
theorem openAt {r y : Nat} {sg blob : ByteArray} {R : ByteArray × Int} (hr : r < 1000) (hy : y ≤ 7) (hz : blob.size ≤ 1000000) (hR : ropenF (kk r y sg) blob = R) :
  ∀ (W : World) (A : Option Addr) (c : Nat), (pubs (y + 1)).length ≤ c → Kd.C Kd.string W A (pubs (y + 1)).length (pubs (y + 1)) → Calls Tryz.prog 25 #[.agg #[.string ⟨#[97, 110, 110, 97, 47, 110, 111, 116, 101, 115]⟩, .int .i64 (y : Int), .string (tm (hT (7 - y) (rT r))), .string sg, .slice A (pubs (y + 1)).length c], .string blob] W fun e w' => e = .returned (.tuple #[.string R.1, .int .i64 R.2]) ∧ Below W.heap.size W w' :=
 fun W A c hc hC => hR ▸ ropen_call (k := kk r y sg) A c blob hz (kk_st hr hy) (pubs_small (y + 1) (by omega)) (show (pubs (y + 1)).length ≤ 1000000 by rw [pubs_len]; omega) hc W hC
theorem behindAt {r y : Nat} {sg blob : ByteArray} {R : Bool} (hr : r < 1000) (hy : y ≤ 7) (hz : blob.size ≤ 1000000) (hR : behindF (kk r y sg) blob = R) :
  ∀ (W : World) (A : Option Addr) (c : Nat), (pubs (y + 1)).length ≤ c → Kd.C Kd.string W A (pubs (y + 1)).length (pubs (y + 1)) → Calls Tryz.prog 26 #[.agg #[.string ⟨#[97, 110, 110, 97, 47, 110, 111, 116, 101, 115]⟩, .int .i64 (y : Int), .string (tm (hT (7 - y) (rT r))), .string sg, .slice A (pubs (y + 1)).length c], .string blob] W fun e w' => e = .returned (.bool R) ∧ Below W.heap.size W w' :=
 fun W A c hc hC => hR ▸ behind_call (k := kk r y sg) A c blob hz (kk_st hr hy) (pubs_small (y + 1) (by omega)) (show (pubs (y + 1)).length ≤ 1000000 by rw [pubs_len]; omega) hc W hC
theorem renewAt {w : World} (HTB : Aside0 (Tabs w)) {r y : Nat} {sg blob : ByteArray} {R : ByteArray × Bool × Int} (hr : r < 1000) (hy : y ≤ 7) (hsg : sg.size ≤ 1000000) (hz : blob.size ≤ 1000000) (hR : renewF (kk r y sg) blob = R) :
  ∀ (W : World) (A : Option Addr) (c : Nat), Below w.heap.size w W → (pubs (y + 1)).length ≤ c → Kd.C Kd.string W A (pubs (y + 1)).length (pubs (y + 1)) → Calls Tryz.prog 29 #[.agg #[.string ⟨#[97, 110, 110, 97, 47, 110, 111, 116, 101, 115]⟩, .int .i64 (y : Int), .string (tm (hT (7 - y) (rT r))), .string sg, .slice A (pubs (y + 1)).length c], .string blob] W fun e w' => e = .returned (.tuple #[.string R.1, .bool R.2.1, .int .i64 R.2.2]) ∧ Below W.heap.size W w' :=
 fun W A c hb hc hC => hR ▸ renew_call (k := kk r y sg) A c blob hz (kk_st hr hy) hsg notes_small (pubs_small (y + 1) (by omega)) (show (pubs (y + 1)).length ≤ 1000000 by rw [pubs_len]; omega) hc W ⟨HTB.out.below hb⟩ hC
end Go.Proofs.YtphehoidkmficaaGreatDoor
end
section

namespace Go.Proofs.YtphehoidkmficaaGreatDoor
open Go.RowKit Go.Proofs.YtphehoidkmficaaGreatDoorW.PrintWords Go.Proofs.YtphehoidkmficaaGreatDoorW.PrintLast Go.Proofs.YtphehoidkmficaaGreatDoor.Ref
set_option linter.unusedVariables false
set_option linter.unusedSimpArgs false
theorem pb_nil {r x : Nat} {ct : ByteArray} (hx : x ≤ 7) (hr : r < 1000) (hc : ct.size ≤ 64) : (pb r x ct).toList ≠ [] := by
 intro e
 have h1 := pb_take (r := r) hx hr hc
 have h2 : pb r x ct = ⟨#[]⟩ := bs_inj (by rw [← bytes_toList, e]; rfl)
 rw [h2, take_empty] at h1
 exact absurd (show (2 : Int) = 0 from congrArg Prod.snd h1) (by decide)
set_option maxRecDepth 100000 in
set_option maxHeartbeats 8000000 in
theorem shown17_call  (w : World) (HTB : Aside0 (Tabs w))  :
  Calls Tryz.prog 21 #[] w fun e w' => e = .returned (.bool true) ∧ Below w.heap.size w w' := by
 have HK0 := Lib.hid (fun (W : World) (hb : Below w.heap.size w W) => seal9_call (k := ⟨⟨#[]⟩, 0, ⟨#[]⟩, ⟨#[]⟩, []⟩) none 0 0 ⟨#[120]⟩ (by decide) (by decide) (by decide) W ⟨HTB.out.below hb⟩)
 rw [show rsealF ⟨⟨#[]⟩, 0, ⟨#[]⟩, ⟨#[]⟩, []⟩ ⟨#[120]⟩ = (⟨#[]⟩, 6) from by unfold rsealF; rw [if_pos rfl]] at HK0
 have hk := fun W => keysOf_call 0 (x := 2) (by decide) (by omega) W
 rw [show pickN 0 5 = 0 from rfl] at hk
 have HKY := Lib.hid hk
 have hs : rsealF (kk 0 2 (tm (sT 2))) hi = (pb 0 2 hi, 0) := seal_ky (x := 2) (by omega) (by omega) (by decide)
 have HSE := Lib.hid (sealAt HTB (by omega) (by omega) (sg_small (i := 2) (by omega)) hs)
 have hne : (pb 0 2 hi).toList ≠ [] := pb_nil (by omega) (by omega) (by decide)
 have t0 : ((pb 0 2 hi).toList == []) = false := beq_eq_false_iff_ne.2 hne
 simp only at HK0 HSE
 generalize pb 0 2 hi = q at *
 generalize tm (hT (7 - 2) (rT 0)) = st at *
 generalize tm (sT 2) = s2 at *
 generalize pubs (2 + 1) = vs at *
 clear hk hs HTB hne
 have HB := Lib.hid (Below.refl w.heap.size w)
 go_enter Tryz.func21, Tryz.ntmps21
 go_wp2_with fail
 refine (HK0.out _ HB.out).mono ?_
 rintro e W1 ⟨rfl, hb0⟩
 have hb := hb0
 replace HB := Lib.hid (below_step HB.out hb)
 clear hb hb0
 go_wp2_with fail
 refine (HKY.out _).mono ?_
 rintro e W2 ⟨Ak, ck, rfl, hck, hCk, hb0⟩
 have hb := hb0
 replace HB := Lib.hid (below_step HB.out hb)
 clear hb hb0
 have HVk := Lib.hid hCk
 clear hCk
 go_wp2_with fail
 refine (HSE.out _ _ _ _ HB.out).mono ?_
 rintro e W3 ⟨rfl, hb0⟩
 have hb := hb0
 replace HB := Lib.hid (below_step HB.out hb)
 replace HVk := Lib.hid (Kd.C_below HVk.out hb)
 clear hb hb0
 go_wp2
 go_ret
 exact ⟨rfl, HB.out⟩
end Go.Proofs.YtphehoidkmficaaGreatDoor
end
section

namespace Go.Proofs.YtphehoidkmficaaGreatDoor
open Go.RowKit Go.Proofs.YtphehoidkmficaaGreatDoorW.PrintWords Go.Proofs.YtphehoidkmficaaGreatDoorW.PrintLast Go.Proofs.YtphehoidkmficaaGreatDoor.Ref
set_option linter.unusedVariables false
set_option linter.unusedSimpArgs false
set_option maxRecDepth 100000 in
set_option maxHeartbeats 8000000 in
theorem steps17_any (n0 a b : Int) (ct : ByteArray) (w : World) (HTB : Aside0 (Tabs w)) (h0 : (Lit.int .i64 n0).wf = true) (h1 : (Lit.int .i64 a).wf = true) (h2 : (Lit.int .i64 b).wf = true) (h3 : ct.size ≤ 140737488351232) :
  Calls Tryz.prog 8 #[.int .i64 n0, .int .i64 a, .int .i64 b, .string ct] w fun e w' => e = .returned (.bool true) ∧ Below w.heap.size w w' := by
 have HSH := Lib.hid (fun (W : World) (hb : Below w.heap.size w W) => shown17_call W ⟨HTB.out.below hb⟩)
 have hr := pick_lt n0 (n := 5) (by omega)
 have hx := pick_lt a (n := 8) (by omega)
 have HPX := Lib.hid (fun W => pick17_call a 8 (by omega) (by omega) (i64_of h1) W)
 generalize pickN a 8 = x at *
 have hz := pick_lt b (n := 8 - x) (by omega)
 have HPZ := Lib.hid (fun W => pick17_call b (8 - x) (by omega) (by omega) (i64_of h2) W)
 generalize pickN b (8 - x) = z at *
 have HKK := Lib.hid (fun (x : Nat) (h : x ≤ 7) (W : World) => keysOf_call n0 (x := x) (i64_of h0) h W)
 generalize pickN n0 5 = r at *
 have hw8 : (8 : Int) - (x : Int) = ((8 - x : Nat) : Int) := by omega
 have HB := Lib.hid (Below.refl w.heap.size w)
 go_enter Tryz.func8, Tryz.ntmps8
 go_wp2_with fail
 refine (HSH.out _ HB.out).mono ?_
 rintro e W1 ⟨rfl, hb0⟩
 have hb := hb0
 replace HB := Lib.hid (below_step HB.out hb)
 clear hb hb0
 by_cases q64 : ct.size ≤ 64
 rotate_left
 ·have t0 : decide (64 < (ct.size : Int)) = true := decide_eq_true (by omega)
  go_wp2
  go_ret
  exact ⟨rfl, HB.out⟩
 have t0 : decide (64 < (ct.size : Int)) = false := decide_eq_false (by omega)
 go_wp2_with fail
 refine (HPX.out _).mono ?_
 rintro e W2 ⟨rfl, hb0⟩
 have hb := hb0
 replace HB := Lib.hid (below_step HB.out hb)
 clear hb hb0
 go_wp2_with fail
 try rw [hw8]
 go_wp2_with fail
 refine (HPZ.out _).mono ?_
 rintro e W3 ⟨rfl, hb0⟩
 have hb := hb0
 replace HB := Lib.hid (below_step HB.out hb)
 clear hb hb0
 have hs : rsealF (kk r x (tm (sT x))) ct = (pb r x ct, 0) := seal_ky (by omega) (by omega) q64
 have HSE := Lib.hid (sealAt HTB (by omega) (by omega) (sg_small (i := x) (by omega)) hs)
 simp only at HSE
 have HKX := Lib.hid (HKK.out x (by omega))
 go_wp2_with fail
 refine (HKX.out _).mono ?_
 rintro e W4 ⟨Ak, ck, rfl, hck, hCk, hb0⟩
 have hb := hb0
 replace HB := Lib.hid (below_step HB.out hb)
 clear hb hb0
 have HVk := Lib.hid hCk
 clear hCk
 go_wp2_with fail
 refine (HSE.out _ _ _ _ HB.out).mono ?_
 rintro e W5 ⟨rfl, hb0⟩
 have hb := hb0
 replace HB := Lib.hid (below_step HB.out hb)
 replace HVk := Lib.hid (Kd.C_below HVk.out hb)
 clear hb hb0
 clear HVk hck HSE HKX HPX HPZ hs
 have hy : x + z ≤ 7 := by omega
 have hzx : z < 8 - x := hz
 have HXY := Lib.hid (And.intro hy (And.intro q64 (And.intro hx hr)))
 obtain ⟨y, hyd⟩ : ∃ y, x + z = y := ⟨_, rfl⟩
 rw [hyd] at HXY
 have hxy : x ≤ y := by omega
 have hy7 : y ≤ 7 := by omega
 have hcz : (x : Int) + (z : Int) = (y : Int) := by omega
 go_wp2_with fail
 go_loopw [14, 15] (fun t i wr => ∃ k : Nat, x ≤ k ∧ k ≤ y ∧ i = .int .i64 ((k + 1 : Nat) : Int) ∧ t = .string (pb r k ct) ∧ Below w.heap.size w wr) (fun _ i _ => 100 - (intOf i).toNat)
 case atStart => exact ⟨x, Nat.le_refl _, hxy, by go_num, rfl, HB.out⟩
 case round =>
  obtain ⟨k, hxk, hky, rfl, rfl, hbr⟩ := hrel
  clear HB
  have HB := Lib.hid hbr
  clear hbr
  by_cases hk : k + 1 ≤ y
  ·skip
   have hd : decide (((k + 1 : Nat) : Int) ≤ (y : Int)) = true := decide_eq_true (by omega)
   have hd2 : decide ((k : Int) + 1 ≤ (y : Int)) = true := decide_eq_true (by omega)
   have hd3 : decide (k + 1 ≤ y) = true := decide_eq_true hk
   have hn : renewF (kk r (k + 1) (tm (sT (k + 1)))) (pb r k ct) = (pb r (k + 1) ct, true, 0) := by rw [show kk r (k + 1) (tm (sT (k + 1))) = ky r (k + 1) from rfl, renew_ky (by omega) (by omega) (by omega) q64, if_pos (by omega)]
   have HN := Lib.hid (renewAt HTB (by omega) (by omega) (sg_small (i := k + 1) (by omega)) (pb_size (r := r) (x := k) (ct := ct) (by omega) (by omega) q64) hn)
   have hne : ((pb r (k + 1) ct).toList == (pb r k ct).toList) = false := by rw [beq_eq_false_iff_ne]; exact fun h => pb_ne (r := r) (ct := ct) (x := k + 1) (y := k) (by omega) (by omega) (by omega) q64 (by omega) ((toL _ _).1 h)
   simp only at HN
   have HK := Lib.hid (HKK.out (k + 1) (by omega))
   clear hn
   obtain ⟨p, hp⟩ : ∃ p, pb r (k + 1) ct = p := ⟨_, rfl⟩
   rw [hp] at HN hne
   generalize pb r k ct = q at *
   generalize tm (hT (7 - (k + 1)) (rT r)) = sy at *
   generalize tm (sT (k + 1)) = gy at *
   generalize pubs (k + 1 + 1) = vy at *
   have hkc : ((k + 1 : Nat) : Int) = (k : Int) + 1 := by omega
   rw [hkc] at HN HK
   have hkb : (k : Int) ≤ 6 := by omega
   go_wp2_with fail
   refine (HK.out _).mono ?_
   rintro e W31 ⟨Al, cl, rfl, hcl, hCl, hb0⟩
   have hb := hb0
   replace HB := Lib.hid (below_step HB.out hb)
   clear hb hb0
   have HVl := Lib.hid hCl
   clear hCl
   go_wp2_with fail
   refine (HN.out _ _ _ HB.out hcl HVl.out).mono ?_
   rintro e W32 ⟨rfl, hb0⟩
   have hb := hb0
   replace HB := Lib.hid (below_step HB.out hb)
   replace HVl := Lib.hid (Kd.C_below HVl.out hb)
   clear hb hb0
   go_wp2
   go_roundw
   case rel => exact ⟨k + 1, by omega, hk, by go_num, by rw [hp], HB.out⟩
   case measure => simp only [intOf]; omega
  have hd : decide (((k + 1 : Nat) : Int) ≤ (y : Int)) = false := decide_eq_false (by omega)
  have hd2 : decide ((k : Int) + 1 ≤ (y : Int)) = false := decide_eq_false (by omega)
  have hd3 : decide (k + 1 ≤ y) = false := decide_eq_false hk
  obtain rfl : k = y := by omega
  have hgy := sg_small (i := k) (by omega)
  have hqz := pb_size (r := r) (x := x) (ct := ct) (by omega) (by omega) q64
  have hpz := pb_size (r := r) (x := k) (ct := ct) (by omega) (by omega) q64
  have hn1 : renewF (kk r k (tm (sT k))) (pb r x ct) = if x < k then (pb r k ct, true, 0) else if x = k then (pb r x ct, false, 0) else (⟨#[]⟩, false, 7) := renew_ky (by omega) (by omega) (by omega) q64
  have hn1' : renewF (kk r k (tm (sT k))) (pb r x ct) = (pb r k ct, decide (x < k), 0) := by
   rw [hn1]
   by_cases h : x < k
   ·rw [if_pos h, decide_eq_true h]
   ·rw [if_neg h, decide_eq_false h, if_pos (by omega), show x = k by omega]
  have hn2 : renewF (kk r k (tm (sT k))) (pb r k ct) = (pb r k ct, false, 0) := by rw [show kk r k (tm (sT k)) = ky r k from rfl, renew_ky (by omega) (by omega) (by omega) q64, if_neg (Nat.lt_irrefl _), if_pos rfl]
  have ho1 : ropenF (kk r k (tm (sT k))) (pb r k ct) = (ct, 0) := by rw [open_pb (by omega) (by omega) (by omega) q64, if_pos (Nat.le_refl _)]
  have HN1 := Lib.hid (renewAt HTB (by omega) (by omega) hgy hqz hn1')
  have HN2 := Lib.hid (renewAt HTB (by omega) (by omega) hgy hpz hn2)
  have HO1 := Lib.hid (openAt (by omega) (by omega) hpz ho1)
  simp only at HN1 HN2 HO1
  have HK := Lib.hid (HKK.out k (by omega))
  clear hgy hqz hpz hn1 hn1' hn2 ho1
  generalize pb r x ct = q at *
  generalize pb r k ct = p at *
  generalize tm (hT (7 - k) (rT r)) = sy at *
  generalize tm (sT k) = gy at *
  generalize pubs (k + 1) = vy at *
  go_wp2_with fail
  refine (HK.out _).mono ?_
  rintro e W31 ⟨Al, cl, rfl, hcl, hCl, hb0⟩
  have hb := hb0
  replace HB := Lib.hid (below_step HB.out hb)
  clear hb hb0
  have HVl := Lib.hid hCl
  clear hCl
  go_wp2_with fail
  refine (HN1.out _ _ _ HB.out hcl HVl.out).mono ?_
  rintro e W32 ⟨rfl, hb0⟩
  have hb := hb0
  replace HB := Lib.hid (below_step HB.out hb)
  replace HVl := Lib.hid (Kd.C_below HVl.out hb)
  clear hb hb0
  go_wp2_with fail
  refine (HK.out _).mono ?_
  rintro e W33 ⟨Am, cm, rfl, hcm, hCm, hb0⟩
  have hb := hb0
  replace HB := Lib.hid (below_step HB.out hb)
  replace HVl := Lib.hid (Kd.C_below HVl.out hb)
  clear hb hb0
  have HVm := Lib.hid hCm
  clear hCm
  go_wp2_with fail
  refine (HN2.out _ _ _ HB.out hcm HVm.out).mono ?_
  rintro e W34 ⟨rfl, hb0⟩
  have hb := hb0
  replace HB := Lib.hid (below_step HB.out hb)
  replace HVl := Lib.hid (Kd.C_below HVl.out hb)
  replace HVm := Lib.hid (Kd.C_below HVm.out hb)
  clear hb hb0
  go_wp2_with fail
  refine (HK.out _).mono ?_
  rintro e W35 ⟨Ao, co, rfl, hco, hCo, hb0⟩
  have hb := hb0
  replace HB := Lib.hid (below_step HB.out hb)
  replace HVl := Lib.hid (Kd.C_below HVl.out hb)
  replace HVm := Lib.hid (Kd.C_below HVm.out hb)
  clear hb hb0
  have HVo := Lib.hid hCo
  clear hCo
  go_wp2_with fail
  refine (HO1.out _ _ _ hco HVo.out).mono ?_
  rintro e W36 ⟨rfl, hb0⟩
  have hb := hb0
  replace HB := Lib.hid (below_step HB.out hb)
  replace HVl := Lib.hid (Kd.C_below HVl.out hb)
  replace HVm := Lib.hid (Kd.C_below HVm.out hb)
  replace HVo := Lib.hid (Kd.C_below HVo.out hb)
  clear hb hb0
  have t2 : decide ((x : Int) < (k : Int)) = decide (x < k) := decide_eq_decide.2 (by omega)
  by_cases h : x < k
  ·have u2 : decide (x < k) = true := decide_eq_true h
   have t3 : decide ((x : Int) < (k : Int)) = true := by rw [t2, u2]
   clear t2
   go_wp2
   go_ret
   exact ⟨rfl, HB.out⟩
  ·have u2 : decide (x < k) = false := decide_eq_false h
   have t3 : decide ((x : Int) < (k : Int)) = false := by rw [t2, u2]
   clear t2
   go_wp2
   go_ret
   exact ⟨rfl, HB.out⟩
end Go.Proofs.YtphehoidkmficaaGreatDoor
end
