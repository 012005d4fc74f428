/- Contracts and laws that the statement of LawRightsTell leans on (packed from this claim's own texts): part 20. -/
import Derived.Test.YtfhanoloaejmkaaDoorQT19
section

namespace Go.Proofs.YtfhanoloaejmkaaDoor
open Go.RowKit Go.Proofs.YtfhanoloaejmkaaDoorW.PrintWords Go.Proofs.YtfhanoloaejmkaaDoorW.PrintLast Go.Proofs.YtfhanoloaejmkaaDoor.Ref
set_option linter.unusedVariables false
set_option linter.unusedSimpArgs false
theorem take_len (s : ByteArray) : (takeAllF 5 4000 s).1.length ≤ 5 ∧ ∀ x ∈ (takeAllF 5 4000 s).1, x.size ≤ 4000 := by
 by_cases h : (takeAllF 5 4000 s).2 = 0
 ·have := takeAll_inv (s := s) (l := (takeAllF 5 4000 s).1) (by rw [← h])
  exact this.2
 ·have : (takeAllF 5 4000 s).1 = [] := by
   unfold takeAllF at h ⊢
   split
   ·rename_i h1
    rw [if_pos h1] at h
    split
    ·rfl
    ·rename_i h2
     rw [if_neg h2] at h
     have : ∀ (n : Nat) (q : ByteArray) (acc : List ByteArray), (takeGo 4000 n q acc).2 ≠ 0 → (takeGo 4000 n q acc).1 = [] := by
      intro n
      induction n with
      | zero =>
       intro q acc hq
       rw [takeGo] at hq ⊢
       split
       ·rename_i e; rw [if_pos e] at hq; exact absurd rfl hq
       ·rfl
      | succ n ih =>
       intro q acc hq
       rw [takeGo] at hq ⊢
       split
       ·rename_i e; rw [if_pos e] at hq; exact ih _ _ hq
       ·rfl
     exact this _ _ _ h
   ·rfl
  rw [this]
  exact ⟨by simp, by simp⟩
theorem strC {w : World} {A : Option Addr} {l : List ByteArray} (h : Kd.C Kd.string w A l.length l) {k : Nat} (hk : k < l.length) : ∃ ad, A = some ad ∧ w.cell? (ad.add k) = some (.string (nth l k)) := by
 obtain ⟨ad, rfl, hc⟩ := h.2.2 (by omega)
 obtain ⟨cs, hl, hK, hz⟩ := hc k l[k] (List.getElem?_eq_getElem hk)
 obtain rfl : cs = [.string l[k]] := hK
 refine ⟨ad, rfl, ?_⟩
 have := hz 0 _ rfl
 rw [show k * Kd.string.sz + 0 = k from by show k * 1 + 0 = k; omega] at this
 rw [nth_get hk]; exact this
theorem strD {w : World} {ad : Addr} {l : List ByteArray} (h : Kd.C Kd.string w (some ad) l.length l) {k : Nat} (hk : k < l.length) : w.cell? (ad.add k) = some (.string (nth l k)) := by
 obtain ⟨ad', e, h⟩ := strC h hk
 obtain rfl := Option.some.inj e
 exact h
theorem strE {w : World} {ad : Addr} {l : List ByteArray} (h : Kd.C Kd.string w (some ad) l.length l) {k : Nat} (hk0 : 0 < k) (hk : k < l.length) : w.cell? ⟨ad.block, ad.off + k, none⟩ = some (.string (nth l k)) := by
 have h := strD h hk
 have e : ad.add k = ⟨ad.block, ad.off + k, none⟩ := by unfold Addr.add; rw [if_neg (by omega)]
 rwa [e] at h
theorem strO {w : World} {ad : Addr} {l : List ByteArray} (h : Kd.C Kd.string w (some ad) l.length l) (hk : 0 < l.length) : w.cell? ad = some (.string (nth l 0)) := by
 have h := strD h hk
 have e : ad.add 0 = ad := by unfold Addr.add; rw [if_pos rfl]
 rwa [e] at h
def TheL (w : World) (V : List ByteArray × Int) (e : Ending) (w' : World) : Prop := ∃ A c, e = .returned (.tuple #[.slice A V.1.length c, .int .i64 V.2]) ∧ RowAt w' w.heap.size w'.heap.size A c V.1 ∧ Below w.heap.size w w'
theorem takeAll_call (s : ByteArray) (w : World) (h : s.size ≤ 100000) : Calls Tryd.prog 45 #[.string s, .int .i64 5, .int .i64 4000] w (TheL w (takeAllF 5 4000 s)) := by
 obtain ⟨K, hk⟩ := takeAll_ev 5 4000 s (by omega) (by omega) (by omega)
 refine (PA.wire_TakeAll.calls K s 5 4000 _ _ w (hk K (Nat.le_refl _))).mono ?_
 rintro e w' ⟨v, rfl, hr, hb⟩
 obtain ⟨A, c, rfl, hR⟩ := rowAt_of hr
 exact ⟨A, c, rfl, hR, hb⟩
theorem takeN_call (s : ByteArray) (w : World) (h : s.size ≤ 100000) : Calls Tryd.prog 46 #[.string s] w fun e w' => e = .returned (.tuple #[.int .u64 (takeF s).1, .string (takeF s).2.1, .int .i64 (takeF s).2.2]) ∧ Below w.heap.size w w' :=
 (wire_Take.calls s _ _ _ w (show wire_Take.f s = some ((takeF s).1, (takeF s).2.1, (takeF s).2.2) by unfold wire_Take.f; rw [if_pos (by omega)])).mono fun e w' h => ⟨h.1, h.2⟩
def rgCt.T4 : Bool × List (List Nat × List Nat) := (true, [([], []), ([0], [0]), ([1], [1]), ([], []), ([3], [3]), ([4], [4]), ([2, 5], [2, 5]), ([], []), ([7, 6, 0, 1, 2, 3, 4, 5, 6, 7], [6, 7])])
def rgCt.B4 : List Nat := [0, 1, 3, 0, 8, 24, 63, 0, 255]
theorem rgCt.tab4 : rtab .any (opsOf Tryd.f22 4) = rgCt.T4 := by kernel_rfl
theorem rgCt.bits4 : waitsOk rgCt.T4.2 rgCt.B4 = true := by kernel_rfl
set_option maxHeartbeats 8000000 in
set_option maxRecDepth 100000 in
theorem take_call (s : ByteArray) (w : World) (HTB : Aside0 (Tabs w)) (hs : s.size ≤ 100000) : Calls Tryd.prog 22 #[.string s] w (Told w (takeR s)) := by
 obtain ⟨V, hV⟩ : ∃ V, takeAllF 5 4000 s = V := ⟨_, rfl⟩
 have HV := Lib.hid hV
 have H1 := Lib.hid (fun W => takeAll_call s W hs)
 rw [hV] at H1
 have hlen := take_len s
 rw [hV] at hlen
 clear hV
 obtain ⟨L, e0⟩ := V
 go_enter Tryd.func22, Tryd.ntmps22
 have HB : Hid (Below w.heap.size w (w.alloc (Obj.cells #[Value.string { data := #[] }, Value.string { data := #[] }, Value.int IntKind.i64 0, Value.slice none 0 0, Value.slice none 0 0] 26))) := Lib.hid (below_alloc (Below.refl _ _) _)
 have HY : Hid (BoxAt (w.alloc (Obj.cells #[Value.string { data := #[] }, Value.string { data := #[] }, Value.int IntKind.i64 0, Value.slice none 0 0, Value.slice none 0 0] 26)) w.heap.size noRt (.slice none 0 0) (.slice none 0 0)) := Lib.hid ⟨_, rfl, heap_new _ _ _ rfl⟩
 go_wp2_with fail
 refine (H1.out _).mono ?_
 rintro e W1 ⟨AL, cL, rfl, hR, hb⟩
 have HL : Hid (RowAt W1 _ W1.heap.size AL cL L) := Lib.hid hR
 replace HB := Lib.hid (below_step HB.out hb)
 replace HY := Lib.hid (HY.out.below hb)
 clear hR hb
 by_cases c0 : e0 = 0
 ·subst c0
  by_cases c5 : L.length = 5
  ·have t5 : ((L.length : Int) != 5) = false := by rw [c5]; rfl
   have HK := Lib.hid c5
   have m2 : (nth L 2).size ≤ 4000 := hlen.2 _ (nth_mem (by omega))
   have m3 : (nth L 3).size ≤ 4000 := hlen.2 _ (nth_mem (by omega))
   have m4 : (nth L 4).size ≤ 4000 := hlen.2 _ (nth_mem (by omega))
   have m0 : (nth L 0).size ≤ 4000 := hlen.2 _ (nth_mem (by omega))
   have m1 : (nth L 1).size ≤ 4000 := hlen.2 _ (nth_mem (by omega))
   have j3 := take_len (nth L 3)
   have j4 := take_len (nth L 4)
   have H2 := Lib.hid (fun W => takeN_call (nth L 2) W (by omega))
   have H3 := Lib.hid (fun W => takeAll_call (nth L 3) W (by omega))
   have H4 := Lib.hid (fun W => takeAll_call (nth L 4) W (by omega))
   have HRT : Hid (takeR s = if (putF ⟨nth L 0, nth L 1, least8 (takeF (nth L 2)).1, (takeAllF 5 4000 (nth L 3)).1, (takeAllF 5 4000 (nth L 4)).1⟩).2 = 0 ∧ (putF ⟨nth L 0, nth L 1, least8 (takeF (nth L 2)).1, (takeAllF 5 4000 (nth L 3)).1, (takeAllF 5 4000 (nth L 4)).1⟩).1 = s then ((⟨nth L 0, nth L 1, least8 (takeF (nth L 2)).1, (takeAllF 5 4000 (nth L 3)).1, (takeAllF 5 4000 (nth L 4)).1⟩ : Rt), 0) else (noRt, 2)) := Lib.hid (by
    show takeR s = if (putF (rtOf L (least8 (takeF (nth L 2)).1))).2 = 0 ∧ (putF (rtOf L (least8 (takeF (nth L 2)).1))).1 = s then (rtOf L (least8 (takeF (nth L 2)).1), 0) else (noRt, 2)
    unfold takeR
    rw [HV.out, if_pos (show (0 : Int) = 0 ∧ L.length = 5 from ⟨rfl, HK.out⟩)])
   have hn := (takeF_size (nth L 2)).2
   generalize takeF (nth L 2) = T at H2 HRT hn
   obtain ⟨n, rest, e2⟩ := T
   generalize takeAllF 5 4000 (nth L 3) = RA at H3 HRT j3
   generalize takeAllF 5 4000 (nth L 4) = RB at H4 HRT j4
   obtain ⟨ra, e3⟩ := RA
   obtain ⟨rb, e4⟩ := RB
   simp only at HRT hn j3 j4
   obtain ⟨m, hm⟩ : ∃ m, least8 n = m := ⟨_, rfl⟩
   rw [hm] at HRT
   have hm0 : 0 ≤ m ∧ m ≤ 8 := by rw [← hm]; unfold least8; split <;> omega
   have HM := Lib.hid hm
   have sm : smallR ⟨nth L 0, nth L 1, m, ra, rb⟩ = true := small_mk (by show (nth L 0).size ≤ _; omega) (by show (nth L 1).size ≤ _; omega) (by show _ ≤ m ∧ m ≤ _; omega) (by show ra.length ≤ _; have := j3.1; omega) (by show rb.length ≤ _; have := j4.1; omega) (fun x hx => Nat.le_trans (j3.2 x hx) (by omega)) (fun x hx => Nat.le_trans (j4.2 x hx) (by omega))
   obtain ⟨P, hP⟩ : ∃ P, putF ⟨nth L 0, nth L 1, m, ra, rb⟩ = P := ⟨_, rfl⟩
   have HPT := Lib.hid (fun A c A' c' => put_at HTB sm hP A c A' c')
   rw [hP] at HRT
   clear j3 j4 hlen m2 m3 m4 m0 m1 hm sm hP
   have n0 : 0 < L.length := by omega
   have n1 : 1 < L.length := by omega
   have l5d : (0 : Int) < (L.length : Int) := by omega
   have l5e : (1 : Int) < (L.length : Int) := by omega
   have l5 : (2 : Int) < (L.length : Int) := by omega
   have l5b : (3 : Int) < (L.length : Int) := by omega
   have l5c : (4 : Int) < (L.length : Int) := by omega
   obtain ⟨ad, hAD, -⟩ := strC (l := L) HL.out.h1 (k := 0) (by omega)
   subst hAD
   have hadZ : ad.block < W1.heap.size := (HL.out.h3 ad rfl).2
   clear c5
   go_wp2_with fail
   have HLa := Lib.hid (show RowAt W1.drew _ W1.heap.size (some ad) cL L from HL.out.below (below_drew (Below.refl _ _)))
   refine start_ (n := 9) (S := fun w' => w'.cell? ad = some (.string (nth L 0)) ∧ w'.cell? ⟨ad.block, ad.off + 1, none⟩ = some (.string (nth L 1))) (ds := [8]) #[false, false, false, false, false, false, false, false, false] (by kernel_rfl) rfl rfl ⟨strO (l := L) HLa.out.h1 (by have := HK.out; omega), strE (l := L) HLa.out.h1 (k := 1) (by omega) (by have := HK.out; omega)⟩ (fun hHeld => ?_)
   refine with_tabW rgCt.tab4 rgCt.bits4 (fun HT_ HW_ => ?_)
   refine pure_ (i := 0) (N := some 25) (v := ?_) (a' := ?_) #[true, false, false, false, false, false, false, false, false] rfl rfl (any_of HT_.out (by kernel_rfl)) (fun _ _ _ h => h) (Or.inl ⟨by rfl, ?_⟩) ?_ ?_
   rotate_left
   ·intro w'
    go_simp
    with_reducible rfl
   rotate_left
   ·simp only [Act.put, List.setIfInBounds_toArray, List.set_cons_zero, List.set_cons_succ, i64_w, i32_w]
    rfl
   refine pure_ (i := 1) (N := some 26) (v := ?_) (a' := ?_) #[true, true, false, false, false, false, false, false, false] rfl rfl (any_of HT_.out (by kernel_rfl)) (fun _ _ _ h => h) (Or.inl ⟨by rfl, ?_⟩) ?_ ?_
   rotate_left
   ·intro w'
    go_simp
    with_reducible rfl
   rotate_left
   ·simp only [Act.put, List.setIfInBounds_toArray, List.set_cons_zero, List.set_cons_succ, i64_w, i32_w]
    rfl
   refine pure_ (i := 3) (N := some 28) (v := ?_) (a' := ?_) #[true, true, false, true, false, false, false, false, false] rfl rfl (any_of HT_.out (by kernel_rfl)) (fun _ _ _ h => h) (Or.inl ⟨by rfl, ?_⟩) ?_ ?_
   rotate_left
   ·intro w'
    go_simp
    with_reducible rfl
   rotate_left
   ·simp only [Act.put, List.setIfInBounds_toArray, List.set_cons_zero, List.set_cons_succ, i64_w, i32_w]
    rfl
   refine pure_ (i := 4) (N := some 29) (v := ?_) (a' := ?_) #[true, true, false, true, true, false, false, false, false] rfl rfl (any_of HT_.out (by kernel_rfl)) (fun _ _ _ h => h) (Or.inl ⟨by rfl, ?_⟩) ?_ ?_
   rotate_left
   ·intro w'
    go_simp
    with_reducible rfl
   rotate_left
   ·simp only [Act.put, List.setIfInBounds_toArray, List.set_cons_zero, List.set_cons_succ, i64_w, i32_w]
    rfl
   refine take_ (i := 2) (N := some 27) (v := ?_) (a' := ?_) #[true, true, true, true, true, false, false, false, false] rfl rfl (take_ofW HT_.out HW_.out (by kernel_rfl)) (fun _ _ _ h => h) (Or.inl ⟨by rfl, ?_⟩) hHeld ?_ ?_
   rotate_left
   ·rintro w' ⟨s0, s1⟩
    go_simp
    with_reducible rfl
   rotate_left
   ·simp only [Act.put, List.setIfInBounds_toArray, List.set_cons_zero, List.set_cons_succ, i64_w, i32_w]
    rfl
   refine take_ (i := 5) (N := some 30) (v := ?_) (a' := ?_) #[true, true, true, true, true, true, false, false, false] rfl rfl (take_ofW HT_.out HW_.out (by kernel_rfl)) (fun _ _ _ h => h) (Or.inl ⟨by rfl, ?_⟩) hHeld ?_ ?_
   rotate_left
   ·rintro w' ⟨s0, s1⟩
    go_simp
    with_reducible rfl
   rotate_left
   ·simp only [Act.put, List.setIfInBounds_toArray, List.set_cons_zero, List.set_cons_succ, i64_w, i32_w]
    rfl
   refine pure_ (i := 6) (N := some 31) (v := ?_) (a' := ?_) #[true, true, true, true, true, true, true, false, false] rfl rfl (any_of HT_.out (by kernel_rfl)) (fun _ _ _ h => h) (Or.inl ⟨by rfl, ?_⟩) ?_ ?_
   rotate_left
   ·intro w'
    go_simp
    with_reducible rfl
   rotate_left
   ·simp only [Act.put, List.setIfInBounds_toArray, List.set_cons_zero, List.set_cons_succ, i64_w, i32_w]
    rfl
   refine one_ (i := 7) (N := some 6) #[true, true, true, true, true, true, true, true, false] rfl rfl (one_of HT_.out (by kernel_rfl)) (by decide) (fun K hK => ?_)
   refine value_ (w1 := ?_) (v := ?_) (by rfl) rfl ?_ ?_
   rotate_left 2
   ·go_simp
    constructor
    ·rfl
    ·rfl
   have hb : Below W1.drew.heap.size W1.drew (W1.drew.alloc (Obj.cells #[Value.string { data := #[] }, Value.string { data := #[] }, Value.int IntKind.i64 0, Value.slice none 0 0, Value.slice none 0 0] 26)) := below_alloc (Below.refl _ _) _
   replace HLa := Lib.hid (HLa.out.below hb)
   have HZ : Hid (BoxAt (W1.drew.alloc (Obj.cells #[Value.string { data := #[] }, Value.string { data := #[] }, Value.int IntKind.i64 0, Value.slice none 0 0, Value.slice none 0 0] 26)) W1.drew.heap.size noRt (.slice none 0 0) (.slice none 0 0)) := Lib.hid ⟨_, rfl, heap_new _ _ _ rfl⟩
   clear hb
   refine hK.out _ _ ⟨strO (l := L) HLa.out.h1 (by have := HK.out; omega), strE (l := L) HLa.out.h1 (k := 1) (by omega) (by have := HK.out; omega)⟩ (fun hHeld => ?_)
   clear hK K
   refine norm_ (a' := ?_) ?_ ?_
   rotate_left
   ·show Act.put _ (some 6) _ = _
    simp only [Act.put, List.setIfInBounds_toArray, List.set_cons_zero, List.set_cons_succ, i64_w, i32_w]
    rfl
   refine last_ (i := 8) (N := none) #[true, true, true, true, true, true, true, true, true] rfl rfl (one_of HT_.out (by kernel_rfl)) (by decide) (fun K hK => ?_)
   obtain ⟨y0, y1, y2, y3, y4⟩ := HZ.out.cell
   have z0 := HZ.out.free 0
   have z1 := HZ.out.free 1
   have z2 := HZ.out.free 2
   have z3 := HZ.out.free 3
   have z4 := HZ.out.free 4
   refine skip_ (w1 := ?_) (by rfl) rfl ?_ ?_
   rotate_left
   ·go_simp
    rfl
   refine hK.out _ _ ?_
   clear hK K
   refine done_ (done_of HT_.out (by kernel_rfl)) ?_
   clear y0 y1 y2 y3 y4 z0 z1 z2 z3 z4 HLa HZ
   have hal : Below W1.heap.size W1 (W1.alloc (Obj.cells #[Value.string (nth L 0), Value.string (nth L 1), Value.int IntKind.i64 0, Value.slice none 0 0, Value.slice none 0 0] 26)).drew := below_drew (below_alloc (Below.refl _ _) _)
   have HX : Hid (BoxAt (W1.alloc (Obj.cells #[Value.string (nth L 0), Value.string (nth L 1), Value.int IntKind.i64 0, Value.slice none 0 0, Value.slice none 0 0] 26)).drew W1.heap.size ⟨nth L 0, nth L 1, 0, [], []⟩ (.slice none 0 0) (.slice none 0 0)) := Lib.hid (box_new W1 ⟨nth L 0, nth L 1, 0, [], []⟩ (.slice none 0 0) (.slice none 0 0))
   have hlt : w.heap.size < W1.heap.size := HY.out.lt
   replace HB := Lib.hid (below_step HB.out hal)
   replace HY := Lib.hid (HY.out.below hal)
   have HLb := Lib.hid (HL.out.below hal)
   clear HL hal
   have HL := Lib.hid HLb.out
   clear HLb
   generalize (W1.alloc (Obj.cells #[Value.string (nth L 0), Value.string (nth L 1), Value.int IntKind.i64 0, Value.slice none 0 0, Value.slice none 0 0] 26)).drew = W2 at HX HB HY HL ⊢
   generalize W1.heap.size = Z at HX HL hlt hadZ ⊢
   have hz1 : ¬ Z = w.heap.size := by omega
   have hz2 : ¬ w.heap.size = Z := by omega
   have hz3 : ¬ ad.block = Z := by omega
   have hz4 : ¬ Z = ad.block := by omega
   have p2 := strE (l := L) HL.out.h1 (k := 2) (by omega) (by have := HK.out; omega)
   go_wp2_with fail
   refine (H2.out _).mono ?_
   rintro e W3 ⟨rfl, hb⟩
   replace HB := Lib.hid (below_step HB.out hb)
   replace HY := Lib.hid (HY.out.below hb)
   replace HL := Lib.hid (HL.out.below hb)
   replace HX := Lib.hid (HX.out.below hb)
   clear hb p2
   have HLX := Lib.hid HX.out.lt
   have hmn : min n 8 = m := by rw [← HM.out]; unfold least8; split <;> omega
   have hw : wrap64 m = m := w64 (by omega) (by omega)
   have p3 := strE (l := L) HL.out.h1 (k := 3) (by omega) (by have := HK.out; omega)
   obtain ⟨x0, x1, x2, x3, x4⟩ := HX.out.cell
   have z2 := HX.out.free 2
   go_wp2_with fail
   clear x0 x1 x2 x3 x4 z2 p3 hmn hw
   have HX2 := Lib.hid (HX.out.set2 m)
   replace HB := Lib.hid (HB.out.setCell (p := ⟨Z, 2, none⟩) (Nat.le_of_lt hlt) (.int .i64 m))
   replace HY := Lib.hid (HY.out.far (p := ⟨Z, 2, none⟩) (Nat.ne_of_lt hlt) (.int .i64 m))
   replace HL := Lib.hid (HL.out.far (p := ⟨Z, 2, none⟩) (Or.inr (Nat.le_refl _)) (.int .i64 m))
   clear HX
   have HX := Lib.hid HX2.out
   clear HX2
   refine (H3.out _).mono ?_
   rintro e W4 ⟨AA, cA, rfl, hR, hb⟩
   have HA : Hid (RowAt W4 _ _ AA cA ra) := Lib.hid hR
   have HLoA : Hid (Z < (W3.setCell ⟨Z, 2, none⟩ (.int .i64 m)).heap.size) := Lib.hid HX.out.lt
   replace HB := Lib.hid (below_step HB.out hb)
   replace HY := Lib.hid (HY.out.below hb)
   replace HL := Lib.hid (HL.out.below hb)
   replace HX := Lib.hid (HX.out.below hb)
   clear hR hb
   have p4 := strE (l := L) HL.out.h1 (k := 4) (by omega) (by have := HK.out; omega)
   obtain ⟨x0, x1, x2, x3, x4⟩ := HX.out.cell
   have z3 := HX.out.free 3
   go_wp2_with fail
   clear x0 x1 x2 x3 x4 z3 p4
   have HX2 := Lib.hid (HX.out.set3 (.slice AA ra.length cA))
   replace HB := Lib.hid (HB.out.setCell (p := ⟨Z, 3, none⟩) (Nat.le_of_lt hlt) ((.slice AA ra.length cA)))
   replace HY := Lib.hid (HY.out.far (p := ⟨Z, 3, none⟩) (Nat.ne_of_lt hlt) ((.slice AA ra.length cA)))
   replace HL := Lib.hid (HL.out.far (p := ⟨Z, 3, none⟩) (Or.inr (Nat.le_refl _)) ((.slice AA ra.length cA)))
   replace HA := Lib.hid (HA.out.far (p := ⟨Z, 3, none⟩) (Or.inl HLoA.out) ((.slice AA ra.length cA)))
   clear HX
   have HX := Lib.hid HX2.out
   clear HX2
   refine (H4.out _).mono ?_
   rintro e W5 ⟨AB, cB, rfl, hR, hb⟩
   have HC : Hid (RowAt W5 _ _ AB cB rb) := Lib.hid hR
   have HLoC : Hid (Z < (W4.setCell ⟨Z, 3, none⟩ (.slice AA ra.length cA)).heap.size) := Lib.hid HX.out.lt
   replace HB := Lib.hid (below_step HB.out hb)
   replace HY := Lib.hid (HY.out.below hb)
   replace HL := Lib.hid (HL.out.below hb)
   replace HX := Lib.hid (HX.out.below hb)
   replace HA := Lib.hid (HA.out.below hb)
   clear hR hb
   obtain ⟨x0, x1, x2, x3, x4⟩ := HX.out.cell
   have z4 := HX.out.free 4
   go_wp2_with fail
   clear x0 x1 x2 x3 x4 z4
   have HX2 := Lib.hid (HX.out.set4 (.slice AB rb.length cB))
   replace HB := Lib.hid (HB.out.setCell (p := ⟨Z, 4, none⟩) (Nat.le_of_lt hlt) ((.slice AB rb.length cB)))
   replace HY := Lib.hid (HY.out.far (p := ⟨Z, 4, none⟩) (Nat.ne_of_lt hlt) ((.slice AB rb.length cB)))
   replace HL := Lib.hid (HL.out.far (p := ⟨Z, 4, none⟩) (Or.inr (Nat.le_refl _)) ((.slice AB rb.length cB)))
   replace HA := Lib.hid (HA.out.far (p := ⟨Z, 4, none⟩) (Or.inl HLoA.out) ((.slice AB rb.length cB)))
   replace HC := Lib.hid (HC.out.far (p := ⟨Z, 4, none⟩) (Or.inl HLoC.out) ((.slice AB rb.length cB)))
   clear HX
   have HX := Lib.hid HX2.out
   clear HX2
   have HRR := Lib.hid (rows_of (r := ⟨nth L 0, nth L 1, m, ra, rb⟩) (B := Z) HA.out HC.out (Nat.le_of_lt HLoA.out) (Nat.le_of_lt HLoC.out))
   have HXX : Hid (BoxAt (W5.setCell ⟨Z, 4, none⟩ (.slice AB rb.length cB)) Z ⟨nth L 0, nth L 1, m, ra, rb⟩ (.slice AA ra.length cA) (.slice AB rb.length cB)) := Lib.hid HX.out
   clear HX HA HC HL hz3 hz4 hadZ n0 n1 l5 l5b l5c l5d l5e t5 hn hm0
   refine (HPT.out AA cA AB cB _ HB.out (HRR.out.lower (Nat.zero_le _))).mono ?_
   rintro e W6 ⟨rfl, hb⟩
   replace HB := Lib.hid (below_step HB.out hb)
   replace HY := Lib.hid (HY.out.below hb)
   replace HXX := Lib.hid (HXX.out.below hb)
   replace HRR := Lib.hid (HRR.out.below hb)
   clear hb HPT
   obtain ⟨P1, P2⟩ := P
   simp only at HRT
   by_cases c6 : P2 = 0
   ·have t6 : (P2 != 0) = false := by rw [c6]; rfl
    by_cases c7 : P1 = s
    ·have t7 : (P1.toList != s.toList) = false := by rw [c7]; simp
     have t7b : P1.toList = s.toList := by rw [c7]
     have t7c : (P1.toList == s.toList) = true := by rw [c7]; simp
     have HN : Hid (takeR s = (⟨nth L 0, nth L 1, m, ra, rb⟩, 0)) := Lib.hid (by rw [HRT.out, if_pos ⟨c6, c7⟩])
     have t6b : (P2 == 0) = true := by rw [c6]; rfl
     obtain ⟨x0, x1, x2, x3, x4⟩ := HXX.out.cell
     obtain ⟨y0, y1, y2, y3, y4⟩ := HY.out.cell
     have z0 := HY.out.free 0
     have z1 := HY.out.free 1
     have z2 := HY.out.free 2
     have z3 := HY.out.free 3
     have z4 := HY.out.free 4
     go_wp2
     obtain ⟨cs, hcs, hblk⟩ := HY.out.put ⟨nth L 0, nth L 1, m, ra, rb⟩ (.slice AA ra.length cA) (.slice AB rb.length cB)
     have hbl := BoxAt.put_below (b := w.heap.size) HB.out (Nat.le_refl _) ⟨nth L 0, nth L 1, m, ra, rb⟩ (.slice AA ra.length cA) (.slice AB rb.length cB)
     subst hcs
     dsimp only at hblk hbl
     refine bodyPost_ret (results_ct rfl _ _ w.heap.size 26 _ (0, 0) _ rfl hblk Tryd.underlying26 rfl (by kernel_rfl)) rfl ?_
     rw [HN.out]
     exact ⟨AA, cA, AB, cB, rfl, (HRR.out.put (b := w.heap.size) hlt _ _ _ _ _).lower (Nat.le_of_lt hlt), hbl⟩
    ·have t7 : (P1.toList != s.toList) = true := by rw [bne_iff_ne]; exact fun e => c7 ((list_eq _ _).1 e)
     have t7b : ¬ P1.toList = s.toList := fun e => c7 ((list_eq _ _).1 e)
     have t7c : (P1.toList == s.toList) = false := by rw [beq_eq_false_iff_ne]; exact t7b
     have HN : Hid (takeR s = (noRt, 2)) := Lib.hid (by rw [HRT.out, if_neg (fun h => c7 h.2)])
     clear c6 c7
     obtain ⟨y0, y1, y2, y3, y4⟩ := HY.out.cell
     have z0 := HY.out.free 0
     have z1 := HY.out.free 1
     have z2 := HY.out.free 2
     have z3 := HY.out.free 3
     have z4 := HY.out.free 4
     go_wp2
     obtain ⟨cs, hcs, hblk⟩ := HY.out.put noRt (.slice none 0 0) (.slice none 0 0)
     have hbl := BoxAt.put_below (b := w.heap.size) HB.out (Nat.le_refl _) noRt (.slice none 0 0) (.slice none 0 0)
     subst hcs
     refine bodyPost_ret (results_ct rfl _ _ w.heap.size 26 _ (0, 0) _ rfl hblk Tryd.underlying26 rfl (by kernel_rfl)) rfl ?_
     rw [HN.out]
     exact ⟨none, 0, none, 0, rfl, RowsAt.no _ _, hbl⟩
   ·have t6 : (P2 != 0) = true := by rw [bne_iff_ne]; exact c6
    have HN : Hid (takeR s = (noRt, 2)) := Lib.hid (by rw [HRT.out, if_neg (fun h => c6 h.1)])
    clear c6
    obtain ⟨y0, y1, y2, y3, y4⟩ := HY.out.cell
    have z0 := HY.out.free 0
    have z1 := HY.out.free 1
    have z2 := HY.out.free 2
    have z3 := HY.out.free 3
    have z4 := HY.out.free 4
    go_wp2
    obtain ⟨cs, hcs, hblk⟩ := HY.out.put noRt (.slice none 0 0) (.slice none 0 0)
    have hbl := BoxAt.put_below (b := w.heap.size) HB.out (Nat.le_refl _) noRt (.slice none 0 0) (.slice none 0 0)
    subst hcs
    refine bodyPost_ret (results_ct rfl _ _ w.heap.size 26 _ (0, 0) _ rfl hblk Tryd.underlying26 rfl (by kernel_rfl)) rfl ?_
    rw [HN.out]
    exact ⟨none, 0, none, 0, rfl, RowsAt.no _ _, hbl⟩
  ·have t5 : ((L.length : Int) != 5) = true := by rw [bne_iff_ne]; omega
   have HN : Hid (takeR s = (noRt, 2)) := Lib.hid (by unfold takeR; rw [HV.out, if_neg (fun h => c5 h.2)])
   clear c5
   obtain ⟨y0, y1, y2, y3, y4⟩ := HY.out.cell
   have z0 := HY.out.free 0
   have z1 := HY.out.free 1
   have z2 := HY.out.free 2
   have z3 := HY.out.free 3
   have z4 := HY.out.free 4
   go_wp2
   obtain ⟨cs, hcs, hblk⟩ := HY.out.put noRt (.slice none 0 0) (.slice none 0 0)
   have hbl := BoxAt.put_below (b := w.heap.size) HB.out (Nat.le_refl _) noRt (.slice none 0 0) (.slice none 0 0)
   subst hcs
   refine bodyPost_ret (results_ct rfl _ _ w.heap.size 26 _ (0, 0) _ rfl hblk Tryd.underlying26 rfl (by kernel_rfl)) rfl ?_
   rw [HN.out]
   exact ⟨none, 0, none, 0, rfl, RowsAt.no _ _, hbl⟩
 ·have t0 : (e0 != 0) = true := by rw [bne_iff_ne]; exact c0
  have HN : Hid (takeR s = (noRt, 2)) := Lib.hid (by unfold takeR; rw [HV.out, if_neg (fun h => c0 h.1)])
  clear c0
  obtain ⟨y0, y1, y2, y3, y4⟩ := HY.out.cell
  have z0 := HY.out.free 0
  have z1 := HY.out.free 1
  have z2 := HY.out.free 2
  have z3 := HY.out.free 3
  have z4 := HY.out.free 4
  go_wp2
  obtain ⟨cs, hcs, hblk⟩ := HY.out.put noRt (.slice none 0 0) (.slice none 0 0)
  have hbl := BoxAt.put_below (b := w.heap.size) HB.out (Nat.le_refl _) noRt (.slice none 0 0) (.slice none 0 0)
  subst hcs
  refine bodyPost_ret (results_ct rfl _ _ w.heap.size 26 _ (0, 0) _ rfl hblk Tryd.underlying26 rfl (by kernel_rfl)) rfl ?_
  rw [HN.out]
  exact ⟨none, 0, none, 0, rfl, RowsAt.no _ _, hbl⟩
theorem take_at {w : World} (HTB : Aside0 (Tabs w)) {s : ByteArray} (hs : s.size ≤ 100000) {S : Rt × Int} (hS : takeR s = S) :
  ∀ W : World, Below w.heap.size w W → Calls Tryd.prog 22 #[.string s] W (Told W S) :=
 fun W hb => hS ▸ take_call s W ⟨HTB.out.below hb⟩ hs
end Go.Proofs.YtfhanoloaejmkaaDoor
end
