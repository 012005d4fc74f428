/- Contracts and laws that the statement of LawRightsUndo,LawRightsBack,LawRightsErrs leans on (packed from this claim's own texts): part 17. -/
import Derived.LoopTactic
import Derived.Test.YtfhanoloaejmkaaDoorQM16
section

namespace Go.Proofs.YtfhanoloaejmkaaDoor
open Go.RowKit Go.Proofs.YtfhanoloaejmkaaDoorW.PrintWords Go.Proofs.YtfhanoloaejmkaaDoorW.PrintLast Go.Proofs.YtfhanoloaejmkaaDoor.Ref
set_option linter.unusedVariables false
set_option linter.unusedSimpArgs false
def doneStep (r : Rt) (a : Int × Int) : Rt :=
 let R := if pickN a.1 3 = 0 then grantF r (whoF a.2) false else if pickN a.1 3 = 1 then grantF r (whoF a.2) true else revokeF r (whoF a.2)
 if R.2 = 0 then R.1 else r
def doneF (l : List (Int × Int)) : Rt := (l.take 40).foldl doneStep r0
theorem done_step {l : List (Int × Int)} {k : Nat} (h : k < l.length) : (l.take (k + 1)).foldl doneStep r0 = doneStep ((l.take k).foldl doneStep r0) l[k] := by
 rw [List.take_add_one, List.getElem?_eq_getElem h, List.foldl_append]; rfl
theorem done_end {l : List (Int × Int)} {k : Nat} (h1 : k ≤ l.length) (h2 : k ≤ 40) (h : ¬ (k < l.length) ∨ ¬ (k < 40)) : (l.take k).foldl doneStep r0 = doneF l := by
 unfold doneF
 rcases h with h | h
 ·rw [List.take_of_length_le (by omega), List.take_of_length_le (by omega)]
 ·rw [show k = 40 by omega]
theorem who_good (c : Int) : rightN (bytes (whoF c)) = true := by
 have h := pick_lt c (n := 8) (by omega)
 unfold whoF
 generalize pickN c 8 = k at *
 match k, h with
 | 0, _ => decide +kernel
 | 1, _ => decide +kernel
 | 2, _ => decide +kernel
 | 3, _ => decide +kernel
 | 4, _ => decide +kernel
 | 5, _ => decide +kernel
 | 6, _ => decide +kernel
 | 7, _ => decide +kernel
 | k + 8, h => exact absurd h (by omega)
def Good7 (r : Rt) : Prop := rightR r = true ∧ r.o = anna ∧ r.f = notes
theorem good_step {r : Rt} (h : Good7 r) (a : Int × Int) : Good7 (doneStep r a) := by
 have hw := who_good a.2
 have hg : ∀ b, Good7 (if (grantF r (whoF a.2) b).2 = 0 then (grantF r (whoF a.2) b).1 else r) := by
  intro b
  rw [grant_cases h.1 hw]
  split
  ·rw [if_neg (by simp)]; exact h
  ·rename_i c
   split
   ·rw [if_neg (by simp)]; exact h
   ·rename_i d
    rw [if_pos rfl]
    have c' : canF r (whoF a.2) false = false := by simpa using c
    have hp := put_right h.1 hw c' (by omega) b
    have hc := put_can h.1 hp c'
    exact ⟨hp, hc.2.2.2.1.trans h.2.1, hc.2.2.2.2.1.trans h.2.2⟩
 show Good7 (if (if pickN a.1 3 = 0 then grantF r (whoF a.2) false else if pickN a.1 3 = 1 then grantF r (whoF a.2) true else revokeF r (whoF a.2)).2 = 0 then (if pickN a.1 3 = 0 then grantF r (whoF a.2) false else if pickN a.1 3 = 1 then grantF r (whoF a.2) true else revokeF r (whoF a.2)).1 else r)
 by_cases e0 : pickN a.1 3 = 0
 ·rw [if_pos e0]; exact hg false
 ·rw [if_neg e0]
  by_cases e1 : pickN a.1 3 = 1
  ·rw [if_pos e1]; exact hg true
  ·rw [if_neg e1, revoke_cases h.1 hw]
   split
   ·split
    ·rw [if_neg (by simp)]; exact h
    ·rename_i d
     rw [if_pos rfl]
     exact ⟨struck_right h.1 _ d, h.2.1, h.2.2⟩
   ·rw [if_neg (by simp)]; exact h
theorem good_fold (l : List (Int × Int)) {r : Rt} (h : Good7 r) : Good7 (l.foldl doneStep r) := by
 induction l generalizing r with
 | nil => exact h
 | cons a l ih => exact ih (good_step h a)
theorem good_done (l : List (Int × Int)) : Good7 (doneF l) := good_fold _ ⟨right0, rfl, rfl⟩
theorem BoxAt.off {w : World} {b b' : Nat} {r : Rt} {v3 v4 : Value} (h : BoxAt w b r v3 v4) (hp : b ≠ b') (a1 a2 a3 a4 a5 : Value) :
  BoxAt (((((w.setCell ⟨b', 0, none⟩ a1).setCell ⟨b', 1, none⟩ a2).setCell ⟨b', 2, none⟩ a3).setCell ⟨b', 3, none⟩ a4).setCell ⟨b', 4, none⟩ a5) b r v3 v4 :=
 ((((h.far (p := ⟨b', 0, none⟩) hp a1).far (p := ⟨b', 1, none⟩) hp a2).far (p := ⟨b', 2, none⟩) hp a3).far (p := ⟨b', 3, none⟩) hp a4).far (p := ⟨b', 4, none⟩) hp a5
theorem C_lt {w : World} {A : Option Addr} {l : List ByteArray} (h : Kd.C Kd.string w A l.length l) (ad : Addr) (e : A = some ad) (hn : 0 < l.length) : ad.block < w.heap.size := by
 obtain ⟨ad', rfl, hc⟩ := h.2.2 hn
 obtain rfl := Option.some.inj e
 obtain ⟨cs, hl, hK, hz⟩ := hc 0 l[0] (List.getElem?_eq_getElem hn)
 obtain rfl : cs = [.string l[0]] := hK
 have := hz 0 _ rfl
 have h2 : ad'.block < w.heap.size := block_lt_of_cell this
 exact h2
def RowsOff (A A' : Option Addr) (l l' : List ByteArray) (b : Nat) : Prop := (∀ ad, A = some ad → 0 < l.length → ad.block ≠ b) ∧ ∀ ad, A' = some ad → 0 < l'.length → ad.block ≠ b
theorem C_apart {w : World} {A : Option Addr} {l : List ByteArray} (h : Kd.C Kd.string w A l.length l) {p : Addr} (hp : ∀ ad, A = some ad → 0 < l.length → ad.block ≠ p.block) (u : Value) : Kd.C Kd.string (w.setCell p u) A l.length l := by
 refine ⟨h.1, h.2.1, fun hn => ?_⟩
 obtain ⟨ad, rfl, hc⟩ := h.2.2 hn
 refine ⟨ad, rfl, fun j q hj => ?_⟩
 obtain ⟨cs, hl, hK, hz⟩ := hc j q hj
 refine ⟨cs, hl, hK, fun i x hx => ?_⟩
 rw [← hz i x hx]
 refine World.cell?_of_block (Below.heap_setCell w p u _ ?_)
 rw [add_block]
 exact hp ad rfl hn
theorem RowsAt.apart1 {w : World} {B b : Nat} {r : Rt} {A : Option Addr} {c : Nat} {A' : Option Addr} {c' : Nat} (h : RowsAt w B r A c A' c') (hp : RowsOff A A' r.rs r.ws b) (i : Nat) (u : Value) : RowsAt (w.setCell ⟨b, i, none⟩ u) B r A c A' c' :=
 ⟨C_apart h.h1 hp.1 u, h.h2, C_apart h.h3 hp.2 u, h.h4, h.h5, h.h6⟩
theorem RowsAt.apart {w : World} {B b : Nat} {r : Rt} {A : Option Addr} {c : Nat} {A' : Option Addr} {c' : Nat} (h : RowsAt w B r A c A' c') (hp : RowsOff A A' r.rs r.ws b) (a1 a2 a3 a4 a5 : Value) :
  RowsAt (((((w.setCell ⟨b, 0, none⟩ a1).setCell ⟨b, 1, none⟩ a2).setCell ⟨b, 2, none⟩ a3).setCell ⟨b, 3, none⟩ a4).setCell ⟨b, 4, none⟩ a5) B r A c A' c' :=
 ((((h.apart1 hp 0 a1).apart1 hp 1 a2).apart1 hp 2 a3).apart1 hp 3 a4).apart1 hp 4 a5
theorem rows_off {w : World} {B : Nat} {r : Rt} {A : Option Addr} {c : Nat} {A' : Option Addr} {c' : Nat} (h : RowsAt w B r A c A' c') : RowsOff A A' r.rs r.ws w.heap.size :=
 ⟨fun ad e hn => Nat.ne_of_lt (C_lt h.h1 ad e hn), fun ad e hn => Nat.ne_of_lt (C_lt h.h3 ad e hn)⟩
def TheR (w : World) (R : Rt) (e : Ending) (w' : World) : Prop := ∃ A c A' c', e = .returned (.agg #[.string R.o, .string R.f, .int .i64 R.e, .slice A R.rs.length c, .slice A' R.ws.length c']) ∧ RowsAt w' w.heap.size R A c A' c' ∧ Below w.heap.size w w'
theorem boxed {w w2 : World} {B : Nat} {R : Rt} {A : Option Addr} {c : Nat} {A' : Option Addr} {c' : Nat} (hb : Below w.heap.size w w2) (h : RowsAt w2 B R A c A' c') :
  Below w.heap.size w (w2.alloc (Obj.cells #[Value.string R.o, Value.string R.f, Value.int IntKind.i64 R.e, .slice A R.rs.length c, .slice A' R.ws.length c'] 26)) ∧
  RowsAt (w2.alloc (Obj.cells #[Value.string R.o, Value.string R.f, Value.int IntKind.i64 R.e, .slice A R.rs.length c, .slice A' R.ws.length c'] 26)) B R A c A' c' :=
 ⟨below_alloc hb _, h.below (below_alloc (Below.refl _ _) _)⟩
def DnRel (w : World) (RB : Nat) (l : List (Int × Int)) (i : Nat) (wr : World) : Prop := Below w.heap.size w wr ∧ ∃ r A1 c1 A2 c2, r = (l.take i).foldl doneStep r0 ∧ BoxAt wr w.heap.size noRt (.slice none 0 0) (.slice none 0 0) ∧ BoxAt wr RB r (.slice A1 r.rs.length c1) (.slice A2 r.ws.length c2) ∧ RowsAt wr (w.heap.size + 1) r A1 c1 A2 c2
def rgDn.T10 : Bool × List (List Nat × List Nat) := (true, [([], []), ([], []), ([], []), ([1, 2], [1, 2]), ([3], [3]), ([4], [4]), ([5], [5]), ([0, 6, 6], [0, 6]), ([7], [7]), ([8], [8]), ([8], [8]), ([9, 7, 0, 1, 2, 3, 4, 5, 6, 7, 8, 9], [9]), ([10, 11, 0, 1, 2, 3, 4, 5, 6, 7, 8, 9, 10, 11], [10])])
def rgDn.B10 : List Nat := [0, 0, 0, 6, 14, 30, 62, 127, 255, 511, 511, 1023, 4095]
theorem rgDn.tab10 : rtab .any (opsOf Tryd.f18 10) = rgDn.T10 := by kernel_rfl
theorem rgDn.bits10 : waitsOk rgDn.T10.2 rgDn.B10 = true := by kernel_rfl
def rgDn.T12 : Bool × List (List Nat × List Nat) := (true, [([], []), ([], []), ([], []), ([1, 2], [1, 2]), ([3], [3]), ([4], [4]), ([5], [5]), ([0, 6, 6], [0, 6]), ([7], [7]), ([8], [8]), ([8], [8]), ([9, 7, 0, 1, 2, 3, 4, 5, 6, 7, 8, 9], [9]), ([10, 11, 0, 1, 2, 3, 4, 5, 6, 7, 8, 9, 10, 11], [10])])
def rgDn.B12 : List Nat := [0, 0, 0, 6, 14, 30, 62, 127, 255, 511, 511, 1023, 4095]
theorem rgDn.tab12 : rtab .any (opsOf Tryd.f18 12) = rgDn.T12 := by kernel_rfl
theorem rgDn.bits12 : waitsOk rgDn.T12.2 rgDn.B12 = true := by kernel_rfl
def rgDn.T8 : Bool × List (List Nat × List Nat) := (true, [([], []), ([], []), ([], []), ([1, 2], [1, 2]), ([3], [3]), ([4], [4]), ([5], [5]), ([0, 6, 6], [0, 6]), ([7], [7]), ([8], [8]), ([8], [8]), ([9, 7, 0, 1, 2, 3, 4, 5, 6, 7, 8, 9], [9]), ([10, 11, 0, 1, 2, 3, 4, 5, 6, 7, 8, 9, 10, 11], [10])])
def rgDn.B8 : List Nat := [0, 0, 0, 6, 14, 30, 62, 127, 255, 511, 511, 1023, 4095]
theorem rgDn.tab8 : rtab .any (opsOf Tryd.f18 8) = rgDn.T8 := by kernel_rfl
theorem rgDn.bits8 : waitsOk rgDn.T8.2 rgDn.B8 = true := by kernel_rfl
set_option maxHeartbeats 8000000 in
set_option maxRecDepth 100000 in
theorem done_any (A : Option Addr) (c : Nat) (l : List (Int × Int)) (w : World) (hr : Kd.C actK w A l.length l) (hl : l.length ≤ 9223372036854775807) (ha : ∀ a ∈ l, actOk a) :
  Calls Tryd.prog 18 #[.slice A l.length c] w (TheR w (doneF l)) := by
 have HC := Lib.hid hr
 have HA := Lib.hid ha
 clear hr ha
 go_enter Tryd.func18, Tryd.ntmps18
 have hb0 : Below w.heap.size w (w.alloc (Obj.cells #[Value.string { data := #[] }, Value.string { data := #[] }, Value.int IntKind.i64 0, Value.slice none 0 0, Value.slice none 0 0] 26)) := below_alloc (Below.refl _ _) _
 have HXB : Hid (BoxAt (w.alloc (Obj.cells #[Value.string { data := #[] }, Value.string { data := #[] }, Value.int IntKind.i64 0, Value.slice none 0 0, Value.slice none 0 0] 26)) w.heap.size noRt (.slice none 0 0) (.slice none 0 0)) := ⟨_, rfl, heap_new _ _ _ rfl⟩
 have H2 := refNew_call anna notes (w.alloc (Obj.cells #[Value.string { data := #[] }, Value.string { data := #[] }, Value.int IntKind.i64 0, Value.slice none 0 0, Value.slice none 0 0] 26)) (by decide +kernel) (by decide +kernel)
 rw [new0] at H2
 replace H2 := Lib.hid H2
 have HB := Lib.hid hb0
 clear hb0
 go_wp2_with fail
 refine H2.out.mono ?_
 rintro e w2 ⟨A1, c1, A2, c2, rfl, hr2, hb2⟩
 have hrr2 : RowsAt w2 (w.heap.size + 1) r0 A1 c1 A2 c2 := by
  have h := hr2
  rwa [World.size_alloc] at h
 obtain ⟨hb3, hr3⟩ := boxed hb2 hrr2
 have HXR := Lib.hid (box_new w2 r0 (.slice A1 r0.rs.length c1) (.slice A2 r0.ws.length c2))
 replace HB := Lib.hid (below_step HB.out hb3)
 replace HXB := Lib.hid (HXB.out.below hb3)
 have HRR := Lib.hid hr3
 have HLX : Hid (w.heap.size < w2.heap.size) := by
  have := hb2.size
  rw [World.size_alloc] at this
  exact Lib.hid (by omega)
 clear hb2 hr2 hrr2 H2 hb3 hr3
 go_wp2_with fail
 generalize hW : (w2.alloc (Obj.cells #[Value.string r0.o, Value.string r0.f, Value.int IntKind.i64 r0.e, .slice A1 r0.rs.length c1, .slice A2 r0.ws.length c2] 26)) = W at HB HXB HXR HRR ⊢
 generalize w2.heap.size = RB at HLX HXR ⊢
 clear hW
 have HG := Lib.hid (show DnRel w RB l 0 W from ⟨HB.out, r0, A1, c1, A2, c2, rfl, HXB.out, HXR.out, HRR.out⟩)
 clear HB HXB HXR HRR
 go_loopw [5] (fun i wr => ∃ k : Nat, k ≤ l.length ∧ k ≤ 40 ∧ i = .int .i64 k ∧ DnRel w RB l k wr) (fun i _ => 40 - (intOf i).toNat)
 case atStart => exact ⟨0, Nat.zero_le _, Nat.zero_le _, rfl, HG.out⟩
 case round =>
  clear HG
  obtain ⟨k, hk, hk40, rfl, hB, r, A1, c1, A2, c2, hr, hXB, hX, hR⟩ := hrel
  have HB := Lib.hid hB
  have HXB := Lib.hid hXB
  have HXR := Lib.hid hX
  have HRR := Lib.hid hR
  have Hr := Lib.hid hr
  have HGR : Hid (Good7 r) := Lib.hid (by rw [hr]; exact good_fold _ ⟨right0, rfl, rfl⟩)
  clear hB hXB hX hR hr
  by_cases hlt : k < l.length
  ·by_cases h40 : k < 40
   ·obtain ⟨ad, hA, hop0, hwho0⟩ := actC HC.out hlt
    subst hA
    have hop := pw_cell_below HB.out hop0
    have HWC := Lib.hid (pw_cell_below HB.out hwho0)
    have hak := HA.out l[k] (List.getElem_mem hlt)
    have HST := Lib.hid (done_step hlt)
    rw [← Hr.out] at HST
    clear hop0 hwho0
    generalize l[k] = a at *
    obtain ⟨op, who⟩ := a
    obtain ⟨hop1, hwho1⟩ := hak
    simp only at hop HWC hop1 hwho1
    have HW := Lib.hid (fun W => who_call who W hwho1)
    obtain ⟨u, hu⟩ : ∃ u, whoF who = u := ⟨_, rfl⟩
    have HU := Lib.hid (hu ▸ who_good who)
    have HUE := Lib.hid hu
    rw [hu] at HW
    clear hu
    have HPK : Hid (∀ W : World, Calls Tryd.prog 13 #[.int .i64 op, .int .i64 3] W fun e w' => e = .returned (.int .i64 (pickN op 3 : Nat)) ∧ Below W.heap.size W w') := fun W => pick_call op 3 W (by omega) (by omega) hop1
    have hp3 := pick_lt op (n := 3) (by omega)
    obtain ⟨p, hqp⟩ : ∃ p, pickN op 3 = p := ⟨_, rfl⟩
    rw [hqp] at HPK hp3
    have hnew : Below wr.heap.size wr (wr.alloc (Obj.cells #[Value.string r.o, Value.string r.f, Value.int IntKind.i64 r.e, .slice A1 r.rs.length c1, .slice A2 r.ws.length c2] 26)) := below_alloc (Below.refl _ _) _
    have hop2 := pw_cell_below hnew hop
    clear hop
    have HSB := Lib.hid (box_new wr r (.slice A1 r.rs.length c1) (.slice A2 r.ws.length c2))
    have HLR := Lib.hid HXR.out.lt
    have HRN := Lib.hid (rows_off HRR.out)
    obtain ⟨x0, x1, x2, x3, x4⟩ := HXR.out.cell
    go_wp2_with fail
    refine (HPK.out _).mono ?_
    rintro e w4 ⟨rfl, hb4⟩
    have hb := below_step hnew hb4
    replace HSB := Lib.hid (HSB.out.below hb4)
    replace HB := Lib.hid (below_step HB.out hb)
    replace HXB := Lib.hid (HXB.out.below hb)
    replace HXR := Lib.hid (HXR.out.below hb)
    replace HRR := Lib.hid (HRR.out.below hb)
    replace HWC := Lib.hid (pw_cell_below hb HWC.out)
    clear hb hb4 hnew x0 x1 x2 x3 x4 HPK hop2
    generalize wr.heap.size = SB at HSB HLR HRN ⊢
    obtain hq | hq | hq : p = 0 ∨ p = 1 ∨ p = 2 := by omega
    ·subst hq
     have HCALL := Lib.hid (fun (W : World) (h : RowsAt W (w.heap.size + 1) r A1 c1 A2 c2) => refGrant_call r u false A1 c1 A2 c2 W (right_small HGR.out.1) (name_small HU.out) h)
     have hST : (l.take (k + 1)).foldl doneStep r0 = if (grantF r u false).2 = 0 then (grantF r u false).1 else r := by
      rw [HST.out]; unfold doneStep; rw [hqp, HUE.out]; rfl
     obtain ⟨R, hR⟩ : ∃ R, grantF r u false = R := ⟨_, rfl⟩
     rw [hR] at HCALL hST
     clear hR hqp
     have HSU := Lib.hid hST
     clear hST
     go_wp2_with fail
     have hb : Below w4.heap.size w4 w4.drew := below_drew (Below.refl _ _)
     replace HB := Lib.hid (below_step HB.out hb)
     replace HXB := Lib.hid (HXB.out.below hb)
     replace HXR := Lib.hid (HXR.out.below hb)
     replace HRR := Lib.hid (HRR.out.below hb)
     replace HSB := Lib.hid (HSB.out.below hb)
     replace HWC := Lib.hid (pw_cell_below hb HWC.out)
     clear hb
     refine start_ (n := 13) (S := fun w' => w'.cell? ⟨RB, 0, none⟩ = some (.string r.o) ∧ w'.cell? ⟨RB, 1, none⟩ = some (.string r.f) ∧ w'.cell? ⟨RB, 2, none⟩ = some (.int .i64 r.e) ∧ w'.cell? ⟨RB, 3, none⟩ = some (.slice A1 r.rs.length c1) ∧ w'.cell? ⟨RB, 4, none⟩ = some (.slice A2 r.ws.length c2) ∧ w'.cell? ⟨(ad.add (k * 2)).block, (ad.add (k * 2)).off + 1, none⟩ = some (.int .i64 who)) (ds := [11]) #[false, false, false, false, false, false, false, false, false, false, false, false, false] (by kernel_rfl) rfl rfl ⟨HXR.out.cell.1, HXR.out.cell.2.1, HXR.out.cell.2.2.1, HXR.out.cell.2.2.2.1, HXR.out.cell.2.2.2.2, HWC.out⟩ (fun hHeld => ?_)
     refine with_tabW rgDn.tab10 rgDn.bits10 (fun HT_ HW_ => ?_)
     refine pure_ (i := 1) (N := some 44) (v := ?_) (a' := ?_) #[false, true, false, false, false, false, false, false, false, false, false, false, false] rfl rfl (any_of HT_.out (by kernel_rfl)) (fun _ _ _ h => h) (Or.inl ⟨by rfl, ?_⟩) ?_ ?_
     rotate_left
     ·intro w'
      go_simp
      with_reducible rfl
     rotate_left
     ·simp only [Act.put, List.setIfInBounds_toArray, List.set_cons_zero, List.set_cons_succ, i64_w, i32_w]
      rfl
     refine pure_ (i := 2) (N := some 45) (v := ?_) (a' := ?_) #[false, true, true, false, false, false, false, false, false, false, false, false, false] rfl rfl (any_of HT_.out (by kernel_rfl)) (fun _ _ _ h => h) (Or.inl ⟨by rfl, ?_⟩) ?_ ?_
     rotate_left
     ·intro w'
      go_simp
      with_reducible rfl
     rotate_left
     ·simp only [Act.put, List.setIfInBounds_toArray, List.set_cons_zero, List.set_cons_succ, i64_w, i32_w]
      rfl
     refine pure_ (i := 3) (N := some 46) (v := ?_) (a' := ?_) #[false, true, true, true, false, false, false, false, false, false, false, false, false] rfl rfl (any_of HT_.out (by kernel_rfl)) (fun _ _ _ h => h) (Or.inl ⟨by rfl, ?_⟩) ?_ ?_
     rotate_left
     ·intro w'
      go_simp
      with_reducible rfl
     rotate_left
     ·simp only [Act.put, List.setIfInBounds_toArray, List.set_cons_zero, List.set_cons_succ, i64_w, i32_w]
      rfl
     refine pure_ (i := 4) (N := some 47) (v := ?_) (a' := ?_) #[false, true, true, true, true, false, false, false, false, false, false, false, false] rfl rfl (any_of HT_.out (by kernel_rfl)) (fun _ _ _ h => h) (Or.inl ⟨by rfl, ?_⟩) ?_ ?_
     rotate_left
     ·intro w'
      go_simp
      with_reducible rfl
     rotate_left
     ·simp only [Act.put, List.setIfInBounds_toArray, List.set_cons_zero, List.set_cons_succ, i64_w, i32_w]
      rfl
     refine take_ (i := 0) (N := some 43) (v := ?_) (a' := ?_) #[true, true, true, true, true, false, false, false, false, false, false, false, false] rfl rfl (take_ofW HT_.out HW_.out (by kernel_rfl)) (fun _ _ _ h => h) (Or.inl ⟨by rfl, ?_⟩) hHeld ?_ ?_
     rotate_left
     ·rintro w' ⟨s0, s1, s2, s3, s4, s5⟩
      go_simp
      with_reducible rfl
     rotate_left
     ·simp only [Act.put, List.setIfInBounds_toArray, List.set_cons_zero, List.set_cons_succ, i64_w, i32_w]
      rfl
     refine take_ (i := 5) (N := some 48) (v := ?_) (a' := ?_) #[true, true, true, true, true, true, false, false, false, false, false, false, false] rfl rfl (take_ofW HT_.out HW_.out (by kernel_rfl)) (fun _ _ _ h => h) (Or.inl ⟨by rfl, ?_⟩) hHeld ?_ ?_
     rotate_left
     ·rintro w' ⟨s0, s1, s2, s3, s4, s5⟩
      go_simp
      with_reducible rfl
     rotate_left
     ·simp only [Act.put, List.setIfInBounds_toArray, List.set_cons_zero, List.set_cons_succ, i64_w, i32_w]
      rfl
     refine one_ (i := 6) (N := some 49) #[true, true, true, true, true, true, true, false, false, false, false, false, false] rfl rfl (one_of HT_.out (by kernel_rfl)) (by decide) (fun K hK => ?_)
     refine goes_ Tryd.func12 (by kernel_rfl) rfl #[.int .i64 who] (by rfl) rfl rfl (by simp only [List.map_toArray, List.map_cons, List.map_nil]; rfl) ?_
     with_reducible refine (HW.out _).mono ?_
     rintro e w5 ⟨rfl, hb⟩
     refine ⟨_, rfl, ?_⟩
     replace HB := Lib.hid (below_step HB.out hb)
     replace HXB := Lib.hid (HXB.out.below hb)
     replace HXR := Lib.hid (HXR.out.below hb)
     replace HRR := Lib.hid (HRR.out.below hb)
     replace HSB := Lib.hid (HSB.out.below hb)
     replace HWC := Lib.hid (pw_cell_below hb HWC.out)
     clear hb
     refine hK.out _ _ ⟨HXR.out.cell.1, HXR.out.cell.2.1, HXR.out.cell.2.2.1, HXR.out.cell.2.2.2.1, HXR.out.cell.2.2.2.2, HWC.out⟩ (fun hHeld => ?_)
     clear hK K
     refine norm_ (a' := ?_) ?_ ?_
     rotate_left
     ·show Act.put _ (some 49) _ = _
      simp only [Act.put, List.setIfInBounds_toArray, List.set_cons_zero, List.set_cons_succ, i64_w, i32_w]
      rfl
     refine one_ (i := 7) (N := some 50) #[true, true, true, true, true, true, true, true, false, false, false, false, false] rfl rfl (one_of HT_.out (by kernel_rfl)) (by decide) (fun K hK => ?_)
     refine goes_ Tryd.func24 (by kernel_rfl) rfl #[.agg #[.string r.o, .string r.f, .int .i64 r.e, .slice A1 r.rs.length c1, .slice A2 r.ws.length c2], .string u, .bool false] (by rfl) rfl rfl (by simp only [List.map_toArray, List.map_cons, List.map_nil]; rfl) ?_
     with_reducible refine (HCALL.out _ HRR.out).mono ?_
     rintro e w6 ⟨A3, c3, A4, c4, rfl, hr6, hb⟩
     refine ⟨_, rfl, ?_⟩
     have HLS := Lib.hid HSB.out.lt
     replace HB := Lib.hid (below_step HB.out hb)
     replace HXB := Lib.hid (HXB.out.below hb)
     replace HXR := Lib.hid (HXR.out.below hb)
     replace HRR := Lib.hid (HRR.out.below hb)
     replace HSB := Lib.hid (HSB.out.below hb)
     replace HWC := Lib.hid (pw_cell_below hb HWC.out)
     have HR6 := Lib.hid hr6
     clear hb hr6
     refine hK.out _ _ ⟨HXR.out.cell.1, HXR.out.cell.2.1, HXR.out.cell.2.2.1, HXR.out.cell.2.2.2.1, HXR.out.cell.2.2.2.2, HWC.out⟩ (fun hHeld => ?_)
     clear hK K
     refine norm_ (a' := ?_) ?_ ?_
     rotate_left
     ·show Act.put _ (some 50) _ = _
      simp only [Act.put, List.setIfInBounds_toArray, List.set_cons_zero, List.set_cons_succ, i64_w, i32_w]
      rfl
     refine pure_ (i := 8) (N := some 42) (v := ?_) (a' := ?_) #[true, true, true, true, true, true, true, true, true, false, false, false, false] rfl rfl (any_of HT_.out (by kernel_rfl)) (fun _ _ _ h => h) (Or.inl ⟨by rfl, ?_⟩) ?_ ?_
     rotate_left
     ·intro w'
      go_simp
      with_reducible rfl
     rotate_left
     ·simp only [Act.put, List.setIfInBounds_toArray, List.set_cons_zero, List.set_cons_succ, i64_w, i32_w]
      rfl
     refine pure_ (i := 9) (N := some 51) (v := ?_) (a' := ?_) #[true, true, true, true, true, true, true, true, true, true, false, false, false] rfl rfl (any_of HT_.out (by kernel_rfl)) (fun _ _ _ h => h) (Or.inl ⟨by rfl, ?_⟩) ?_ ?_
     rotate_left
     ·intro w'
      go_simp
      with_reducible rfl
     rotate_left
     ·simp only [Act.put, List.setIfInBounds_toArray, List.set_cons_zero, List.set_cons_succ, i64_w, i32_w]
      rfl
     refine pure_ (i := 10) (N := some 52) (v := ?_) (a' := ?_) #[true, true, true, true, true, true, true, true, true, true, true, false, false] rfl rfl (any_of HT_.out (by kernel_rfl)) (fun _ _ _ h => h) (Or.inl ⟨by rfl, ?_⟩) ?_ ?_
     rotate_left
     ·intro w'
      go_simp
      with_reducible rfl
     rotate_left
     ·simp only [Act.put, List.setIfInBounds_toArray, List.set_cons_zero, List.set_cons_succ, i64_w, i32_w]
      rfl
     refine last_ (i := 11) (N := none) #[true, true, true, true, true, true, true, true, true, true, true, true, false] rfl rfl (one_of HT_.out (by kernel_rfl)) (by decide) (fun K hK => ?_)
     obtain ⟨y0, y1, y2, y3, y4⟩ := HSB.out.cell
     have z0 := HSB.out.free 0
     have z1 := HSB.out.free 1
     have z2 := HSB.out.free 2
     have z3 := HSB.out.free 3
     have z4 := HSB.out.free 4
     refine skip_ (w1 := ?_) (by rfl) rfl ?_ ?_
     rotate_left
     ·go_simp
      rfl
     refine hK.out _ _ ?_
     clear hK K
     refine pure_ (i := 12) (N := some 7) (v := ?_) (a' := ?_) #[true, true, true, true, true, true, true, true, true, true, true, true, true] rfl rfl (any_of HT_.out (by kernel_rfl)) (fun _ _ _ h => h) (Or.inl ⟨by rfl, ?_⟩) ?_ ?_
     rotate_left
     ·intro w'
      go_simp
      with_reducible rfl
     rotate_left
     ·simp only [Act.put, List.setIfInBounds_toArray, List.set_cons_zero, List.set_cons_succ, i64_w, i32_w]
      rfl
     refine done_ (done_of HT_.out (by kernel_rfl)) ?_
     clear y0 y1 y2 y3 y4 z0 z1 z2 z3 z4
     have HXS := Lib.hid (HSB.out.put R.1 (.slice A3 R.1.rs.length c3) (.slice A4 R.1.ws.length c4))
     replace HB := Lib.hid (BoxAt.put_below (b := SB) HB.out (by have := HLX.out; have := HLR.out; omega) R.1 (.slice A3 R.1.rs.length c3) (.slice A4 R.1.ws.length c4))
     replace HXB := Lib.hid (HXB.out.off (b' := SB) (by have := HLX.out; have := HLR.out; omega) (.string R.1.o) (.string R.1.f) (.int .i64 R.1.e) (.slice A3 R.1.rs.length c3) (.slice A4 R.1.ws.length c4))
     replace HXR := Lib.hid (HXR.out.off (b' := SB) (by have := HLR.out; omega) (.string R.1.o) (.string R.1.f) (.int .i64 R.1.e) (.slice A3 R.1.rs.length c3) (.slice A4 R.1.ws.length c4))
     have HRS := Lib.hid (RowsAt.put HR6.out (b := SB) HLS.out (.string R.1.o) (.string R.1.f) (.int .i64 R.1.e) (.slice A3 R.1.rs.length c3) (.slice A4 R.1.ws.length c4))
     replace HRR := Lib.hid (RowsAt.apart HRR.out HRN.out (.string R.1.o) (.string R.1.f) (.int .i64 R.1.e) (.slice A3 R.1.rs.length c3) (.slice A4 R.1.ws.length c4))
     clear HR6 HSB HWC
     generalize (((((w6.setCell ⟨SB, 0, none⟩ (.string R.1.o)).setCell ⟨SB, 1, none⟩ (.string R.1.f)).setCell ⟨SB, 2, none⟩ (.int .i64 R.1.e)).setCell ⟨SB, 3, none⟩ (.slice A3 R.1.rs.length c3)).setCell ⟨SB, 4, none⟩ (.slice A4 R.1.ws.length c4)) = W7 at HXS HB HXB HXR HRS HRR ⊢
     by_cases h0 : R.2 = 0
     ·have hT : (R.2 == 0) = true := by rw [h0]; rfl
      have hSU := HSU.out
      rw [if_pos h0] at hSU
      have HSV := Lib.hid hSU
      clear hSU h0 HSU
      obtain ⟨x0, x1, x2, x3, x4⟩ := HXS.out.cell
      obtain ⟨y0, y1, y2, y3, y4⟩ := HXR.out.cell
      have z0 := HXR.out.free 0
      have z1 := HXR.out.free 1
      have z2 := HXR.out.free 2
      have z3 := HXR.out.free 3
      have z4 := HXR.out.free 4
      go_wp2
      go_roundw
      case rel =>
       have hlr := HLR.out
       have hlx := HLX.out
       exact ⟨k + 1, by omega, by omega, by go_num, BoxAt.put_below HB.out (by omega) R.1 _ _, R.1, A3, c3, A4, c4, HSV.out.symm, HXB.out.off (b' := RB) (by omega) _ _ _ _ _, HXR.out.put R.1 _ _, (RowsAt.put HRS.out (b := RB) (by have := HLS.out; omega) _ _ _ _ _).lower (by have := HLS.out; omega)⟩
      case measure => simp [intOf]; omega
     ·have hT : (R.2 == 0) = false := by rw [beq_eq_false_iff_ne]; exact h0
      have hSU := HSU.out
      rw [if_neg h0] at hSU
      have HSV := Lib.hid hSU
      clear hSU h0 HSU
      go_wp2
      go_roundw
      case rel => exact ⟨k + 1, by omega, by omega, by go_num, HB.out, r, A1, c1, A2, c2, HSV.out.symm, HXB.out, HXR.out, HRR.out⟩
      case measure => simp [intOf]; omega
    ·subst hq
     have HCALL := Lib.hid (fun (W : World) (h : RowsAt W (w.heap.size + 1) r A1 c1 A2 c2) => refGrant_call r u true A1 c1 A2 c2 W (right_small HGR.out.1) (name_small HU.out) h)
     have hST : (l.take (k + 1)).foldl doneStep r0 = if (grantF r u true).2 = 0 then (grantF r u true).1 else r := by
      rw [HST.out]; unfold doneStep; rw [hqp, HUE.out]; rfl
     obtain ⟨R, hR⟩ : ∃ R, grantF r u true = R := ⟨_, rfl⟩
     rw [hR] at HCALL hST
     clear hR hqp
     have HSU := Lib.hid hST
     clear hST
     go_wp2_with fail
     have hb : Below w4.heap.size w4 w4.drew := below_drew (Below.refl _ _)
     replace HB := Lib.hid (below_step HB.out hb)
     replace HXB := Lib.hid (HXB.out.below hb)
     replace HXR := Lib.hid (HXR.out.below hb)
     replace HRR := Lib.hid (HRR.out.below hb)
     replace HSB := Lib.hid (HSB.out.below hb)
     replace HWC := Lib.hid (pw_cell_below hb HWC.out)
     clear hb
     refine start_ (n := 13) (S := fun w' => w'.cell? ⟨RB, 0, none⟩ = some (.string r.o) ∧ w'.cell? ⟨RB, 1, none⟩ = some (.string r.f) ∧ w'.cell? ⟨RB, 2, none⟩ = some (.int .i64 r.e) ∧ w'.cell? ⟨RB, 3, none⟩ = some (.slice A1 r.rs.length c1) ∧ w'.cell? ⟨RB, 4, none⟩ = some (.slice A2 r.ws.length c2) ∧ w'.cell? ⟨(ad.add (k * 2)).block, (ad.add (k * 2)).off + 1, none⟩ = some (.int .i64 who)) (ds := [11]) #[false, false, false, false, false, false, false, false, false, false, false, false, false] (by kernel_rfl) rfl rfl ⟨HXR.out.cell.1, HXR.out.cell.2.1, HXR.out.cell.2.2.1, HXR.out.cell.2.2.2.1, HXR.out.cell.2.2.2.2, HWC.out⟩ (fun hHeld => ?_)
     refine with_tabW rgDn.tab12 rgDn.bits12 (fun HT_ HW_ => ?_)
     refine pure_ (i := 1) (N := some 57) (v := ?_) (a' := ?_) #[false, true, false, false, false, false, false, false, false, false, false, false, false] rfl rfl (any_of HT_.out (by kernel_rfl)) (fun _ _ _ h => h) (Or.inl ⟨by rfl, ?_⟩) ?_ ?_
     rotate_left
     ·intro w'
      go_simp
      with_reducible rfl
     rotate_left
     ·simp only [Act.put, List.setIfInBounds_toArray, List.set_cons_zero, List.set_cons_succ, i64_w, i32_w]
      rfl
     refine pure_ (i := 2) (N := some 58) (v := ?_) (a' := ?_) #[false, true, true, false, false, false, false, false, false, false, false, false, false] rfl rfl (any_of HT_.out (by kernel_rfl)) (fun _ _ _ h => h) (Or.inl ⟨by rfl, ?_⟩) ?_ ?_
     rotate_left
     ·intro w'
      go_simp
      with_reducible rfl
     rotate_left
     ·simp only [Act.put, List.setIfInBounds_toArray, List.set_cons_zero, List.set_cons_succ, i64_w, i32_w]
      rfl
     refine pure_ (i := 3) (N := some 59) (v := ?_) (a' := ?_) #[false, true, true, true, false, false, false, false, false, false, false, false, false] rfl rfl (any_of HT_.out (by kernel_rfl)) (fun _ _ _ h => h) (Or.inl ⟨by rfl, ?_⟩) ?_ ?_
     rotate_left
     ·intro w'
      go_simp
      with_reducible rfl
     rotate_left
     ·simp only [Act.put, List.setIfInBounds_toArray, List.set_cons_zero, List.set_cons_succ, i64_w, i32_w]
      rfl
     refine pure_ (i := 4) (N := some 60) (v := ?_) (a' := ?_) #[false, true, true, true, true, false, false, false, false, false, false, false, false] rfl rfl (any_of HT_.out (by kernel_rfl)) (fun _ _ _ h => h) (Or.inl ⟨by rfl, ?_⟩) ?_ ?_
     rotate_left
     ·intro w'
      go_simp
      with_reducible rfl
     rotate_left
     ·simp only [Act.put, List.setIfInBounds_toArray, List.set_cons_zero, List.set_cons_succ, i64_w, i32_w]
      rfl
     refine take_ (i := 0) (N := some 56) (v := ?_) (a' := ?_) #[true, true, true, true, true, false, false, false, false, false, false, false, false] rfl rfl (take_ofW HT_.out HW_.out (by kernel_rfl)) (fun _ _ _ h => h) (Or.inl ⟨by rfl, ?_⟩) hHeld ?_ ?_
     rotate_left
     ·rintro w' ⟨s0, s1, s2, s3, s4, s5⟩
      go_simp
      with_reducible rfl
     rotate_left
     ·simp only [Act.put, List.setIfInBounds_toArray, List.set_cons_zero, List.set_cons_succ, i64_w, i32_w]
      rfl
     refine take_ (i := 5) (N := some 61) (v := ?_) (a' := ?_) #[true, true, true, true, true, true, false, false, false, false, false, false, false] rfl rfl (take_ofW HT_.out HW_.out (by kernel_rfl)) (fun _ _ _ h => h) (Or.inl ⟨by rfl, ?_⟩) hHeld ?_ ?_
     rotate_left
     ·rintro w' ⟨s0, s1, s2, s3, s4, s5⟩
      go_simp
      with_reducible rfl
     rotate_left
     ·simp only [Act.put, List.setIfInBounds_toArray, List.set_cons_zero, List.set_cons_succ, i64_w, i32_w]
      rfl
     refine one_ (i := 6) (N := some 62) #[true, true, true, true, true, true, true, false, false, false, false, false, false] rfl rfl (one_of HT_.out (by kernel_rfl)) (by decide) (fun K hK => ?_)
     refine goes_ Tryd.func12 (by kernel_rfl) rfl #[.int .i64 who] (by rfl) rfl rfl (by simp only [List.map_toArray, List.map_cons, List.map_nil]; rfl) ?_
     with_reducible refine (HW.out _).mono ?_
     rintro e w5 ⟨rfl, hb⟩
     refine ⟨_, rfl, ?_⟩
     replace HB := Lib.hid (below_step HB.out hb)
     replace HXB := Lib.hid (HXB.out.below hb)
     replace HXR := Lib.hid (HXR.out.below hb)
     replace HRR := Lib.hid (HRR.out.below hb)
     replace HSB := Lib.hid (HSB.out.below hb)
     replace HWC := Lib.hid (pw_cell_below hb HWC.out)
     clear hb
     refine hK.out _ _ ⟨HXR.out.cell.1, HXR.out.cell.2.1, HXR.out.cell.2.2.1, HXR.out.cell.2.2.2.1, HXR.out.cell.2.2.2.2, HWC.out⟩ (fun hHeld => ?_)
     clear hK K
     refine norm_ (a' := ?_) ?_ ?_
     rotate_left
     ·show Act.put _ (some 62) _ = _
      simp only [Act.put, List.setIfInBounds_toArray, List.set_cons_zero, List.set_cons_succ, i64_w, i32_w]
      rfl
     refine one_ (i := 7) (N := some 63) #[true, true, true, true, true, true, true, true, false, false, false, false, false] rfl rfl (one_of HT_.out (by kernel_rfl)) (by decide) (fun K hK => ?_)
     refine goes_ Tryd.func24 (by kernel_rfl) rfl #[.agg #[.string r.o, .string r.f, .int .i64 r.e, .slice A1 r.rs.length c1, .slice A2 r.ws.length c2], .string u, .bool true] (by rfl) rfl rfl (by simp only [List.map_toArray, List.map_cons, List.map_nil]; rfl) ?_
     with_reducible refine (HCALL.out _ HRR.out).mono ?_
     rintro e w6 ⟨A3, c3, A4, c4, rfl, hr6, hb⟩
     refine ⟨_, rfl, ?_⟩
     have HLS := Lib.hid HSB.out.lt
     replace HB := Lib.hid (below_step HB.out hb)
     replace HXB := Lib.hid (HXB.out.below hb)
     replace HXR := Lib.hid (HXR.out.below hb)
     replace HRR := Lib.hid (HRR.out.below hb)
     replace HSB := Lib.hid (HSB.out.below hb)
     replace HWC := Lib.hid (pw_cell_below hb HWC.out)
     have HR6 := Lib.hid hr6
     clear hb hr6
     refine hK.out _ _ ⟨HXR.out.cell.1, HXR.out.cell.2.1, HXR.out.cell.2.2.1, HXR.out.cell.2.2.2.1, HXR.out.cell.2.2.2.2, HWC.out⟩ (fun hHeld => ?_)
     clear hK K
     refine norm_ (a' := ?_) ?_ ?_
     rotate_left
     ·show Act.put _ (some 63) _ = _
      simp only [Act.put, List.setIfInBounds_toArray, List.set_cons_zero, List.set_cons_succ, i64_w, i32_w]
      rfl
     refine pure_ (i := 8) (N := some 55) (v := ?_) (a' := ?_) #[true, true, true, true, true, true, true, true, true, false, false, false, false] rfl rfl (any_of HT_.out (by kernel_rfl)) (fun _ _ _ h => h) (Or.inl ⟨by rfl, ?_⟩) ?_ ?_
     rotate_left
     ·intro w'
      go_simp
      with_reducible rfl
     rotate_left
     ·simp only [Act.put, List.setIfInBounds_toArray, List.set_cons_zero, List.set_cons_succ, i64_w, i32_w]
      rfl
     refine pure_ (i := 9) (N := some 64) (v := ?_) (a' := ?_) #[true, true, true, true, true, true, true, true, true, true, false, false, false] rfl rfl (any_of HT_.out (by kernel_rfl)) (fun _ _ _ h => h) (Or.inl ⟨by rfl, ?_⟩) ?_ ?_
     rotate_left
     ·intro w'
      go_simp
      with_reducible rfl
     rotate_left
     ·simp only [Act.put, List.setIfInBounds_toArray, List.set_cons_zero, List.set_cons_succ, i64_w, i32_w]
      rfl
     refine pure_ (i := 10) (N := some 65) (v := ?_) (a' := ?_) #[true, true, true, true, true, true, true, true, true, true, true, false, false] rfl rfl (any_of HT_.out (by kernel_rfl)) (fun _ _ _ h => h) (Or.inl ⟨by rfl, ?_⟩) ?_ ?_
     rotate_left
     ·intro w'
      go_simp
      with_reducible rfl
     rotate_left
     ·simp only [Act.put, List.setIfInBounds_toArray, List.set_cons_zero, List.set_cons_succ, i64_w, i32_w]
      rfl
     refine last_ (i := 11) (N := none) #[true, true, true, true, true, true, true, true, true, true, true, true, false] rfl rfl (one_of HT_.out (by kernel_rfl)) (by decide) (fun K hK => ?_)
     obtain ⟨y0, y1, y2, y3, y4⟩ := HSB.out.cell
     have z0 := HSB.out.free 0
     have z1 := HSB.out.free 1
     have z2 := HSB.out.free 2
     have z3 := HSB.out.free 3
     have z4 := HSB.out.free 4
     refine skip_ (w1 := ?_) (by rfl) rfl ?_ ?_
     rotate_left
     ·go_simp
      rfl
     refine hK.out _ _ ?_
     clear hK K
     refine pure_ (i := 12) (N := some 7) (v := ?_) (a' := ?_) #[true, true, true, true, true, true, true, true, true, true, true, true, true] rfl rfl (any_of HT_.out (by kernel_rfl)) (fun _ _ _ h => h) (Or.inl ⟨by rfl, ?_⟩) ?_ ?_
     rotate_left
     ·intro w'
      go_simp
      with_reducible rfl
     rotate_left
     ·simp only [Act.put, List.setIfInBounds_toArray, List.set_cons_zero, List.set_cons_succ, i64_w, i32_w]
      rfl
     refine done_ (done_of HT_.out (by kernel_rfl)) ?_
     clear y0 y1 y2 y3 y4 z0 z1 z2 z3 z4
     have HXS := Lib.hid (HSB.out.put R.1 (.slice A3 R.1.rs.length c3) (.slice A4 R.1.ws.length c4))
     replace HB := Lib.hid (BoxAt.put_below (b := SB) HB.out (by have := HLX.out; have := HLR.out; omega) R.1 (.slice A3 R.1.rs.length c3) (.slice A4 R.1.ws.length c4))
     replace HXB := Lib.hid (HXB.out.off (b' := SB) (by have := HLX.out; have := HLR.out; omega) (.string R.1.o) (.string R.1.f) (.int .i64 R.1.e) (.slice A3 R.1.rs.length c3) (.slice A4 R.1.ws.length c4))
     replace HXR := Lib.hid (HXR.out.off (b' := SB) (by have := HLR.out; omega) (.string R.1.o) (.string R.1.f) (.int .i64 R.1.e) (.slice A3 R.1.rs.length c3) (.slice A4 R.1.ws.length c4))
     have HRS := Lib.hid (RowsAt.put HR6.out (b := SB) HLS.out (.string R.1.o) (.string R.1.f) (.int .i64 R.1.e) (.slice A3 R.1.rs.length c3) (.slice A4 R.1.ws.length c4))
     replace HRR := Lib.hid (RowsAt.apart HRR.out HRN.out (.string R.1.o) (.string R.1.f) (.int .i64 R.1.e) (.slice A3 R.1.rs.length c3) (.slice A4 R.1.ws.length c4))
     clear HR6 HSB HWC
     generalize (((((w6.setCell ⟨SB, 0, none⟩ (.string R.1.o)).setCell ⟨SB, 1, none⟩ (.string R.1.f)).setCell ⟨SB, 2, none⟩ (.int .i64 R.1.e)).setCell ⟨SB, 3, none⟩ (.slice A3 R.1.rs.length c3)).setCell ⟨SB, 4, none⟩ (.slice A4 R.1.ws.length c4)) = W7 at HXS HB HXB HXR HRS HRR ⊢
     by_cases h0 : R.2 = 0
     ·have hT : (R.2 == 0) = true := by rw [h0]; rfl
      have hSU := HSU.out
      rw [if_pos h0] at hSU
      have HSV := Lib.hid hSU
      clear hSU h0 HSU
      obtain ⟨x0, x1, x2, x3, x4⟩ := HXS.out.cell
      obtain ⟨y0, y1, y2, y3, y4⟩ := HXR.out.cell
      have z0 := HXR.out.free 0
      have z1 := HXR.out.free 1
      have z2 := HXR.out.free 2
      have z3 := HXR.out.free 3
      have z4 := HXR.out.free 4
      go_wp2
      go_roundw
      case rel =>
       have hlr := HLR.out
       have hlx := HLX.out
       exact ⟨k + 1, by omega, by omega, by go_num, BoxAt.put_below HB.out (by omega) R.1 _ _, R.1, A3, c3, A4, c4, HSV.out.symm, HXB.out.off (b' := RB) (by omega) _ _ _ _ _, HXR.out.put R.1 _ _, (RowsAt.put HRS.out (b := RB) (by have := HLS.out; omega) _ _ _ _ _).lower (by have := HLS.out; omega)⟩
      case measure => simp [intOf]; omega
     ·have hT : (R.2 == 0) = false := by rw [beq_eq_false_iff_ne]; exact h0
      have hSU := HSU.out
      rw [if_neg h0] at hSU
      have HSV := Lib.hid hSU
      clear hSU h0 HSU
      go_wp2
      go_roundw
      case rel => exact ⟨k + 1, by omega, by omega, by go_num, HB.out, r, A1, c1, A2, c2, HSV.out.symm, HXB.out, HXR.out, HRR.out⟩
      case measure => simp [intOf]; omega
    ·subst hq
     have HCALL := Lib.hid (fun (W : World) (h : RowsAt W (w.heap.size + 1) r A1 c1 A2 c2) => refRevoke_call r u A1 c1 A2 c2 W (right_small HGR.out.1) (name_small HU.out) h)
     have hST : (l.take (k + 1)).foldl doneStep r0 = if (revokeF r u).2 = 0 then (revokeF r u).1 else r := by
      rw [HST.out]; unfold doneStep; rw [hqp, HUE.out]; rfl
     obtain ⟨R, hR⟩ : ∃ R, revokeF r u = R := ⟨_, rfl⟩
     rw [hR] at HCALL hST
     clear hR hqp
     have HSU := Lib.hid hST
     clear hST
     go_wp2_with fail
     have hb : Below w4.heap.size w4 w4.drew := below_drew (Below.refl _ _)
     replace HB := Lib.hid (below_step HB.out hb)
     replace HXB := Lib.hid (HXB.out.below hb)
     replace HXR := Lib.hid (HXR.out.below hb)
     replace HRR := Lib.hid (HRR.out.below hb)
     replace HSB := Lib.hid (HSB.out.below hb)
     replace HWC := Lib.hid (pw_cell_below hb HWC.out)
     clear hb
     refine start_ (n := 13) (S := fun w' => w'.cell? ⟨RB, 0, none⟩ = some (.string r.o) ∧ w'.cell? ⟨RB, 1, none⟩ = some (.string r.f) ∧ w'.cell? ⟨RB, 2, none⟩ = some (.int .i64 r.e) ∧ w'.cell? ⟨RB, 3, none⟩ = some (.slice A1 r.rs.length c1) ∧ w'.cell? ⟨RB, 4, none⟩ = some (.slice A2 r.ws.length c2) ∧ w'.cell? ⟨(ad.add (k * 2)).block, (ad.add (k * 2)).off + 1, none⟩ = some (.int .i64 who)) (ds := [11]) #[false, false, false, false, false, false, false, false, false, false, false, false, false] (by kernel_rfl) rfl rfl ⟨HXR.out.cell.1, HXR.out.cell.2.1, HXR.out.cell.2.2.1, HXR.out.cell.2.2.2.1, HXR.out.cell.2.2.2.2, HWC.out⟩ (fun hHeld => ?_)
     refine with_tabW rgDn.tab8 rgDn.bits8 (fun HT_ HW_ => ?_)
     refine pure_ (i := 1) (N := some 31) (v := ?_) (a' := ?_) #[false, true, false, false, false, false, false, false, false, false, false, false, false] rfl rfl (any_of HT_.out (by kernel_rfl)) (fun _ _ _ h => h) (Or.inl ⟨by rfl, ?_⟩) ?_ ?_
     rotate_left
     ·intro w'
      go_simp
      with_reducible rfl
     rotate_left
     ·simp only [Act.put, List.setIfInBounds_toArray, List.set_cons_zero, List.set_cons_succ, i64_w, i32_w]
      rfl
     refine pure_ (i := 2) (N := some 32) (v := ?_) (a' := ?_) #[false, true, true, false, false, false, false, false, false, false, false, false, false] rfl rfl (any_of HT_.out (by kernel_rfl)) (fun _ _ _ h => h) (Or.inl ⟨by rfl, ?_⟩) ?_ ?_
     rotate_left
     ·intro w'
      go_simp
      with_reducible rfl
     rotate_left
     ·simp only [Act.put, List.setIfInBounds_toArray, List.set_cons_zero, List.set_cons_succ, i64_w, i32_w]
      rfl
     refine pure_ (i := 3) (N := some 33) (v := ?_) (a' := ?_) #[false, true, true, true, false, false, false, false, false, false, false, false, false] rfl rfl (any_of HT_.out (by kernel_rfl)) (fun _ _ _ h => h) (Or.inl ⟨by rfl, ?_⟩) ?_ ?_
     rotate_left
     ·intro w'
      go_simp
      with_reducible rfl
     rotate_left
     ·simp only [Act.put, List.setIfInBounds_toArray, List.set_cons_zero, List.set_cons_succ, i64_w, i32_w]
      rfl
     refine pure_ (i := 4) (N := some 34) (v := ?_) (a' := ?_) #[false, true, true, true, true, false, false, false, false, false, false, false, false] rfl rfl (any_of HT_.out (by kernel_rfl)) (fun _ _ _ h => h) (Or.inl ⟨by rfl, ?_⟩) ?_ ?_
     rotate_left
     ·intro w'
      go_simp
      with_reducible rfl
     rotate_left
     ·simp only [Act.put, List.setIfInBounds_toArray, List.set_cons_zero, List.set_cons_succ, i64_w, i32_w]
      rfl
     refine take_ (i := 0) (N := some 30) (v := ?_) (a' := ?_) #[true, true, true, true, true, false, false, false, false, false, false, false, false] rfl rfl (take_ofW HT_.out HW_.out (by kernel_rfl)) (fun _ _ _ h => h) (Or.inl ⟨by rfl, ?_⟩) hHeld ?_ ?_
     rotate_left
     ·rintro w' ⟨s0, s1, s2, s3, s4, s5⟩
      go_simp
      with_reducible rfl
     rotate_left
     ·simp only [Act.put, List.setIfInBounds_toArray, List.set_cons_zero, List.set_cons_succ, i64_w, i32_w]
      rfl
     refine take_ (i := 5) (N := some 35) (v := ?_) (a' := ?_) #[true, true, true, true, true, true, false, false, false, false, false, false, false] rfl rfl (take_ofW HT_.out HW_.out (by kernel_rfl)) (fun _ _ _ h => h) (Or.inl ⟨by rfl, ?_⟩) hHeld ?_ ?_
     rotate_left
     ·rintro w' ⟨s0, s1, s2, s3, s4, s5⟩
      go_simp
      with_reducible rfl
     rotate_left
     ·simp only [Act.put, List.setIfInBounds_toArray, List.set_cons_zero, List.set_cons_succ, i64_w, i32_w]
      rfl
     refine one_ (i := 6) (N := some 36) #[true, true, true, true, true, true, true, false, false, false, false, false, false] rfl rfl (one_of HT_.out (by kernel_rfl)) (by decide) (fun K hK => ?_)
     refine goes_ Tryd.func12 (by kernel_rfl) rfl #[.int .i64 who] (by rfl) rfl rfl (by simp only [List.map_toArray, List.map_cons, List.map_nil]; rfl) ?_
     with_reducible refine (HW.out _).mono ?_
     rintro e w5 ⟨rfl, hb⟩
     refine ⟨_, rfl, ?_⟩
     replace HB := Lib.hid (below_step HB.out hb)
     replace HXB := Lib.hid (HXB.out.below hb)
     replace HXR := Lib.hid (HXR.out.below hb)
     replace HRR := Lib.hid (HRR.out.below hb)
     replace HSB := Lib.hid (HSB.out.below hb)
     replace HWC := Lib.hid (pw_cell_below hb HWC.out)
     clear hb
     refine hK.out _ _ ⟨HXR.out.cell.1, HXR.out.cell.2.1, HXR.out.cell.2.2.1, HXR.out.cell.2.2.2.1, HXR.out.cell.2.2.2.2, HWC.out⟩ (fun hHeld => ?_)
     clear hK K
     refine norm_ (a' := ?_) ?_ ?_
     rotate_left
     ·show Act.put _ (some 36) _ = _
      simp only [Act.put, List.setIfInBounds_toArray, List.set_cons_zero, List.set_cons_succ, i64_w, i32_w]
      rfl
     refine one_ (i := 7) (N := some 37) #[true, true, true, true, true, true, true, true, false, false, false, false, false] rfl rfl (one_of HT_.out (by kernel_rfl)) (by decide) (fun K hK => ?_)
     refine goes_ Tryd.func25 (by kernel_rfl) rfl #[.agg #[.string r.o, .string r.f, .int .i64 r.e, .slice A1 r.rs.length c1, .slice A2 r.ws.length c2], .string u] (by rfl) rfl rfl (by simp only [List.map_toArray, List.map_cons, List.map_nil]; rfl) ?_
     with_reducible refine (HCALL.out _ HRR.out).mono ?_
     rintro e w6 ⟨A3, c3, A4, c4, rfl, hr6, hb⟩
     refine ⟨_, rfl, ?_⟩
     have HLS := Lib.hid HSB.out.lt
     replace HB := Lib.hid (below_step HB.out hb)
     replace HXB := Lib.hid (HXB.out.below hb)
     replace HXR := Lib.hid (HXR.out.below hb)
     replace HRR := Lib.hid (HRR.out.below hb)
     replace HSB := Lib.hid (HSB.out.below hb)
     replace HWC := Lib.hid (pw_cell_below hb HWC.out)
     have HR6 := Lib.hid hr6
     clear hb hr6
     refine hK.out _ _ ⟨HXR.out.cell.1, HXR.out.cell.2.1, HXR.out.cell.2.2.1, HXR.out.cell.2.2.2.1, HXR.out.cell.2.2.2.2, HWC.out⟩ (fun hHeld => ?_)
     clear hK K
     refine norm_ (a' := ?_) ?_ ?_
     rotate_left
     ·show Act.put _ (some 37) _ = _
      simp only [Act.put, List.setIfInBounds_toArray, List.set_cons_zero, List.set_cons_succ, i64_w, i32_w]
      rfl
     refine pure_ (i := 8) (N := some 29) (v := ?_) (a' := ?_) #[true, true, true, true, true, true, true, true, true, false, false, false, false] rfl rfl (any_of HT_.out (by kernel_rfl)) (fun _ _ _ h => h) (Or.inl ⟨by rfl, ?_⟩) ?_ ?_
     rotate_left
     ·intro w'
      go_simp
      with_reducible rfl
     rotate_left
     ·simp only [Act.put, List.setIfInBounds_toArray, List.set_cons_zero, List.set_cons_succ, i64_w, i32_w]
      rfl
     refine pure_ (i := 9) (N := some 38) (v := ?_) (a' := ?_) #[true, true, true, true, true, true, true, true, true, true, false, false, false] rfl rfl (any_of HT_.out (by kernel_rfl)) (fun _ _ _ h => h) (Or.inl ⟨by rfl, ?_⟩) ?_ ?_
     rotate_left
     ·intro w'
      go_simp
      with_reducible rfl
     rotate_left
     ·simp only [Act.put, List.setIfInBounds_toArray, List.set_cons_zero, List.set_cons_succ, i64_w, i32_w]
      rfl
     refine pure_ (i := 10) (N := some 39) (v := ?_) (a' := ?_) #[true, true, true, true, true, true, true, true, true, true, true, false, false] rfl rfl (any_of HT_.out (by kernel_rfl)) (fun _ _ _ h => h) (Or.inl ⟨by rfl, ?_⟩) ?_ ?_
     rotate_left
     ·intro w'
      go_simp
      with_reducible rfl
     rotate_left
     ·simp only [Act.put, List.setIfInBounds_toArray, List.set_cons_zero, List.set_cons_succ, i64_w, i32_w]
      rfl
     refine last_ (i := 11) (N := none) #[true, true, true, true, true, true, true, true, true, true, true, true, false] rfl rfl (one_of HT_.out (by kernel_rfl)) (by decide) (fun K hK => ?_)
     obtain ⟨y0, y1, y2, y3, y4⟩ := HSB.out.cell
     have z0 := HSB.out.free 0
     have z1 := HSB.out.free 1
     have z2 := HSB.out.free 2
     have z3 := HSB.out.free 3
     have z4 := HSB.out.free 4
     refine skip_ (w1 := ?_) (by rfl) rfl ?_ ?_
     rotate_left
     ·go_simp
      rfl
     refine hK.out _ _ ?_
     clear hK K
     refine pure_ (i := 12) (N := some 7) (v := ?_) (a' := ?_) #[true, true, true, true, true, true, true, true, true, true, true, true, true] rfl rfl (any_of HT_.out (by kernel_rfl)) (fun _ _ _ h => h) (Or.inl ⟨by rfl, ?_⟩) ?_ ?_
     rotate_left
     ·intro w'
      go_simp
      with_reducible rfl
     rotate_left
     ·simp only [Act.put, List.setIfInBounds_toArray, List.set_cons_zero, List.set_cons_succ, i64_w, i32_w]
      rfl
     refine done_ (done_of HT_.out (by kernel_rfl)) ?_
     clear y0 y1 y2 y3 y4 z0 z1 z2 z3 z4
     have HXS := Lib.hid (HSB.out.put R.1 (.slice A3 R.1.rs.length c3) (.slice A4 R.1.ws.length c4))
     replace HB := Lib.hid (BoxAt.put_below (b := SB) HB.out (by have := HLX.out; have := HLR.out; omega) R.1 (.slice A3 R.1.rs.length c3) (.slice A4 R.1.ws.length c4))
     replace HXB := Lib.hid (HXB.out.off (b' := SB) (by have := HLX.out; have := HLR.out; omega) (.string R.1.o) (.string R.1.f) (.int .i64 R.1.e) (.slice A3 R.1.rs.length c3) (.slice A4 R.1.ws.length c4))
     replace HXR := Lib.hid (HXR.out.off (b' := SB) (by have := HLR.out; omega) (.string R.1.o) (.string R.1.f) (.int .i64 R.1.e) (.slice A3 R.1.rs.length c3) (.slice A4 R.1.ws.length c4))
     have HRS := Lib.hid (RowsAt.put HR6.out (b := SB) HLS.out (.string R.1.o) (.string R.1.f) (.int .i64 R.1.e) (.slice A3 R.1.rs.length c3) (.slice A4 R.1.ws.length c4))
     replace HRR := Lib.hid (RowsAt.apart HRR.out HRN.out (.string R.1.o) (.string R.1.f) (.int .i64 R.1.e) (.slice A3 R.1.rs.length c3) (.slice A4 R.1.ws.length c4))
     clear HR6 HSB HWC
     generalize (((((w6.setCell ⟨SB, 0, none⟩ (.string R.1.o)).setCell ⟨SB, 1, none⟩ (.string R.1.f)).setCell ⟨SB, 2, none⟩ (.int .i64 R.1.e)).setCell ⟨SB, 3, none⟩ (.slice A3 R.1.rs.length c3)).setCell ⟨SB, 4, none⟩ (.slice A4 R.1.ws.length c4)) = W7 at HXS HB HXB HXR HRS HRR ⊢
     by_cases h0 : R.2 = 0
     ·have hT : (R.2 == 0) = true := by rw [h0]; rfl
      have hSU := HSU.out
      rw [if_pos h0] at hSU
      have HSV := Lib.hid hSU
      clear hSU h0 HSU
      obtain ⟨x0, x1, x2, x3, x4⟩ := HXS.out.cell
      obtain ⟨y0, y1, y2, y3, y4⟩ := HXR.out.cell
      have z0 := HXR.out.free 0
      have z1 := HXR.out.free 1
      have z2 := HXR.out.free 2
      have z3 := HXR.out.free 3
      have z4 := HXR.out.free 4
      go_wp2
      go_roundw
      case rel =>
       have hlr := HLR.out
       have hlx := HLX.out
       exact ⟨k + 1, by omega, by omega, by go_num, BoxAt.put_below HB.out (by omega) R.1 _ _, R.1, A3, c3, A4, c4, HSV.out.symm, HXB.out.off (b' := RB) (by omega) _ _ _ _ _, HXR.out.put R.1 _ _, (RowsAt.put HRS.out (b := RB) (by have := HLS.out; omega) _ _ _ _ _).lower (by have := HLS.out; omega)⟩
      case measure => simp [intOf]; omega
     ·have hT : (R.2 == 0) = false := by rw [beq_eq_false_iff_ne]; exact h0
      have hSU := HSU.out
      rw [if_neg h0] at hSU
      have HSV := Lib.hid hSU
      clear hSU h0 HSU
      go_wp2
      go_roundw
      case rel => exact ⟨k + 1, by omega, by omega, by go_num, HB.out, r, A1, c1, A2, c2, HSV.out.symm, HXB.out, HXR.out, HRR.out⟩
      case measure => simp [intOf]; omega
   ·have HDE : Hid (doneF l = r) := Lib.hid (by rw [Hr.out, done_end hk hk40 (Or.inr h40)])
    obtain ⟨x0, x1, x2, x3, x4⟩ := HXR.out.cell
    obtain ⟨y0, y1, y2, y3, y4⟩ := HXB.out.cell
    have z0 := HXB.out.free 0
    have z1 := HXB.out.free 1
    have z2 := HXB.out.free 2
    have z3 := HXB.out.free 3
    have z4 := HXB.out.free 4
    go_wp2
    obtain ⟨cs, hcs, hblk⟩ := HXB.out.put r (.slice A1 r.rs.length c1) (.slice A2 r.ws.length c2)
    have hbl := BoxAt.put_below (b := w.heap.size) HB.out (Nat.le_refl _) r (.slice A1 r.rs.length c1) (.slice A2 r.ws.length c2)
    subst hcs
    refine bodyPost_ret (results_cell_row rfl _ _ w.heap.size 26 _ (0, 0) _ rfl hblk Tryd.underlying26 rfl (by kernel_rfl)) rfl ?_
    rw [HDE.out]
    exact ⟨A1, c1, A2, c2, rfl, (HRR.out.put (b := w.heap.size) (Nat.lt_succ_self _) _ _ _ _ _).lower (Nat.le_succ _), hbl⟩
  ·have HDE : Hid (doneF l = r) := Lib.hid (by rw [Hr.out, done_end hk hk40 (Or.inl hlt)])
   obtain ⟨x0, x1, x2, x3, x4⟩ := HXR.out.cell
   obtain ⟨y0, y1, y2, y3, y4⟩ := HXB.out.cell
   have z0 := HXB.out.free 0
   have z1 := HXB.out.free 1
   have z2 := HXB.out.free 2
   have z3 := HXB.out.free 3
   have z4 := HXB.out.free 4
   go_wp2
   obtain ⟨cs, hcs, hblk⟩ := HXB.out.put r (.slice A1 r.rs.length c1) (.slice A2 r.ws.length c2)
   have hbl := BoxAt.put_below (b := w.heap.size) HB.out (Nat.le_refl _) r (.slice A1 r.rs.length c1) (.slice A2 r.ws.length c2)
   subst hcs
   refine bodyPost_ret (results_cell_row rfl _ _ w.heap.size 26 _ (0, 0) _ rfl hblk Tryd.underlying26 rfl (by kernel_rfl)) rfl ?_
   rw [HDE.out]
   exact ⟨A1, c1, A2, c2, rfl, (HRR.out.put (b := w.heap.size) (Nat.lt_succ_self _) _ _ _ _ _).lower (Nat.le_succ _), hbl⟩
end Go.Proofs.YtfhanoloaejmkaaDoor
end
