/- Contracts and laws that the statement of LawRightsTell leans on (packed from this claim's own texts): part 16. -/
import Derived.Test.YtfhanoloaejmkaaDoorQT9
import Derived.Test.YtfhanoloaejmkaaDoorQT12
import Derived.Test.YtfhanoloaejmkaaDoorQT15
section

namespace Go.Proofs.YtfhanoloaejmkaaDoor
open Go.RowKit Go.Proofs.YtfhanoloaejmkaaDoorW.PrintWords Go.Proofs.YtfhanoloaejmkaaDoorW.PrintLast Go.Proofs.YtfhanoloaejmkaaDoor.Ref
set_option linter.unusedVariables false
set_option linter.unusedSimpArgs false
theorem refName_call (s : ByteArray) (w : World) (h : s.size ≤ 1000000) : Calls Tryd.prog 47 #[.string s] w fun e w' => e = .returned (.bool (rightN (bytes s))) ∧ Below w.heap.size w w' := by
 obtain ⟨K, hk⟩ := refRight_ev s h
 exact PA.letterlockref1_Right.calls K s _ w (hk K (Nat.le_refl _))
theorem refRight_call (r : Rt) (A : Option Addr) (c : Nat) (A' : Option Addr) (c' : Nat) (w : World) (hs : smallR r = true) {B : Nat} (h : RowsAt w B r A c A' c') :
  Calls Tryd.prog 29 #[.agg #[.string r.o, .string r.f, .int .i64 r.e, .slice A r.rs.length c, .slice A' r.ws.length c']] w fun e w' => e = .returned (.bool (rightR r)) ∧ Below w.heap.size w w' := by
 obtain ⟨K, hk⟩ := refR_ev r hs
 exact PA.letterlockref7_Right.calls K r.o r.f r.e A c r.rs A' c' r.ws _ w h.h1 h.h2 h.h3 h.h4 (hk K (Nat.le_refl _))
theorem refHas_call (l : List ByteArray) (u : ByteArray) (A : Option Addr) (c : Nat) (w : World) (hl : l.length ≤ 1000000) (h1 : Kd.C Kd.string w A l.length l) (h2 : l.length ≤ c) :
  Calls Tryd.prog 48 #[.slice A l.length c, .string u] w fun e w' => e = .returned (.bool (decide (u ∈ l))) ∧ Below w.heap.size w w' := by
 obtain ⟨K, hk⟩ := refHas_ev l u hl
 exact (PA.letterlockref7_Has.calls K A c l u _ w h1 h2 (hk K (Nat.le_refl _))).mono fun e w' h => ⟨h.1, h.2.below⟩
structure RowAt (w : World) (B T : Nat) (A : Option Addr) (c : Nat) (l : List ByteArray) : Prop where
 h1 : Kd.C Kd.string w A l.length l
 h2 : l.length ≤ c
 h3 : ∀ ad, A = some ad → B ≤ ad.block ∧ ad.block < T
theorem RowAt.below {w w1 : World} {B T : Nat} {A : Option Addr} {c : Nat} {l : List ByteArray} (h : RowAt w B T A c l) (hb : Below w.heap.size w w1) : RowAt w1 B T A c l := ⟨Kd.C_below h.h1 hb, h.h2, h.h3⟩
theorem RowAt.far {w : World} {B T : Nat} {A : Option Addr} {c : Nat} {l : List ByteArray} (h : RowAt w B T A c l) {p : Addr} (hp : p.block < B ∨ T ≤ p.block) (u : Value) : RowAt (w.setCell p u) B T A c l :=
 ⟨C_far h.h1 (fun ad e => by have := h.h3 ad e; omega) u, h.h2, h.h3⟩
theorem RowAt.put {w : World} {B T b : Nat} {A : Option Addr} {c : Nat} {l : List ByteArray} (h : RowAt w B T A c l) (hp : b < B ∨ T ≤ b) (a1 a2 a3 a4 a5 : Value) :
  RowAt (((((w.setCell ⟨b, 0, none⟩ a1).setCell ⟨b, 1, none⟩ a2).setCell ⟨b, 2, none⟩ a3).setCell ⟨b, 3, none⟩ a4).setCell ⟨b, 4, none⟩ a5) B T A c l :=
 ((((h.far (p := ⟨b, 0, none⟩) hp a1).far (p := ⟨b, 1, none⟩) hp a2).far (p := ⟨b, 2, none⟩) hp a3).far (p := ⟨b, 3, none⟩) hp a4).far (p := ⟨b, 4, none⟩) hp a5
theorem RowAt.lower {w : World} {B B' T : Nat} {A : Option Addr} {c : Nat} {l : List ByteArray} (h : RowAt w B T A c l) (hb : B' ≤ B) : RowAt w B' T A c l := ⟨h.h1, h.h2, fun ad e => ⟨Nat.le_trans hb (h.h3 ad e).1, (h.h3 ad e).2⟩⟩
theorem rowAt_of {w' : World} {B : Nat} {ok : Nat → Prop} {v : Value} {l : List ByteArray} (h : Kd.R Kd.string 9 w' B ok v l) : ∃ A c, v = .slice A l.length c ∧ RowAt w' B w'.heap.size A c l := by
 obtain ⟨A, c, rfl, a1, a2⟩ := Kd.R_reads h
 obtain ⟨_, inner, ho, _⟩ := h
 exact ⟨A, c, rfl, a2, a1, fun ad e => ⟨own_base ho ad.block (by rw [e]; rfl), own_lt ho ad.block (by rw [e]; rfl)⟩⟩
theorem rows_of {w : World} {B1 T1 B2 T2 B : Nat} {r : Rt} {A : Option Addr} {c : Nat} {A' : Option Addr} {c' : Nat} (h1 : RowAt w B1 T1 A c r.rs) (h2 : RowAt w B2 T2 A' c' r.ws) (b1 : B ≤ B1) (b2 : B ≤ B2) : RowsAt w B r A c A' c' :=
 ⟨h1.h1, h1.h2, h2.h1, h2.h2, fun ad e => Nat.le_trans b1 (h1.h3 ad e).1, fun ad e => Nat.le_trans b2 (h2.h3 ad e).1⟩
def TheRow (w : World) (l : List ByteArray) (e : Ending) (w' : World) : Prop := ∃ A c, e = .returned (.slice A l.length c) ∧ RowAt w' w.heap.size w'.heap.size A c l ∧ Below w.heap.size w w'
theorem refWithout_call (l : List ByteArray) (u : ByteArray) (A : Option Addr) (c : Nat) (w : World) (hl : l.length ≤ 1000000) (h1 : Kd.C Kd.string w A l.length l) (h2 : l.length ≤ c) :
  Calls Tryd.prog 49 #[.slice A l.length c, .string u] w (TheRow w (dropL l u)) := by
 obtain ⟨K, hk⟩ := refWithout_ev l u hl
 refine (PA.letterlockref7_without.calls K A c l u _ w h1 h2 (hk K (Nat.le_refl _))).mono ?_
 rintro e w' ⟨v, rfl, h, hb⟩
 obtain ⟨A', c', rfl, h'⟩ := rowAt_of h
 exact ⟨A', c', rfl, h', hb⟩
theorem no_name : rightN (bytes ⟨#[]⟩) = false := by decide +kernel
theorem refCopy_call (l : List ByteArray) (A : Option Addr) (c : Nat) (w : World) (hl : l.length ≤ 1000000) (hr : ∀ s ∈ l, rightN (bytes s) = true) (h1 : Kd.C Kd.string w A l.length l) (h2 : l.length ≤ c) :
  Calls Tryd.prog 49 #[.slice A l.length c, .string { data := #[] }] w (TheRow w l) := by
 have h := refWithout_call l ⟨#[]⟩ A c w hl h1 h2
 rwa [drop_none (fun hm => by have := hr _ hm; rw [no_name] at this; cases this)] at h
theorem refWith_call (l : List ByteArray) (u : ByteArray) (A : Option Addr) (c : Nat) (w : World) (hl : l.length ≤ 1000000) (hu : u.size ≤ 1000000) (hz : ∀ s ∈ l, rightN (bytes s) = true) (hr : risesL l = true) (hn : u ∉ l) (h1 : Kd.C Kd.string w A l.length l) (h2 : l.length ≤ c) :
  Calls Tryd.prog 50 #[.slice A l.length c, .string u] w (TheRow w (insL l u)) := by
 obtain ⟨K, hk⟩ := refWith_ev l u hl hu (fun s hs => name_small (hz s hs)) hr hn
 refine (PA.letterlockref7_with.calls K A c l u _ w h1 h2 (hk K (Nat.le_refl _))).mono ?_
 rintro e w' ⟨v, rfl, h, hb⟩
 obtain ⟨A', c', rfl, h'⟩ := rowAt_of h
 exact ⟨A', c', rfl, h', hb⟩
set_option maxHeartbeats 4000000 in
set_option maxRecDepth 100000 in
theorem refNew_call (o f : ByteArray) (w : World) (ho : o.size ≤ 1000000) (hf : f.size ≤ 1000000) :
  Calls Tryd.prog 28 #[.string o, .string f] w (Told w (newF o f)) := by
 obtain ⟨R, hR⟩ : ∃ R, newF o f = R := ⟨_, rfl⟩
 rw [hR]
 have HR := Lib.hid hR
 clear hR
 go_enter Tryd.func28, Tryd.ntmps28
 have hb0 : Below w.heap.size w (w.alloc (Obj.cells #[Value.string { data := #[] }, Value.string { data := #[] }, Value.int IntKind.i64 0, Value.slice none 0 0, Value.slice none 0 0] 26)) := below_alloc (Below.refl _ _) _
 have hy0 : BoxAt (w.alloc (Obj.cells #[Value.string { data := #[] }, Value.string { data := #[] }, Value.int IntKind.i64 0, Value.slice none 0 0, Value.slice none 0 0] 26)) w.heap.size noRt (.slice none 0 0) (.slice none 0 0) := ⟨_, rfl, heap_new _ _ _ rfl⟩
 have HA := Lib.hid (fun W => refName_call o W ho)
 have HB0 := Lib.hid hb0
 have HY0 := Lib.hid hy0
 clear hb0 hy0
 cases h1 : rightN (bytes o) with
 | false =>
  rw [h1] at HA
  have HN : Hid (R = (noRt, 3)) := by
   rw [← HR.out]; unfold newF; rw [h1]; exact Lib.hid rfl
  clear h1
  go_wp2_with fail
  refine (HA.out _).mono ?_
  rintro e w1 ⟨rfl, hb⟩
  have HB1 := Lib.hid (below_step HB0.out hb)
  have HY1 := Lib.hid (HY0.out.below hb)
  clear hb HB0 HY0 HA
  obtain ⟨y0, y1, y2, y3, y4⟩ := HY1.out.cell
  have z0 := HY1.out.free 0
  have z1 := HY1.out.free 1
  have z2 := HY1.out.free 2
  have z3 := HY1.out.free 3
  have z4 := HY1.out.free 4
  go_wp2
  obtain ⟨cs, hcs, hblk⟩ := HY1.out.put noRt (.slice none 0 0) (.slice none 0 0)
  have hbl := BoxAt.put_below (b := w.heap.size) HB1.out (Nat.le_refl _) noRt (.slice none 0 0) (.slice none 0 0)
  subst hcs
  refine bodyPost_ret (results_ct rfl _ _ w.heap.size 26 _ (0, 0) _ rfl hblk Tryd.underlying26 rfl (by kernel_rfl)) rfl ?_
  obtain rfl := HN.out
  exact ⟨none, 0, none, 0, rfl, RowsAt.nil _ _ _ _ _, hbl⟩
 | true =>
  rw [h1] at HA
  go_wp2_with fail
  refine (HA.out _).mono ?_
  rintro e w1 ⟨rfl, hb⟩
  have HB1 := Lib.hid (below_step HB0.out hb)
  have HY1 := Lib.hid (HY0.out.below hb)
  clear hb HB0 HY0 HA
  have HA := Lib.hid (fun W => refName_call f W hf)
  cases h2 : rightN (bytes f) with
  | false =>
   rw [h2] at HA
   have HN : Hid (R = (noRt, 3)) := by
    rw [← HR.out]; unfold newF; rw [h1, h2]; exact Lib.hid rfl
   clear h1 h2
   go_wp2_with fail
   refine (HA.out _).mono ?_
   rintro e w2 ⟨rfl, hb⟩
   have HB2 := Lib.hid (below_step HB1.out hb)
   have HY2 := Lib.hid (HY1.out.below hb)
   clear hb HB1 HY1 HA
   obtain ⟨y0, y1, y2, y3, y4⟩ := HY2.out.cell
   have z0 := HY2.out.free 0
   have z1 := HY2.out.free 1
   have z2 := HY2.out.free 2
   have z3 := HY2.out.free 3
   have z4 := HY2.out.free 4
   go_wp2
   obtain ⟨cs, hcs, hblk⟩ := HY2.out.put noRt (.slice none 0 0) (.slice none 0 0)
   have hbl := BoxAt.put_below (b := w.heap.size) HB2.out (Nat.le_refl _) noRt (.slice none 0 0) (.slice none 0 0)
   subst hcs
   refine bodyPost_ret (results_ct rfl _ _ w.heap.size 26 _ (0, 0) _ rfl hblk Tryd.underlying26 rfl (by kernel_rfl)) rfl ?_
   obtain rfl := HN.out
   exact ⟨none, 0, none, 0, rfl, RowsAt.nil _ _ _ _ _, hbl⟩
  | true =>
   rw [h2] at HA
   have HN : Hid (R = (⟨o, f, 0, [], []⟩, 0)) := by
    rw [← HR.out]; unfold newF; rw [h1, h2]; exact Lib.hid rfl
   clear h1 h2
   go_wp2_with fail
   refine (HA.out _).mono ?_
   rintro e w2 ⟨rfl, hb⟩
   have HB2 := Lib.hid (below_step HB1.out hb)
   have HY2 := Lib.hid (HY1.out.below hb)
   clear hb HB1 HY1 HA
   obtain ⟨y0, y1, y2, y3, y4⟩ := HY2.out.cell
   have z0 := HY2.out.free 0
   have z1 := HY2.out.free 1
   have z2 := HY2.out.free 2
   have z3 := HY2.out.free 3
   have z4 := HY2.out.free 4
   go_wp2
   obtain ⟨cs, hcs, hblk⟩ := HY2.out.put ⟨o, f, 0, [], []⟩ (.slice none 0 0) (.slice none 0 0)
   have hbl := BoxAt.put_below (b := w.heap.size) HB2.out (Nat.le_refl _) ⟨o, f, 0, [], []⟩ (.slice none 0 0) (.slice none 0 0)
   subst hcs
   refine bodyPost_ret (results_ct rfl _ _ w.heap.size 26 _ (0, 0) _ rfl hblk Tryd.underlying26 rfl (by kernel_rfl)) rfl ?_
   obtain rfl := HN.out
   exact ⟨none, 0, none, 0, rfl, RowsAt.nil _ _ _ _ _, hbl⟩
structure RowF (w : World) (B X : Nat) (A : Option Addr) (c : Nat) (l : List ByteArray) : Prop where
 h1 : Kd.C Kd.string w A l.length l
 h2 : l.length ≤ c
 h3 : ∀ ad, A = some ad → B ≤ ad.block ∧ ad.block ≠ X
theorem RowF.below {w w1 : World} {B X : Nat} {A : Option Addr} {c : Nat} {l : List ByteArray} (h : RowF w B X A c l) (hb : Below w.heap.size w w1) : RowF w1 B X A c l := ⟨Kd.C_below h.h1 hb, h.h2, h.h3⟩
theorem RowF.far {w : World} {B X : Nat} {A : Option Addr} {c : Nat} {l : List ByteArray} (h : RowF w B X A c l) {p : Addr} (hp : p.block < B ∨ p.block = X) (u : Value) : RowF (w.setCell p u) B X A c l :=
 ⟨C_far h.h1 (fun ad e => by have := h.h3 ad e; omega) u, h.h2, h.h3⟩
theorem RowF.put {w : World} {B X b : Nat} {A : Option Addr} {c : Nat} {l : List ByteArray} (h : RowF w B X A c l) (hp : b < B ∨ b = X) (a1 a2 a3 a4 a5 : Value) :
  RowF (((((w.setCell ⟨b, 0, none⟩ a1).setCell ⟨b, 1, none⟩ a2).setCell ⟨b, 2, none⟩ a3).setCell ⟨b, 3, none⟩ a4).setCell ⟨b, 4, none⟩ a5) B X A c l :=
 ((((h.far (p := ⟨b, 0, none⟩) hp a1).far (p := ⟨b, 1, none⟩) hp a2).far (p := ⟨b, 2, none⟩) hp a3).far (p := ⟨b, 3, none⟩) hp a4).far (p := ⟨b, 4, none⟩) hp a5
theorem RowAt.toF {w : World} {lo hi B X : Nat} {A : Option Addr} {c : Nat} {l : List ByteArray} (h : RowAt w lo hi A c l) (q1 : B ≤ lo) (q2 : hi ≤ X ∨ X < lo) : RowF w B X A c l := ⟨h.h1, h.h2, fun ad e => by have := h.h3 ad e; omega⟩
theorem rows_ofF {w : World} {B X B' : Nat} {r : Rt} {A : Option Addr} {c : Nat} {A' : Option Addr} {c' : Nat} (h1 : RowF w B X A c r.rs) (h2 : RowF w B X A' c' r.ws) (b1 : B' ≤ B) : RowsAt w B' r A c A' c' :=
 ⟨h1.h1, h1.h2, h2.h1, h2.h2, fun ad e => Nat.le_trans b1 (h1.h3 ad e).1, fun ad e => Nat.le_trans b1 (h2.h3 ad e).1⟩
def GrF (w : World) (r : Rt) (v3 v4 : Value) (s : (Option Addr × Nat) × (Option Addr × Nat) × Nat) (w' : World) : Prop :=
 Below w.heap.size w w' ∧ BoxAt w' w.heap.size r v3 v4 ∧ BoxAt w' (w.heap.size + 1) noRt (.slice none 0 0) (.slice none 0 0) ∧ BoxAt w' s.2.2 noRt (.slice none 0 0) (.slice none 0 0) ∧
  RowF w' (w.heap.size + 2) s.2.2 s.1.1 s.1.2 r.rs ∧ RowF w' (w.heap.size + 2) s.2.2 s.2.1.1 s.2.1.2 r.ws ∧ w.heap.size + 1 < s.2.2
theorem gr_mk {w w' : World} {r : Rt} {v3 v4 : Value} {A3 : Option Addr} {c3 : Nat} {A4 : Option Addr} {c4 X l8 h8 l9 h9 : Nat} (hB : Below w.heap.size w w') (hX : BoxAt w' w.heap.size r v3 v4) (hY : BoxAt w' (w.heap.size + 1) noRt (.slice none 0 0) (.slice none 0 0)) (hZ : BoxAt w' X noRt (.slice none 0 0) (.slice none 0 0))
  (r8 : RowAt w' l8 h8 A3 c3 r.rs) (r9 : RowAt w' l9 h9 A4 c4 r.ws) (q : w.heap.size + 2 ≤ l8 ∧ (h8 ≤ X ∨ X < l8) ∧ w.heap.size + 2 ≤ l9 ∧ (h9 ≤ X ∨ X < l9) ∧ w.heap.size + 1 < X) : GrF w r v3 v4 ((A3, c3), (A4, c4), X) w' :=
 ⟨hB, hX, hY, hZ, r8.toF q.1 q.2.1, r9.toF q.2.2.1 q.2.2.2.1, q.2.2.2.2⟩
def rgGr.T9 : Bool × List (List Nat × List Nat) := (true, [([], []), ([0], [0]), ([], []), ([2], [2]), ([], []), ([4], [4]), ([], []), ([6], [6]), ([7], [7]), ([], []), ([9], [9]), ([10, 8], [10]), ([1, 3, 5, 8, 11], [1, 3, 5, 8, 11]), ([], []), ([13, 12, 11, 0, 1, 2, 3, 4, 5, 6, 7, 8, 9, 10, 11, 12, 13], [12, 13])])
def rgGr.B9 : List Nat := [0, 1, 0, 4, 0, 16, 0, 64, 192, 0, 512, 1984, 4095, 0, 16383]
theorem rgGr.tab9 : rtab .any (opsOf Tryd.f24 9) = rgGr.T9 := by kernel_rfl
theorem rgGr.bits9 : waitsOk rgGr.T9.2 rgGr.B9 = true := by kernel_rfl
set_option maxHeartbeats 4000000 in
set_option maxRecDepth 100000 in
theorem refGrant_call (r : Rt) (u : ByteArray) (wr : Bool) (A : Option Addr) (c : Nat) (A' : Option Addr) (c' : Nat) (w : World) (hs : smallR r = true) (hu : u.size ≤ 1000000) {B : Nat} (h : RowsAt w B r A c A' c') :
  Calls Tryd.prog 24 #[.agg #[.string r.o, .string r.f, .int .i64 r.e, .slice A r.rs.length c, .slice A' r.ws.length c'], .string u, .bool wr] w (Told w (grantF r u wr)) := by
 obtain ⟨R, hR⟩ : ∃ R, grantF r u wr = R := ⟨_, rfl⟩
 rw [hR]
 have HR := Lib.hid hR
 clear hR
 go_enter Tryd.func24, Tryd.ntmps24
 have hb0 : Below w.heap.size w ((w.alloc (Obj.cells #[Value.string r.o, Value.string r.f, Value.int IntKind.i64 r.e, Value.slice A r.rs.length c, Value.slice A' r.ws.length c'] 26)).alloc (Obj.cells #[Value.string { data := #[] }, Value.string { data := #[] }, Value.int IntKind.i64 0, Value.slice none 0 0, Value.slice none 0 0] 26)) := below_alloc (below_alloc (Below.refl _ _) _) _
 have hx0 : BoxAt ((w.alloc (Obj.cells #[Value.string r.o, Value.string r.f, Value.int IntKind.i64 r.e, Value.slice A r.rs.length c, Value.slice A' r.ws.length c'] 26)).alloc (Obj.cells #[Value.string { data := #[] }, Value.string { data := #[] }, Value.int IntKind.i64 0, Value.slice none 0 0, Value.slice none 0 0] 26)) w.heap.size r (.slice A r.rs.length c) (.slice A' r.ws.length c') :=
  ⟨_, rfl, by rw [(World.grownBy_alloc _ _ none).block _ (by rw [World.size_alloc]; omega) (by simp)]; exact heap_new _ _ _ rfl⟩
 have hy0 : BoxAt ((w.alloc (Obj.cells #[Value.string r.o, Value.string r.f, Value.int IntKind.i64 r.e, Value.slice A r.rs.length c, Value.slice A' r.ws.length c'] 26)).alloc (Obj.cells #[Value.string { data := #[] }, Value.string { data := #[] }, Value.int IntKind.i64 0, Value.slice none 0 0, Value.slice none 0 0] 26)) (w.heap.size + 1) noRt (.slice none 0 0) (.slice none 0 0) := ⟨_, rfl, heap_new _ _ _ (by rw [World.size_alloc])⟩
 have HB0 := Lib.hid hb0
 have HX0 := Lib.hid hx0
 have HY0 := Lib.hid hy0
 have HS := Lib.hid hs
 have HH0 := Lib.hid (h.below hb0)
 clear hb0 hx0 hy0 hs h
 obtain ⟨x0, x1, x2, x3, x4⟩ := HX0.out.cell
 cases q1 : rightR r with
 | false =>
  have HN : Hid (R.1 = noRt ∧ R.2 = 1) := by
   rw [← HR.out]
   unfold grantF
   rw [if_pos (by rw [q1])]
   exact ⟨rfl, rfl⟩
  have HA0 := fun W (h : RowsAt W B r A c A' c') => refRight_call r A c A' c' W HS.out h
  rw [q1] at HA0
  clear q1
  have HA := Lib.hid (HA0)
  clear HA0
  go_wp2_with fail
  refine (HA.out _ HH0.out).mono ?_
  rintro e w1 ⟨rfl, hb⟩
  have HB1 := Lib.hid (below_step HB0.out hb)
  have HX1 := Lib.hid (HX0.out.below hb)
  have HY1 := Lib.hid (HY0.out.below hb)
  have HH1 := Lib.hid (HH0.out.below hb)
  clear hb HB0 HX0 HY0 HH0 x0 x1 x2 x3 x4
  obtain ⟨x0, x1, x2, x3, x4⟩ := HX1.out.cell
  clear HA
  obtain ⟨y0, y1, y2, y3, y4⟩ := HY1.out.cell
  have z0 := HY1.out.free 0
  have z1 := HY1.out.free 1
  have z2 := HY1.out.free 2
  have z3 := HY1.out.free 3
  have z4 := HY1.out.free 4
  go_wp2
  obtain ⟨cs, hcs, hblk⟩ := HY1.out.put noRt (.slice none 0 0) (.slice none 0 0)
  have hbl := BoxAt.put_below (b := w.heap.size + 1) HB1.out (by omega) noRt (.slice none 0 0) (.slice none 0 0)
  subst hcs
  refine bodyPost_ret (results_ct rfl _ _ (w.heap.size + 1) 26 _ (0, 0) _ rfl hblk Tryd.underlying26 rfl (by kernel_rfl)) rfl ?_
  obtain ⟨R, er⟩ := R
  obtain ⟨rfl, rfl⟩ := (show Hid (R = noRt ∧ er = 1) from HN).out
  exact ⟨none, 0, none, 0, rfl, RowsAt.no _ _, hbl⟩
 | true =>
  have HA0 := fun W (h : RowsAt W B r A c A' c') => refRight_call r A c A' c' W HS.out h
  rw [q1] at HA0
  have HA := Lib.hid (HA0)
  clear HA0
  go_wp2_with fail
  refine (HA.out _ HH0.out).mono ?_
  rintro e w1 ⟨rfl, hb⟩
  have HB1 := Lib.hid (below_step HB0.out hb)
  have HX1 := Lib.hid (HX0.out.below hb)
  have HY1 := Lib.hid (HY0.out.below hb)
  have HH1 := Lib.hid (HH0.out.below hb)
  clear hb HB0 HX0 HY0 HH0 x0 x1 x2 x3 x4
  obtain ⟨x0, x1, x2, x3, x4⟩ := HX1.out.cell
  clear HA
  cases q2 : rightN (bytes u) with
  | false =>
   have HN : Hid (R.1 = noRt ∧ R.2 = 3) := by
    rw [← HR.out]
    unfold grantF
    rw [if_neg (by rw [q1]; simp), if_pos (by rw [q2])]
    exact ⟨rfl, rfl⟩
   have HA0 := fun W => refName_call u W hu
   rw [q2] at HA0
   clear q1 q2
   have HA := Lib.hid (HA0)
   clear HA0
   go_wp2_with fail
   refine (HA.out _).mono ?_
   rintro e w2 ⟨rfl, hb⟩
   have HB2 := Lib.hid (below_step HB1.out hb)
   have HX2 := Lib.hid (HX1.out.below hb)
   have HY2 := Lib.hid (HY1.out.below hb)
   have HH2 := Lib.hid (HH1.out.below hb)
   clear hb HB1 HX1 HY1 HH1 x0 x1 x2 x3 x4
   obtain ⟨x0, x1, x2, x3, x4⟩ := HX2.out.cell
   clear HA
   obtain ⟨y0, y1, y2, y3, y4⟩ := HY2.out.cell
   have z0 := HY2.out.free 0
   have z1 := HY2.out.free 1
   have z2 := HY2.out.free 2
   have z3 := HY2.out.free 3
   have z4 := HY2.out.free 4
   go_wp2
   obtain ⟨cs, hcs, hblk⟩ := HY2.out.put noRt (.slice none 0 0) (.slice none 0 0)
   have hbl := BoxAt.put_below (b := w.heap.size + 1) HB2.out (by omega) noRt (.slice none 0 0) (.slice none 0 0)
   subst hcs
   refine bodyPost_ret (results_ct rfl _ _ (w.heap.size + 1) 26 _ (0, 0) _ rfl hblk Tryd.underlying26 rfl (by kernel_rfl)) rfl ?_
   obtain ⟨R, er⟩ := R
   obtain ⟨rfl, rfl⟩ := (show Hid (R = noRt ∧ er = 3) from HN).out
   exact ⟨none, 0, none, 0, rfl, RowsAt.no _ _, hbl⟩
  | true =>
  have HA0 := fun W => refName_call u W hu
  rw [q2] at HA0
  have HA := Lib.hid (HA0)
  clear HA0
  go_wp2_with fail
  refine (HA.out _).mono ?_
  rintro e w2 ⟨rfl, hb⟩
  have HB2 := Lib.hid (below_step HB1.out hb)
  have HX2 := Lib.hid (HX1.out.below hb)
  have HY2 := Lib.hid (HY1.out.below hb)
  have HH2 := Lib.hid (HH1.out.below hb)
  clear hb HB1 HX1 HY1 HH1 x0 x1 x2 x3 x4
  obtain ⟨x0, x1, x2, x3, x4⟩ := HX2.out.cell
  clear HA
  have HP := Lib.hid (right_parts q1)
  have HQ := Lib.hid (And.intro q1 q2)
  clear q1 q2
  have l1 : r.rs.length ≤ 1000000 := by have := HP.out.2.2.2.1; omega
  have l2 : r.ws.length ≤ 1000000 := by have := HP.out.2.2.2.1; omega
  by_cases m0 : u = r.o
  ·have HN : Hid (R.1 = noRt ∧ R.2 = 5) := by
    rw [← HR.out]
    unfold grantF
    rw [if_neg (by rw [HQ.out.1]; simp), if_neg (by rw [HQ.out.2]; simp), if_pos (Or.inl m0)]
    exact ⟨rfl, rfl⟩
   have hE : (u.toList == r.o.toList) = true := by rw [m0]; simp
   clear m0
   obtain ⟨y0, y1, y2, y3, y4⟩ := HY2.out.cell
   have z0 := HY2.out.free 0
   have z1 := HY2.out.free 1
   have z2 := HY2.out.free 2
   have z3 := HY2.out.free 3
   have z4 := HY2.out.free 4
   go_wp2
   obtain ⟨cs, hcs, hblk⟩ := HY2.out.put noRt (.slice none 0 0) (.slice none 0 0)
   have hbl := BoxAt.put_below (b := w.heap.size + 1) HB2.out (by omega) noRt (.slice none 0 0) (.slice none 0 0)
   subst hcs
   refine bodyPost_ret (results_ct rfl _ _ (w.heap.size + 1) 26 _ (0, 0) _ rfl hblk Tryd.underlying26 rfl (by kernel_rfl)) rfl ?_
   obtain ⟨R, er⟩ := R
   obtain ⟨rfl, rfl⟩ := (show Hid (R = noRt ∧ er = 5) from HN).out
   exact ⟨none, 0, none, 0, rfl, RowsAt.no _ _, hbl⟩
  ·have hE : (u.toList == r.o.toList) = false := by rw [is_eq]; exact decide_eq_false m0
   by_cases m1 : u ∈ r.rs
   ·have HN : Hid (R.1 = noRt ∧ R.2 = 5) := by
     rw [← HR.out]
     unfold grantF
     rw [if_neg (by rw [HQ.out.1]; simp), if_neg (by rw [HQ.out.2]; simp), if_pos (Or.inr (Or.inl m1))]
     exact ⟨rfl, rfl⟩
    have HA0 := fun W (h : RowsAt W B r A c A' c') => refHas_call r.rs u A c W l1 h.h1 h.h2
    rw [decide_eq_true m1] at HA0
    clear m0 m1
    have HA := Lib.hid (HA0)
    clear HA0
    go_wp2_with fail
    refine (HA.out _ HH2.out).mono ?_
    rintro e w3 ⟨rfl, hb⟩
    have HB3 := Lib.hid (below_step HB2.out hb)
    have HX3 := Lib.hid (HX2.out.below hb)
    have HY3 := Lib.hid (HY2.out.below hb)
    have HH3 := Lib.hid (HH2.out.below hb)
    clear hb HB2 HX2 HY2 HH2 x0 x1 x2 x3 x4
    obtain ⟨x0, x1, x2, x3, x4⟩ := HX3.out.cell
    clear HA
    obtain ⟨y0, y1, y2, y3, y4⟩ := HY3.out.cell
    have z0 := HY3.out.free 0
    have z1 := HY3.out.free 1
    have z2 := HY3.out.free 2
    have z3 := HY3.out.free 3
    have z4 := HY3.out.free 4
    go_wp2
    obtain ⟨cs, hcs, hblk⟩ := HY3.out.put noRt (.slice none 0 0) (.slice none 0 0)
    have hbl := BoxAt.put_below (b := w.heap.size + 1) HB3.out (by omega) noRt (.slice none 0 0) (.slice none 0 0)
    subst hcs
    refine bodyPost_ret (results_ct rfl _ _ (w.heap.size + 1) 26 _ (0, 0) _ rfl hblk Tryd.underlying26 rfl (by kernel_rfl)) rfl ?_
    obtain ⟨R, er⟩ := R
    obtain ⟨rfl, rfl⟩ := (show Hid (R = noRt ∧ er = 5) from HN).out
    exact ⟨none, 0, none, 0, rfl, RowsAt.no _ _, hbl⟩
   ·by_cases m2 : u ∈ r.ws
    ·have HN : Hid (R.1 = noRt ∧ R.2 = 5) := by
      rw [← HR.out]
      unfold grantF
      rw [if_neg (by rw [HQ.out.1]; simp), if_neg (by rw [HQ.out.2]; simp), if_pos (Or.inr (Or.inr m2))]
      exact ⟨rfl, rfl⟩
     have HA0 := fun W (h : RowsAt W B r A c A' c') => refHas_call r.rs u A c W l1 h.h1 h.h2
     rw [decide_eq_false m1] at HA0
     clear m0 m1
     have HA := Lib.hid (HA0)
     clear HA0
     go_wp2_with fail
     refine (HA.out _ HH2.out).mono ?_
     rintro e w3 ⟨rfl, hb⟩
     have HB3 := Lib.hid (below_step HB2.out hb)
     have HX3 := Lib.hid (HX2.out.below hb)
     have HY3 := Lib.hid (HY2.out.below hb)
     have HH3 := Lib.hid (HH2.out.below hb)
     clear hb HB2 HX2 HY2 HH2 x0 x1 x2 x3 x4
     obtain ⟨x0, x1, x2, x3, x4⟩ := HX3.out.cell
     clear HA
     have HA0 := fun W (h : RowsAt W B r A c A' c') => refHas_call r.ws u A' c' W l2 h.h3 h.h4
     rw [decide_eq_true m2] at HA0
     clear m2
     have HA := Lib.hid (HA0)
     clear HA0
     go_wp2_with fail
     refine (HA.out _ HH3.out).mono ?_
     rintro e w4 ⟨rfl, hb⟩
     have HB4 := Lib.hid (below_step HB3.out hb)
     have HX4 := Lib.hid (HX3.out.below hb)
     have HY4 := Lib.hid (HY3.out.below hb)
     have HH4 := Lib.hid (HH3.out.below hb)
     clear hb HB3 HX3 HY3 HH3 x0 x1 x2 x3 x4
     obtain ⟨x0, x1, x2, x3, x4⟩ := HX4.out.cell
     clear HA
     obtain ⟨y0, y1, y2, y3, y4⟩ := HY4.out.cell
     have z0 := HY4.out.free 0
     have z1 := HY4.out.free 1
     have z2 := HY4.out.free 2
     have z3 := HY4.out.free 3
     have z4 := HY4.out.free 4
     go_wp2
     obtain ⟨cs, hcs, hblk⟩ := HY4.out.put noRt (.slice none 0 0) (.slice none 0 0)
     have hbl := BoxAt.put_below (b := w.heap.size + 1) HB4.out (by omega) noRt (.slice none 0 0) (.slice none 0 0)
     subst hcs
     refine bodyPost_ret (results_ct rfl _ _ (w.heap.size + 1) 26 _ (0, 0) _ rfl hblk Tryd.underlying26 rfl (by kernel_rfl)) rfl ?_
     obtain ⟨R, er⟩ := R
     obtain ⟨rfl, rfl⟩ := (show Hid (R = noRt ∧ er = 5) from HN).out
     exact ⟨none, 0, none, 0, rfl, RowsAt.no _ _, hbl⟩
    ·have HM : Hid (¬ (u = r.o ∨ u ∈ r.rs ∨ u ∈ r.ws)) := Lib.hid (by rintro (h | h | h); exact m0 h; exact m1 h; exact m2 h)
     have HM1 := Lib.hid m1
     have HM2 := Lib.hid m2
     have HA0 := fun W (h : RowsAt W B r A c A' c') => refHas_call r.rs u A c W l1 h.h1 h.h2
     rw [decide_eq_false m1] at HA0
     clear m0 m1
     have HA := Lib.hid (HA0)
     clear HA0
     go_wp2_with fail
     refine (HA.out _ HH2.out).mono ?_
     rintro e w3 ⟨rfl, hb⟩
     have HB3 := Lib.hid (below_step HB2.out hb)
     have HX3 := Lib.hid (HX2.out.below hb)
     have HY3 := Lib.hid (HY2.out.below hb)
     have HH3 := Lib.hid (HH2.out.below hb)
     clear hb HB2 HX2 HY2 HH2 x0 x1 x2 x3 x4
     obtain ⟨x0, x1, x2, x3, x4⟩ := HX3.out.cell
     clear HA
     have HA0 := fun W (h : RowsAt W B r A c A' c') => refHas_call r.ws u A' c' W l2 h.h3 h.h4
     rw [decide_eq_false m2] at HA0
     clear m2
     have HA := Lib.hid (HA0)
     clear HA0
     go_wp2_with fail
     refine (HA.out _ HH3.out).mono ?_
     rintro e w4 ⟨rfl, hb⟩
     have HB4 := Lib.hid (below_step HB3.out hb)
     have HX4 := Lib.hid (HX3.out.below hb)
     have HY4 := Lib.hid (HY3.out.below hb)
     have HH4 := Lib.hid (HH3.out.below hb)
     clear hb HB3 HX3 HY3 HH3 x0 x1 x2 x3 x4
     obtain ⟨x0, x1, x2, x3, x4⟩ := HX4.out.cell
     clear HA
     by_cases h5 : 5 ≤ r.rs.length + r.ws.length
     ·have HN : Hid (R.1 = noRt ∧ R.2 = 10) := by
       rw [← HR.out]
       unfold grantF
       rw [if_neg (by rw [HQ.out.1]; simp), if_neg (by rw [HQ.out.2]; simp), if_neg HM.out, if_pos h5]
       exact ⟨rfl, rfl⟩
      have hge : (r.rs.length : Int) + (r.ws.length : Int) ≥ 5 := by omega
      clear h5
      obtain ⟨y0, y1, y2, y3, y4⟩ := HY4.out.cell
      have z0 := HY4.out.free 0
      have z1 := HY4.out.free 1
      have z2 := HY4.out.free 2
      have z3 := HY4.out.free 3
      have z4 := HY4.out.free 4
      go_wp2
      obtain ⟨cs, hcs, hblk⟩ := HY4.out.put noRt (.slice none 0 0) (.slice none 0 0)
      have hbl := BoxAt.put_below (b := w.heap.size + 1) HB4.out (by omega) noRt (.slice none 0 0) (.slice none 0 0)
      subst hcs
      refine bodyPost_ret (results_ct rfl _ _ (w.heap.size + 1) 26 _ (0, 0) _ rfl hblk Tryd.underlying26 rfl (by kernel_rfl)) rfl ?_
      obtain ⟨R, er⟩ := R
      obtain ⟨rfl, rfl⟩ := (show Hid (R = noRt ∧ er = 10) from HN).out
      exact ⟨none, 0, none, 0, rfl, RowsAt.no _ _, hbl⟩
     ·have hge : ¬ (r.rs.length : Int) + (r.ws.length : Int) ≥ 5 := by omega
      have H5 := Lib.hid h5
      clear h5
      go_wp2_with fail
      have HBd := Lib.hid (below_drew HB4.out)
      have HXd : Hid (BoxAt w4.drew w.heap.size r (.slice A r.rs.length c) (.slice A' r.ws.length c')) := HX4.out
      have HYd : Hid (BoxAt w4.drew (w.heap.size + 1) noRt (.slice none 0 0) (.slice none 0 0)) := HY4.out
      have HHd := Lib.hid (HH4.out.below (below_drew (Below.refl _ _)))
      have HLd : Hid (w.heap.size + 1 < w4.drew.heap.size) := Lib.hid HYd.out.lt
      refine start_ (n := 15) (S := fun w' => w'.cell? ⟨w.heap.size, 0, none⟩ = some (.string r.o) ∧ w'.cell? ⟨w.heap.size, 1, none⟩ = some (.string r.f) ∧ w'.cell? ⟨w.heap.size, 2, none⟩ = some (.int .i64 r.e) ∧ w'.cell? ⟨w.heap.size, 3, none⟩ = some (.slice A r.rs.length c) ∧ w'.cell? ⟨w.heap.size, 4, none⟩ = some (.slice A' r.ws.length c')) (ds := [14]) #[false, false, false, false, false, false, false, false, false, false, false, false, false, false, false] (by kernel_rfl) rfl rfl ⟨HXd.out.cell.1, HXd.out.cell.2.1, HXd.out.cell.2.2.1, HXd.out.cell.2.2.2.1, HXd.out.cell.2.2.2.2⟩ (fun hHeld => ?_)
      refine with_tabW rgGr.tab9 rgGr.bits9 (fun HT_ HW_ => ?_)
      refine pure_ (i := 0) (N := some 47) (v := ?_) (a' := ?_) #[true, false, false, false, false, false, false, false, false, false, false, false, false, false, false] rfl rfl (any_of HT_.out (by kernel_rfl)) (fun _ _ _ h => h) (Or.inl ⟨by rfl, ?_⟩) ?_ ?_
      rotate_left
      ·intro w'
       go_simp
       with_reducible rfl
      rotate_left
      ·simp only [Act.put, List.setIfInBounds_toArray, List.set_cons_zero, List.set_cons_succ, i64_w, i32_w]
       rfl
      refine pure_ (i := 2) (N := some 49) (v := ?_) (a' := ?_) #[true, false, true, false, false, false, false, false, false, false, false, false, false, false, false] rfl rfl (any_of HT_.out (by kernel_rfl)) (fun _ _ _ h => h) (Or.inl ⟨by rfl, ?_⟩) ?_ ?_
      rotate_left
      ·intro w'
       go_simp
       with_reducible rfl
      rotate_left
      ·simp only [Act.put, List.setIfInBounds_toArray, List.set_cons_zero, List.set_cons_succ, i64_w, i32_w]
       rfl
      refine pure_ (i := 4) (N := some 51) (v := ?_) (a' := ?_) #[true, false, true, false, true, false, false, false, false, false, false, false, false, false, false] rfl rfl (any_of HT_.out (by kernel_rfl)) (fun _ _ _ h => h) (Or.inl ⟨by rfl, ?_⟩) ?_ ?_
      rotate_left
      ·intro w'
       go_simp
       with_reducible rfl
      rotate_left
      ·simp only [Act.put, List.setIfInBounds_toArray, List.set_cons_zero, List.set_cons_succ, i64_w, i32_w]
       rfl
      refine pure_ (i := 6) (N := some 53) (v := ?_) (a' := ?_) #[true, false, true, false, true, false, true, false, false, false, false, false, false, false, false] rfl rfl (any_of HT_.out (by kernel_rfl)) (fun _ _ _ h => h) (Or.inl ⟨by rfl, ?_⟩) ?_ ?_
      rotate_left
      ·intro w'
       go_simp
       with_reducible rfl
      rotate_left
      ·simp only [Act.put, List.setIfInBounds_toArray, List.set_cons_zero, List.set_cons_succ, i64_w, i32_w]
       rfl
      refine pure_ (i := 9) (N := some 56) (v := ?_) (a' := ?_) #[true, false, true, false, true, false, true, false, false, true, false, false, false, false, false] rfl rfl (any_of HT_.out (by kernel_rfl)) (fun _ _ _ h => h) (Or.inl ⟨by rfl, ?_⟩) ?_ ?_
      rotate_left
      ·intro w'
       go_simp
       with_reducible rfl
      rotate_left
      ·simp only [Act.put, List.setIfInBounds_toArray, List.set_cons_zero, List.set_cons_succ, i64_w, i32_w]
       rfl
      refine take_ (i := 1) (N := some 48) (v := ?_) (a' := ?_) #[true, true, true, false, true, false, true, false, false, true, false, false, false, false, false] rfl rfl (take_ofW HT_.out HW_.out (by kernel_rfl)) (fun _ _ _ h => h) (Or.inl ⟨by rfl, ?_⟩) hHeld ?_ ?_
      rotate_left
      ·rintro w' ⟨s0, s1, s2, s3, s4⟩
       go_simp
       with_reducible rfl
      rotate_left
      ·simp only [Act.put, List.setIfInBounds_toArray, List.set_cons_zero, List.set_cons_succ, i64_w, i32_w]
       rfl
      refine take_ (i := 3) (N := some 50) (v := ?_) (a' := ?_) #[true, true, true, true, true, false, true, false, false, true, false, false, false, false, false] rfl rfl (take_ofW HT_.out HW_.out (by kernel_rfl)) (fun _ _ _ h => h) (Or.inl ⟨by rfl, ?_⟩) hHeld ?_ ?_
      rotate_left
      ·rintro w' ⟨s0, s1, s2, s3, s4⟩
       go_simp
       with_reducible rfl
      rotate_left
      ·simp only [Act.put, List.setIfInBounds_toArray, List.set_cons_zero, List.set_cons_succ, i64_w, i32_w]
       rfl
      refine take_ (i := 5) (N := some 52) (v := ?_) (a' := ?_) #[true, true, true, true, true, true, true, false, false, true, false, false, false, false, false] rfl rfl (take_ofW HT_.out HW_.out (by kernel_rfl)) (fun _ _ _ h => h) (Or.inl ⟨by rfl, ?_⟩) hHeld ?_ ?_
      rotate_left
      ·rintro w' ⟨s0, s1, s2, s3, s4⟩
       go_simp
       with_reducible rfl
      rotate_left
      ·simp only [Act.put, List.setIfInBounds_toArray, List.set_cons_zero, List.set_cons_succ, i64_w, i32_w]
       rfl
      refine take_ (i := 7) (N := some 54) (v := ?_) (a' := ?_) #[true, true, true, true, true, true, true, true, false, true, false, false, false, false, false] rfl rfl (take_ofW HT_.out HW_.out (by kernel_rfl)) (fun _ _ _ h => h) (Or.inl ⟨by rfl, ?_⟩) hHeld ?_ ?_
      rotate_left
      ·rintro w' ⟨s0, s1, s2, s3, s4⟩
       go_simp
       with_reducible rfl
      rotate_left
      ·simp only [Act.put, List.setIfInBounds_toArray, List.set_cons_zero, List.set_cons_succ, i64_w, i32_w]
       rfl
      refine take_ (i := 10) (N := some 57) (v := ?_) (a' := ?_) #[true, true, true, true, true, true, true, true, false, true, true, false, false, false, false] rfl rfl (take_ofW HT_.out HW_.out (by kernel_rfl)) (fun _ _ _ h => h) (Or.inl ⟨by rfl, ?_⟩) hHeld ?_ ?_
      rotate_left
      ·rintro w' ⟨s0, s1, s2, s3, s4⟩
       go_simp
       with_reducible rfl
      rotate_left
      ·simp only [Act.put, List.setIfInBounds_toArray, List.set_cons_zero, List.set_cons_succ, i64_w, i32_w]
       rfl
      refine join_ (σ := (Option Addr × Nat) × (Option Addr × Nat) × Nat) 1 #[true, true, true, true, true, true, true, true, true, true, true, true, true, true, false] (fun s => [(55, Value.slice s.1.1 r.rs.length s.1.2), (58, Value.slice s.2.1.1 r.ws.length s.2.1.2), (59, Value.agg #[Value.string r.o, Value.string r.f, Value.int IntKind.i64 r.e, Value.slice s.1.1 r.rs.length s.1.2, Value.slice s.2.1.1 r.ws.length s.2.1.2]), (8, Value.pointer (some ⟨s.2.2, 0, none⟩))]) (fun s w' => GrF w r (.slice A r.rs.length c) (.slice A' r.ws.length c') s w') ?_ ?_
      rotate_left
      ·intro hCont
       refine two_ (i := 8) (j := 13) (Ni := some 55) (Nj := some 8) #[true, true, true, true, true, true, true, true, true, true, true, false, false, false, false] #[true, true, true, true, true, true, true, true, false, true, true, false, false, true, false] rfl rfl rfl rfl (two_of HT_.out (by kernel_rfl)) (by decide) (by decide) (fun K hK => ?_) (fun K hK => ?_)
       ·skip
        refine goes_ Tryd.func49 (by kernel_rfl) rfl #[.slice A r.rs.length c, .string { data := #[] }] (by rfl) rfl rfl (by simp only [List.map_toArray, List.map_cons, List.map_nil]; rfl) ?_
        with_reducible refine (refCopy_call r.rs A c w4.drew l1 (fun s hs => (HP.out.2.2.2.2.2.2.1 s hs).1) HHd.out.h1 HHd.out.h2).mono ?_
        rintro e w8 ⟨A3, c3, rfl, hr, hb⟩
        refine ⟨_, rfl, ?_⟩
        have HBo8 := Lib.hid (below_step HBd.out hb)
        have HXo8 := Lib.hid (HXd.out.below hb)
        have HYo8 := Lib.hid (HYd.out.below hb)
        have HHo8 := Lib.hid (HHd.out.below hb)
        have HR8o8 := Lib.hid hr
        have HS8 := Lib.hid hb.size
        clear hr
        clear hb
        refine hK.out _ _ ⟨HXo8.out.cell.1, HXo8.out.cell.2.1, HXo8.out.cell.2.2.1, HXo8.out.cell.2.2.2.1, HXo8.out.cell.2.2.2.2⟩ (fun hHeld => ?_)
        clear hK K
        refine norm_ (a' := ?_) ?_ ?_
        rotate_left
        ·show Act.put _ (some 55) _ = _
         simp only [Act.put, List.setIfInBounds_toArray, List.set_cons_zero, List.set_cons_succ, i64_w, i32_w]
         rfl
        refine two_ (i := 11) (j := 13) (Ni := some 58) (Nj := some 8) #[true, true, true, true, true, true, true, true, true, true, true, true, false, false, false] #[true, true, true, true, true, true, true, true, true, true, true, false, false, true, false] rfl rfl rfl rfl (two_of HT_.out (by kernel_rfl)) (by decide) (by decide) (fun K hK => ?_) (fun K hK => ?_)
        ·skip
         refine goes_ Tryd.func49 (by kernel_rfl) rfl #[.slice A' r.ws.length c', .string { data := #[] }] (by rfl) rfl rfl (by simp only [List.map_toArray, List.map_cons, List.map_nil]; rfl) ?_
         with_reducible refine (refCopy_call r.ws A' c' w8 l2 (fun s hs => (HP.out.2.2.2.2.2.2.2.1 s hs).1) HHo8.out.h3 HHo8.out.h4).mono ?_
         rintro e w9 ⟨A4, c4, rfl, hr, hb⟩
         refine ⟨_, rfl, ?_⟩
         have HBo8_11 := Lib.hid (below_step HBo8.out hb)
         have HXo8_11 := Lib.hid (HXo8.out.below hb)
         have HYo8_11 := Lib.hid (HYo8.out.below hb)
         have HHo8_11 := Lib.hid (HHo8.out.below hb)
         have HR8o8_11 := Lib.hid (HR8o8.out.below hb)
         have HR11o8_11 := Lib.hid hr
         have HS11 := Lib.hid hb.size
         clear hr
         clear hb
         refine hK.out _ _ ⟨HXo8_11.out.cell.1, HXo8_11.out.cell.2.1, HXo8_11.out.cell.2.2.1, HXo8_11.out.cell.2.2.2.1, HXo8_11.out.cell.2.2.2.2⟩ (fun hHeld => ?_)
         clear hK K
         refine norm_ (a' := ?_) ?_ ?_
         rotate_left
         ·show Act.put _ (some 58) _ = _
          simp only [Act.put, List.setIfInBounds_toArray, List.set_cons_zero, List.set_cons_succ, i64_w, i32_w]
          rfl
         refine pure_ (i := 12) (N := some 59) (v := ?_) (a' := ?_) #[true, true, true, true, true, true, true, true, true, true, true, true, true, false, false] rfl rfl (any_of HT_.out (by kernel_rfl)) (fun _ _ _ h => h) (Or.inl ⟨by rfl, ?_⟩) ?_ ?_
         rotate_left
         ·intro w'
          go_simp
          with_reducible rfl
         rotate_left
         ·simp only [Act.put, List.setIfInBounds_toArray, List.set_cons_zero, List.set_cons_succ, i64_w, i32_w]
          rfl
         refine one_ (i := 13) (N := some 8) #[true, true, true, true, true, true, true, true, true, true, true, true, true, true, false] rfl rfl (one_of HT_.out (by kernel_rfl)) (by decide) (fun K hK => ?_)
         refine value_ (w1 := ?_) (v := ?_) (by rfl) rfl ?_ ?_
         rotate_left 2
         ·go_simp
          constructor
          ·rfl
          ·rfl
         have hb := (show Below w9.heap.size w9 (w9.alloc (Obj.cells #[Value.string { data := #[] }, Value.string { data := #[] }, Value.int IntKind.i64 0, Value.slice none 0 0, Value.slice none 0 0] 26)) from below_alloc (Below.refl w9.heap.size w9) (Obj.cells #[Value.string { data := #[] }, Value.string { data := #[] }, Value.int IntKind.i64 0, Value.slice none 0 0, Value.slice none 0 0] 26))
         have HBo8_11_13 := Lib.hid (below_step HBo8_11.out hb)
         have HXo8_11_13 := Lib.hid (HXo8_11.out.below hb)
         have HYo8_11_13 := Lib.hid (HYo8_11.out.below hb)
         have HHo8_11_13 := Lib.hid (HHo8_11.out.below hb)
         have HR8o8_11_13 := Lib.hid (HR8o8_11.out.below hb)
         have HR11o8_11_13 := Lib.hid (HR11o8_11.out.below hb)
         have HZo8_11_13 : Hid (BoxAt (w9.alloc (Obj.cells #[Value.string { data := #[] }, Value.string { data := #[] }, Value.int IntKind.i64 0, Value.slice none 0 0, Value.slice none 0 0] 26)) w9.heap.size noRt (.slice none 0 0) (.slice none 0 0)) := Lib.hid (show BoxAt (w9.alloc (Obj.cells #[Value.string { data := #[] }, Value.string { data := #[] }, Value.int IntKind.i64 0, Value.slice none 0 0, Value.slice none 0 0] 26)) w9.heap.size noRt (.slice none 0 0) (.slice none 0 0) from ⟨_, rfl, heap_new _ _ _ rfl⟩)
         clear hb
         refine hK.out _ _ ⟨HXo8_11_13.out.cell.1, HXo8_11_13.out.cell.2.1, HXo8_11_13.out.cell.2.2.1, HXo8_11_13.out.cell.2.2.2.1, HXo8_11_13.out.cell.2.2.2.2⟩ (fun hHeld => ?_)
         clear hK K
         refine norm_ (a' := ?_) ?_ ?_
         rotate_left
         ·show Act.put _ (some 8) _ = _
          simp only [Act.put, List.setIfInBounds_toArray, List.set_cons_zero, List.set_cons_succ, i64_w, i32_w]
          rfl
         exact norm_ (by simp only [putAll, Act.put, List.setIfInBounds_toArray, List.set_cons_zero, List.set_cons_succ]) (hCont ((A3, c3), (A4, c4), w9.heap.size) _ (gr_mk HBo8_11_13.out HXo8_11_13.out HYo8_11_13.out HZo8_11_13.out HR8o8_11_13.out HR11o8_11_13.out (by have h1 := HLd.out; have h2 := HS8.out; have h3 := HS11.out; (try simp only [World.size_alloc] at h1 h2 h3 ⊢); omega)))
        ·skip
         refine value_ (w1 := ?_) (v := ?_) (by rfl) rfl ?_ ?_
         rotate_left 2
         ·go_simp
          constructor
          ·rfl
          ·rfl
         have hb := (show Below w8.heap.size w8 (w8.alloc (Obj.cells #[Value.string { data := #[] }, Value.string { data := #[] }, Value.int IntKind.i64 0, Value.slice none 0 0, Value.slice none 0 0] 26)) from below_alloc (Below.refl w8.heap.size w8) (Obj.cells #[Value.string { data := #[] }, Value.string { data := #[] }, Value.int IntKind.i64 0, Value.slice none 0 0, Value.slice none 0 0] 26))
         have HBo8_13 := Lib.hid (below_step HBo8.out hb)
         have HXo8_13 := Lib.hid (HXo8.out.below hb)
         have HYo8_13 := Lib.hid (HYo8.out.below hb)
         have HHo8_13 := Lib.hid (HHo8.out.below hb)
         have HR8o8_13 := Lib.hid (HR8o8.out.below hb)
         have HZo8_13 : Hid (BoxAt (w8.alloc (Obj.cells #[Value.string { data := #[] }, Value.string { data := #[] }, Value.int IntKind.i64 0, Value.slice none 0 0, Value.slice none 0 0] 26)) w8.heap.size noRt (.slice none 0 0) (.slice none 0 0)) := Lib.hid (show BoxAt (w8.alloc (Obj.cells #[Value.string { data := #[] }, Value.string { data := #[] }, Value.int IntKind.i64 0, Value.slice none 0 0, Value.slice none 0 0] 26)) w8.heap.size noRt (.slice none 0 0) (.slice none 0 0) from ⟨_, rfl, heap_new _ _ _ rfl⟩)
         clear hb
         refine hK.out _ _ ⟨HXo8_13.out.cell.1, HXo8_13.out.cell.2.1, HXo8_13.out.cell.2.2.1, HXo8_13.out.cell.2.2.2.1, HXo8_13.out.cell.2.2.2.2⟩ (fun hHeld => ?_)
         clear hK K
         refine norm_ (a' := ?_) ?_ ?_
         rotate_left
         ·show Act.put _ (some 8) _ = _
          simp only [Act.put, List.setIfInBounds_toArray, List.set_cons_zero, List.set_cons_succ, i64_w, i32_w]
          rfl
         refine one_ (i := 11) (N := some 58) #[true, true, true, true, true, true, true, true, true, true, true, true, false, true, false] rfl rfl (one_of HT_.out (by kernel_rfl)) (by decide) (fun K hK => ?_)
         refine goes_ Tryd.func49 (by kernel_rfl) rfl #[.slice A' r.ws.length c', .string { data := #[] }] (by rfl) rfl rfl (by simp only [List.map_toArray, List.map_cons, List.map_nil]; rfl) ?_
         with_reducible refine (refCopy_call r.ws A' c' (w8.alloc (Obj.cells #[Value.string { data := #[] }, Value.string { data := #[] }, Value.int IntKind.i64 0, Value.slice none 0 0, Value.slice none 0 0] 26)) l2 (fun s hs => (HP.out.2.2.2.2.2.2.2.1 s hs).1) HHo8_13.out.h3 HHo8_13.out.h4).mono ?_
         rintro e w9 ⟨A4, c4, rfl, hr, hb⟩
         refine ⟨_, rfl, ?_⟩
         have HBo8_13_11 := Lib.hid (below_step HBo8_13.out hb)
         have HXo8_13_11 := Lib.hid (HXo8_13.out.below hb)
         have HYo8_13_11 := Lib.hid (HYo8_13.out.below hb)
         have HHo8_13_11 := Lib.hid (HHo8_13.out.below hb)
         have HR8o8_13_11 := Lib.hid (HR8o8_13.out.below hb)
         have HZo8_13_11 := Lib.hid (HZo8_13.out.below hb)
         have HR11o8_13_11 := Lib.hid hr
         have HS11 := Lib.hid hb.size
         clear hr
         clear hb
         refine hK.out _ _ ⟨HXo8_13_11.out.cell.1, HXo8_13_11.out.cell.2.1, HXo8_13_11.out.cell.2.2.1, HXo8_13_11.out.cell.2.2.2.1, HXo8_13_11.out.cell.2.2.2.2⟩ (fun hHeld => ?_)
         clear hK K
         refine norm_ (a' := ?_) ?_ ?_
         rotate_left
         ·show Act.put _ (some 58) _ = _
          simp only [Act.put, List.setIfInBounds_toArray, List.set_cons_zero, List.set_cons_succ, i64_w, i32_w]
          rfl
         refine pure_ (i := 12) (N := some 59) (v := ?_) (a' := ?_) #[true, true, true, true, true, true, true, true, true, true, true, true, true, true, false] rfl rfl (any_of HT_.out (by kernel_rfl)) (fun _ _ _ h => h) (Or.inl ⟨by rfl, ?_⟩) ?_ ?_
         rotate_left
         ·intro w'
          go_simp
          with_reducible rfl
         rotate_left
         ·simp only [Act.put, List.setIfInBounds_toArray, List.set_cons_zero, List.set_cons_succ, i64_w, i32_w]
          rfl
         exact norm_ (by simp only [putAll, Act.put, List.setIfInBounds_toArray, List.set_cons_zero, List.set_cons_succ]) (hCont ((A3, c3), (A4, c4), w8.heap.size) _ (gr_mk HBo8_13_11.out HXo8_13_11.out HYo8_13_11.out HZo8_13_11.out HR8o8_13_11.out HR11o8_13_11.out (by have h1 := HLd.out; have h2 := HS8.out; have h3 := HS11.out; (try simp only [World.size_alloc] at h1 h2 h3 ⊢); omega)))
       ·skip
        refine value_ (w1 := ?_) (v := ?_) (by rfl) rfl ?_ ?_
        rotate_left 2
        ·go_simp
         constructor
         ·rfl
         ·rfl
        have hb := (show Below w4.drew.heap.size w4.drew (w4.alloc (Obj.cells #[Value.string { data := #[] }, Value.string { data := #[] }, Value.int IntKind.i64 0, Value.slice none 0 0, Value.slice none 0 0] 26)).drew from below_alloc (Below.refl w4.drew.heap.size w4.drew) (Obj.cells #[Value.string { data := #[] }, Value.string { data := #[] }, Value.int IntKind.i64 0, Value.slice none 0 0, Value.slice none 0 0] 26))
        have HBo13 := Lib.hid (below_step HBd.out hb)
        have HXo13 := Lib.hid (HXd.out.below hb)
        have HYo13 := Lib.hid (HYd.out.below hb)
        have HHo13 := Lib.hid (HHd.out.below hb)
        have HZo13 : Hid (BoxAt (w4.alloc (Obj.cells #[Value.string { data := #[] }, Value.string { data := #[] }, Value.int IntKind.i64 0, Value.slice none 0 0, Value.slice none 0 0] 26)).drew w4.drew.heap.size noRt (.slice none 0 0) (.slice none 0 0)) := Lib.hid (show BoxAt (w4.drew.alloc (Obj.cells #[Value.string { data := #[] }, Value.string { data := #[] }, Value.int IntKind.i64 0, Value.slice none 0 0, Value.slice none 0 0] 26)) w4.drew.heap.size noRt (.slice none 0 0) (.slice none 0 0) from ⟨_, rfl, heap_new _ _ _ rfl⟩)
        clear hb
        refine hK.out _ _ ⟨HXo13.out.cell.1, HXo13.out.cell.2.1, HXo13.out.cell.2.2.1, HXo13.out.cell.2.2.2.1, HXo13.out.cell.2.2.2.2⟩ (fun hHeld => ?_)
        clear hK K
        refine norm_ (a' := ?_) ?_ ?_
        rotate_left
        ·show Act.put _ (some 8) _ = _
         simp only [Act.put, List.setIfInBounds_toArray, List.set_cons_zero, List.set_cons_succ, i64_w, i32_w]
         rfl
        refine one_ (i := 8) (N := some 55) #[true, true, true, true, true, true, true, true, true, true, true, false, false, true, false] rfl rfl (one_of HT_.out (by kernel_rfl)) (by decide) (fun K hK => ?_)
        refine goes_ Tryd.func49 (by kernel_rfl) rfl #[.slice A r.rs.length c, .string { data := #[] }] (by rfl) rfl rfl (by simp only [List.map_toArray, List.map_cons, List.map_nil]; rfl) ?_
        with_reducible refine (refCopy_call r.rs A c (w4.alloc (Obj.cells #[Value.string { data := #[] }, Value.string { data := #[] }, Value.int IntKind.i64 0, Value.slice none 0 0, Value.slice none 0 0] 26)).drew l1 (fun s hs => (HP.out.2.2.2.2.2.2.1 s hs).1) HHo13.out.h1 HHo13.out.h2).mono ?_
        rintro e w8 ⟨A3, c3, rfl, hr, hb⟩
        refine ⟨_, rfl, ?_⟩
        have HBo13_8 := Lib.hid (below_step HBo13.out hb)
        have HXo13_8 := Lib.hid (HXo13.out.below hb)
        have HYo13_8 := Lib.hid (HYo13.out.below hb)
        have HHo13_8 := Lib.hid (HHo13.out.below hb)
        have HZo13_8 := Lib.hid (HZo13.out.below hb)
        have HR8o13_8 := Lib.hid hr
        have HS8 := Lib.hid hb.size
        clear hr
        clear hb
        refine hK.out _ _ ⟨HXo13_8.out.cell.1, HXo13_8.out.cell.2.1, HXo13_8.out.cell.2.2.1, HXo13_8.out.cell.2.2.2.1, HXo13_8.out.cell.2.2.2.2⟩ (fun hHeld => ?_)
        clear hK K
        refine norm_ (a' := ?_) ?_ ?_
        rotate_left
        ·show Act.put _ (some 55) _ = _
         simp only [Act.put, List.setIfInBounds_toArray, List.set_cons_zero, List.set_cons_succ, i64_w, i32_w]
         rfl
        refine one_ (i := 11) (N := some 58) #[true, true, true, true, true, true, true, true, true, true, true, true, false, true, false] rfl rfl (one_of HT_.out (by kernel_rfl)) (by decide) (fun K hK => ?_)
        refine goes_ Tryd.func49 (by kernel_rfl) rfl #[.slice A' r.ws.length c', .string { data := #[] }] (by rfl) rfl rfl (by simp only [List.map_toArray, List.map_cons, List.map_nil]; rfl) ?_
        with_reducible refine (refCopy_call r.ws A' c' w8 l2 (fun s hs => (HP.out.2.2.2.2.2.2.2.1 s hs).1) HHo13_8.out.h3 HHo13_8.out.h4).mono ?_
        rintro e w9 ⟨A4, c4, rfl, hr, hb⟩
        refine ⟨_, rfl, ?_⟩
        have HBo13_8_11 := Lib.hid (below_step HBo13_8.out hb)
        have HXo13_8_11 := Lib.hid (HXo13_8.out.below hb)
        have HYo13_8_11 := Lib.hid (HYo13_8.out.below hb)
        have HHo13_8_11 := Lib.hid (HHo13_8.out.below hb)
        have HZo13_8_11 := Lib.hid (HZo13_8.out.below hb)
        have HR8o13_8_11 := Lib.hid (HR8o13_8.out.below hb)
        have HR11o13_8_11 := Lib.hid hr
        have HS11 := Lib.hid hb.size
        clear hr
        clear hb
        refine hK.out _ _ ⟨HXo13_8_11.out.cell.1, HXo13_8_11.out.cell.2.1, HXo13_8_11.out.cell.2.2.1, HXo13_8_11.out.cell.2.2.2.1, HXo13_8_11.out.cell.2.2.2.2⟩ (fun hHeld => ?_)
        clear hK K
        refine norm_ (a' := ?_) ?_ ?_
        rotate_left
        ·show Act.put _ (some 58) _ = _
         simp only [Act.put, List.setIfInBounds_toArray, List.set_cons_zero, List.set_cons_succ, i64_w, i32_w]
         rfl
        refine pure_ (i := 12) (N := some 59) (v := ?_) (a' := ?_) #[true, true, true, true, true, true, true, true, true, true, true, true, true, true, false] rfl rfl (any_of HT_.out (by kernel_rfl)) (fun _ _ _ h => h) (Or.inl ⟨by rfl, ?_⟩) ?_ ?_
        rotate_left
        ·intro w'
         go_simp
         with_reducible rfl
        rotate_left
        ·simp only [Act.put, List.setIfInBounds_toArray, List.set_cons_zero, List.set_cons_succ, i64_w, i32_w]
         rfl
        exact norm_ (by simp only [putAll, Act.put, List.setIfInBounds_toArray, List.set_cons_zero, List.set_cons_succ]) (hCont ((A3, c3), (A4, c4), w4.heap.size) _ (gr_mk HBo13_8_11.out HXo13_8_11.out HYo13_8_11.out HZo13_8_11.out HR8o13_8_11.out HR11o13_8_11.out (by have h1 := HLd.out; have h2 := HS8.out; have h3 := HS11.out; have e1 : w4.drew.heap.size = w4.heap.size := rfl; have e2 : ((w4.alloc (Obj.cells #[Value.string { data := #[] }, Value.string { data := #[] }, Value.int IntKind.i64 0, Value.slice none 0 0, Value.slice none 0 0] 26)).drew).heap.size = w4.heap.size + 1 := World.size_alloc _ _; (try simp only [World.size_alloc] at h1 h2 h3 ⊢); omega)))
      rintro ⟨⟨A3, c3⟩, ⟨A4, c4⟩, XB⟩ w9 ⟨hB, hX, hY, hZ, hR8, hR9, hlx⟩
      have HB10 := Lib.hid hB
      have HX10 := Lib.hid hX
      have HY10 := Lib.hid hY
      have HZ10 := Lib.hid hZ
      have HR8 := Lib.hid hR8
      have HR9 := Lib.hid hR9
      have HLX := Lib.hid hlx
      clear hB hX hY hZ hR8 hR9 hlx
      have hHeld := HX10.out.cell
      refine norm_ (a' := ?_) ?_ ?_
      rotate_left
      ·simp only [putAll, Act.put, List.setIfInBounds_toArray, List.set_cons_zero, List.set_cons_succ]
       rfl
      refine last_ (i := 14) (N := none) #[true, true, true, true, true, true, true, true, true, true, true, true, true, true, true] rfl rfl (one_of HT_.out (by kernel_rfl)) (by decide) (fun K hK => ?_)
      obtain ⟨y0, y1, y2, y3, y4⟩ := HZ10.out.cell
      have z0 := HZ10.out.free 0
      have z1 := HZ10.out.free 1
      have z2 := HZ10.out.free 2
      have z3 := HZ10.out.free 3
      have z4 := HZ10.out.free 4
      refine skip_ (w1 := ?_) (by rfl) rfl ?_ ?_
      rotate_left
      ·go_simp
       rfl
      refine hK.out _ _ ?_
      clear hK K
      refine done_ (done_of HT_.out (by kernel_rfl)) ?_
      clear y0 y1 y2 y3 y4 z0 z1 z2 z3 z4
      have hlx : w.heap.size + 1 < XB := HLX.out
      have HXX := Lib.hid (HZ10.out.put r (.slice A3 r.rs.length c3) (.slice A4 r.ws.length c4))
      have HB11 := Lib.hid (BoxAt.put_below (b := XB) HB10.out (by omega) r (.slice A3 r.rs.length c3) (.slice A4 r.ws.length c4))
      have HR31 := Lib.hid (HR8.out.put (b := XB) (Or.inr rfl) (.string r.o) (.string r.f) (.int .i64 r.e) (.slice A3 r.rs.length c3) (.slice A4 r.ws.length c4))
      have HR41 := Lib.hid (HR9.out.put (b := XB) (Or.inr rfl) (.string r.o) (.string r.f) (.int .i64 r.e) (.slice A3 r.rs.length c3) (.slice A4 r.ws.length c4))
      have HY11 := Lib.hid (((((HY10.out.far (p := ⟨XB, 0, none⟩) (Nat.ne_of_lt hlx) (.string r.o)).far (p := ⟨XB, 1, none⟩) (Nat.ne_of_lt hlx) (.string r.f)).far (p := ⟨XB, 2, none⟩) (Nat.ne_of_lt hlx) (.int .i64 r.e)).far (p := ⟨XB, 3, none⟩) (Nat.ne_of_lt hlx) (.slice A3 r.rs.length c3)).far (p := ⟨XB, 4, none⟩) (Nat.ne_of_lt hlx) (.slice A4 r.ws.length c4))
      clear HX10 HY10 HZ10 HB10 HR8 HR9 hHeld x0 x1 x2 x3 x4
      generalize (((((w9.setCell ⟨XB, 0, none⟩ (.string r.o)).setCell ⟨XB, 1, none⟩ (.string r.f)).setCell ⟨XB, 2, none⟩ (.int .i64 r.e)).setCell ⟨XB, 3, none⟩ (.slice A3 r.rs.length c3)).setCell ⟨XB, 4, none⟩ (.slice A4 r.ws.length c4)) = W at HXX HB11 HR31 HR41 HY11 ⊢
      obtain ⟨x0, x1, x2, x3, x4⟩ := HXX.out.cell
      have hne1 : ¬ XB = w.heap.size + 1 := by omega
      have hne2 : ¬ w.heap.size + 1 = XB := by omega
      clear hlx
      cases wr with
      | true =>
       have HN : Hid (R = (⟨r.o, r.f, r.e, r.rs, (insL r.ws u)⟩, 0)) := by
        rw [← HR.out]
        unfold grantF
        rw [if_neg (by rw [HQ.out.1]; simp), if_neg (by rw [HQ.out.2]; simp), if_neg HM.out, if_neg H5.out]
        exact Lib.hid rfl
       have HA0 := refWith_call r.ws u A4 c4 W l2 hu (fun s hs => (HP.out.2.2.2.2.2.2.2.1 s hs).1) HP.out.2.2.2.2.2.1 HM2.out HR41.out.h1 HR41.out.h2
       have HA := Lib.hid HA0
       clear HA0
       go_wp2_with fail
       refine HA.out.mono ?_
       rintro e w12 ⟨A5, c5, rfl, hr12, hb12⟩
       have HN5 := Lib.hid (hr12.toF (X := XB) (B := w.heap.size + 2) (by have := HY11.out.lt; omega) (Or.inr HXX.out.lt))
       have HX12 := Lib.hid (HXX.out.below hb12)
       have HY12 := Lib.hid (HY11.out.below hb12)
       have HB12 := Lib.hid (below_step HB11.out hb12)
       have HR312 := Lib.hid (HR31.out.below hb12)
       have HR412 := Lib.hid (HR41.out.below hb12)
       clear hr12 hb12 HA HXX HY11 HB11 HR31 HR41 x0 x1 x2 x3 x4
       obtain ⟨x0, x1, x2, x3, x4⟩ := HX12.out.cell
       have f3 := HX12.out.free 4
       obtain ⟨y0, y1, y2, y3, y4⟩ := HY12.out.cell
       have z0 := HY12.out.free 0
       have z1 := HY12.out.free 1
       have z2 := HY12.out.free 2
       have z3 := HY12.out.free 3
       have z4 := HY12.out.free 4
       go_wp2
       have hres := HY12.out.far (p := ⟨XB, 4, none⟩) (Nat.ne_of_lt HLX.out) (.slice A5 (insL r.ws u).length c5)
       have hbel := HB12.out.setCell (p := ⟨XB, 4, none⟩) (by have h : w.heap.size + 1 < XB := HLX.out; show _ ≤ XB; omega) (.slice A5 (insL r.ws u).length c5)
       obtain ⟨cs, hcs, hblk⟩ := hres.put ⟨r.o, r.f, r.e, r.rs, (insL r.ws u)⟩ (.slice A3 r.rs.length c3) (.slice A5 (insL r.ws u).length c5)
       have hbl := BoxAt.put_below (b := w.heap.size + 1) hbel (by omega) ⟨r.o, r.f, r.e, r.rs, (insL r.ws u)⟩ (.slice A3 r.rs.length c3) (.slice A5 (insL r.ws u).length c5)
       subst hcs
       refine bodyPost_ret (results_ct rfl _ _ (w.heap.size + 1) 26 _ (0, 0) _ rfl hblk Tryd.underlying26 rfl (by kernel_rfl)) rfl ?_
       obtain rfl := HN.out
       exact ⟨_, _, _, _, rfl, rows_ofF ((HR312.out.far (p := ⟨XB, 4, none⟩) (Or.inr rfl) (.slice A5 (insL r.ws u).length c5)).put (Or.inl (Nat.lt_succ_self _)) _ _ _ _ _) ((HN5.out.far (p := ⟨XB, 4, none⟩) (Or.inr rfl) (.slice A5 (insL r.ws u).length c5)).put (Or.inl (Nat.lt_succ_self _)) _ _ _ _ _) (by omega), hbl⟩
      | false =>
       have HN : Hid (R = (⟨r.o, r.f, r.e, (insL r.rs u), r.ws⟩, 0)) := by
        rw [← HR.out]
        unfold grantF
        rw [if_neg (by rw [HQ.out.1]; simp), if_neg (by rw [HQ.out.2]; simp), if_neg HM.out, if_neg H5.out]
        exact Lib.hid rfl
       have HA0 := refWith_call r.rs u A3 c3 W l1 hu (fun s hs => (HP.out.2.2.2.2.2.2.1 s hs).1) HP.out.2.2.2.2.1 HM1.out HR31.out.h1 HR31.out.h2
       have HA := Lib.hid HA0
       clear HA0
       go_wp2_with fail
       refine HA.out.mono ?_
       rintro e w12 ⟨A5, c5, rfl, hr12, hb12⟩
       have HN5 := Lib.hid (hr12.toF (X := XB) (B := w.heap.size + 2) (by have := HY11.out.lt; omega) (Or.inr HXX.out.lt))
       have HX12 := Lib.hid (HXX.out.below hb12)
       have HY12 := Lib.hid (HY11.out.below hb12)
       have HB12 := Lib.hid (below_step HB11.out hb12)
       have HR312 := Lib.hid (HR31.out.below hb12)
       have HR412 := Lib.hid (HR41.out.below hb12)
       clear hr12 hb12 HA HXX HY11 HB11 HR31 HR41 x0 x1 x2 x3 x4
       obtain ⟨x0, x1, x2, x3, x4⟩ := HX12.out.cell
       have f3 := HX12.out.free 3
       obtain ⟨y0, y1, y2, y3, y4⟩ := HY12.out.cell
       have z0 := HY12.out.free 0
       have z1 := HY12.out.free 1
       have z2 := HY12.out.free 2
       have z3 := HY12.out.free 3
       have z4 := HY12.out.free 4
       go_wp2
       have hres := HY12.out.far (p := ⟨XB, 3, none⟩) (Nat.ne_of_lt HLX.out) (.slice A5 (insL r.rs u).length c5)
       have hbel := HB12.out.setCell (p := ⟨XB, 3, none⟩) (by have h : w.heap.size + 1 < XB := HLX.out; show _ ≤ XB; omega) (.slice A5 (insL r.rs u).length c5)
       obtain ⟨cs, hcs, hblk⟩ := hres.put ⟨r.o, r.f, r.e, (insL r.rs u), r.ws⟩ (.slice A5 (insL r.rs u).length c5) (.slice A4 r.ws.length c4)
       have hbl := BoxAt.put_below (b := w.heap.size + 1) hbel (by omega) ⟨r.o, r.f, r.e, (insL r.rs u), r.ws⟩ (.slice A5 (insL r.rs u).length c5) (.slice A4 r.ws.length c4)
       subst hcs
       refine bodyPost_ret (results_ct rfl _ _ (w.heap.size + 1) 26 _ (0, 0) _ rfl hblk Tryd.underlying26 rfl (by kernel_rfl)) rfl ?_
       obtain rfl := HN.out
       exact ⟨_, _, _, _, rfl, rows_ofF ((HN5.out.far (p := ⟨XB, 3, none⟩) (Or.inr rfl) (.slice A5 (insL r.rs u).length c5)).put (Or.inl (Nat.lt_succ_self _)) _ _ _ _ _) ((HR412.out.far (p := ⟨XB, 3, none⟩) (Or.inr rfl) (.slice A5 (insL r.rs u).length c5)).put (Or.inl (Nat.lt_succ_self _)) _ _ _ _ _) (by omega), hbl⟩
def rgRv.T9 : Bool × List (List Nat × List Nat) := (true, [([], []), ([0], [0]), ([], []), ([2], [2]), ([], []), ([4], [4]), ([5], [5]), ([], []), ([7], [7]), ([], []), ([8, 9], [8, 9]), ([], []), ([11], [11]), ([], []), ([12, 13, 10], [12, 13]), ([1, 3, 6, 10, 14], [1, 3, 6, 10, 14]), ([15, 14, 0, 1, 2, 3, 4, 5, 6, 7, 8, 9, 10, 11, 12, 13, 14, 15], [15]), ([16, 0, 1, 2, 3, 4, 5, 6, 7, 8, 9, 10, 11, 12, 13, 14, 15, 16], [])])
def rgRv.B9 : List Nat := [0, 1, 0, 4, 0, 16, 48, 0, 128, 0, 896, 0, 2048, 0, 16256, 32767, 65535, 131071]
theorem rgRv.tab9 : rtab .any (opsOf Tryd.f25 9) = rgRv.T9 := by kernel_rfl
theorem rgRv.bits9 : waitsOk rgRv.T9.2 rgRv.B9 = true := by kernel_rfl
set_option maxHeartbeats 4000000 in
set_option maxRecDepth 100000 in
theorem refRevoke_call (r : Rt) (u : ByteArray) (A : Option Addr) (c : Nat) (A' : Option Addr) (c' : Nat) (w : World) (hs : smallR r = true) (hu : u.size ≤ 1000000) {B : Nat} (h : RowsAt w B r A c A' c') :
  Calls Tryd.prog 25 #[.agg #[.string r.o, .string r.f, .int .i64 r.e, .slice A r.rs.length c, .slice A' r.ws.length c'], .string u] w (Told w (revokeF r u)) := by
 obtain ⟨R, hR⟩ : ∃ R, revokeF r u = R := ⟨_, rfl⟩
 rw [hR]
 have HR := Lib.hid hR
 clear hR
 go_enter Tryd.func25, Tryd.ntmps25
 have hb0 : Below w.heap.size w ((w.alloc (Obj.cells #[Value.string r.o, Value.string r.f, Value.int IntKind.i64 r.e, Value.slice A r.rs.length c, Value.slice A' r.ws.length c'] 26)).alloc (Obj.cells #[Value.string { data := #[] }, Value.string { data := #[] }, Value.int IntKind.i64 0, Value.slice none 0 0, Value.slice none 0 0] 26)) := below_alloc (below_alloc (Below.refl _ _) _) _
 have hx0 : BoxAt ((w.alloc (Obj.cells #[Value.string r.o, Value.string r.f, Value.int IntKind.i64 r.e, Value.slice A r.rs.length c, Value.slice A' r.ws.length c'] 26)).alloc (Obj.cells #[Value.string { data := #[] }, Value.string { data := #[] }, Value.int IntKind.i64 0, Value.slice none 0 0, Value.slice none 0 0] 26)) w.heap.size r (.slice A r.rs.length c) (.slice A' r.ws.length c') :=
  ⟨_, rfl, by rw [(World.grownBy_alloc _ _ none).block _ (by rw [World.size_alloc]; omega) (by simp)]; exact heap_new _ _ _ rfl⟩
 have hy0 : BoxAt ((w.alloc (Obj.cells #[Value.string r.o, Value.string r.f, Value.int IntKind.i64 r.e, Value.slice A r.rs.length c, Value.slice A' r.ws.length c'] 26)).alloc (Obj.cells #[Value.string { data := #[] }, Value.string { data := #[] }, Value.int IntKind.i64 0, Value.slice none 0 0, Value.slice none 0 0] 26)) (w.heap.size + 1) noRt (.slice none 0 0) (.slice none 0 0) := ⟨_, rfl, heap_new _ _ _ (by rw [World.size_alloc])⟩
 have HB0 := Lib.hid hb0
 have HX0 := Lib.hid hx0
 have HY0 := Lib.hid hy0
 have HS := Lib.hid hs
 have HH0 := Lib.hid (h.below hb0)
 clear hb0 hx0 hy0 hs h
 obtain ⟨x0, x1, x2, x3, x4⟩ := HX0.out.cell
 cases q1 : rightR r with
 | false =>
  have HN : Hid (R.1 = noRt ∧ R.2 = 1) := by
   rw [← HR.out]
   unfold revokeF
   rw [if_pos (by rw [q1])]
   exact ⟨rfl, rfl⟩
  have HA0 := fun W (h : RowsAt W B r A c A' c') => refRight_call r A c A' c' W HS.out h
  rw [q1] at HA0
  clear q1
  have HA := Lib.hid (HA0)
  clear HA0
  go_wp2_with fail
  refine (HA.out _ HH0.out).mono ?_
  rintro e w1 ⟨rfl, hb⟩
  have HB1 := Lib.hid (below_step HB0.out hb)
  have HX1 := Lib.hid (HX0.out.below hb)
  have HY1 := Lib.hid (HY0.out.below hb)
  have HH1 := Lib.hid (HH0.out.below hb)
  clear hb HB0 HX0 HY0 HH0 x0 x1 x2 x3 x4
  obtain ⟨x0, x1, x2, x3, x4⟩ := HX1.out.cell
  clear HA
  obtain ⟨y0, y1, y2, y3, y4⟩ := HY1.out.cell
  have z0 := HY1.out.free 0
  have z1 := HY1.out.free 1
  have z2 := HY1.out.free 2
  have z3 := HY1.out.free 3
  have z4 := HY1.out.free 4
  go_wp2
  obtain ⟨cs, hcs, hblk⟩ := HY1.out.put noRt (.slice none 0 0) (.slice none 0 0)
  have hbl := BoxAt.put_below (b := w.heap.size + 1) HB1.out (by omega) noRt (.slice none 0 0) (.slice none 0 0)
  subst hcs
  refine bodyPost_ret (results_ct rfl _ _ (w.heap.size + 1) 26 _ (0, 0) _ rfl hblk Tryd.underlying26 rfl (by kernel_rfl)) rfl ?_
  obtain ⟨R, er⟩ := R
  obtain ⟨rfl, rfl⟩ := (show Hid (R = noRt ∧ er = 1) from HN).out
  exact ⟨none, 0, none, 0, rfl, RowsAt.no _ _, hbl⟩
 | true =>
  have HA0 := fun W (h : RowsAt W B r A c A' c') => refRight_call r A c A' c' W HS.out h
  rw [q1] at HA0
  have HA := Lib.hid (HA0)
  clear HA0
  go_wp2_with fail
  refine (HA.out _ HH0.out).mono ?_
  rintro e w1 ⟨rfl, hb⟩
  have HB1 := Lib.hid (below_step HB0.out hb)
  have HX1 := Lib.hid (HX0.out.below hb)
  have HY1 := Lib.hid (HY0.out.below hb)
  have HH1 := Lib.hid (HH0.out.below hb)
  clear hb HB0 HX0 HY0 HH0 x0 x1 x2 x3 x4
  obtain ⟨x0, x1, x2, x3, x4⟩ := HX1.out.cell
  clear HA
  cases q2 : rightN (bytes u) with
  | false =>
   have HN : Hid (R.1 = noRt ∧ R.2 = 3) := by
    rw [← HR.out]
    unfold revokeF
    rw [if_neg (by rw [q1]; simp), if_pos (by rw [q2])]
    exact ⟨rfl, rfl⟩
   have HA0 := fun W => refName_call u W hu
   rw [q2] at HA0
   clear q1 q2
   have HA := Lib.hid (HA0)
   clear HA0
   go_wp2_with fail
   refine (HA.out _).mono ?_
   rintro e w2 ⟨rfl, hb⟩
   have HB2 := Lib.hid (below_step HB1.out hb)
   have HX2 := Lib.hid (HX1.out.below hb)
   have HY2 := Lib.hid (HY1.out.below hb)
   have HH2 := Lib.hid (HH1.out.below hb)
   clear hb HB1 HX1 HY1 HH1 x0 x1 x2 x3 x4
   obtain ⟨x0, x1, x2, x3, x4⟩ := HX2.out.cell
   clear HA
   obtain ⟨y0, y1, y2, y3, y4⟩ := HY2.out.cell
   have z0 := HY2.out.free 0
   have z1 := HY2.out.free 1
   have z2 := HY2.out.free 2
   have z3 := HY2.out.free 3
   have z4 := HY2.out.free 4
   go_wp2
   obtain ⟨cs, hcs, hblk⟩ := HY2.out.put noRt (.slice none 0 0) (.slice none 0 0)
   have hbl := BoxAt.put_below (b := w.heap.size + 1) HB2.out (by omega) noRt (.slice none 0 0) (.slice none 0 0)
   subst hcs
   refine bodyPost_ret (results_ct rfl _ _ (w.heap.size + 1) 26 _ (0, 0) _ rfl hblk Tryd.underlying26 rfl (by kernel_rfl)) rfl ?_
   obtain ⟨R, er⟩ := R
   obtain ⟨rfl, rfl⟩ := (show Hid (R = noRt ∧ er = 3) from HN).out
   exact ⟨none, 0, none, 0, rfl, RowsAt.no _ _, hbl⟩
  | true =>
  have HA0 := fun W => refName_call u W hu
  rw [q2] at HA0
  have HA := Lib.hid (HA0)
  clear HA0
  go_wp2_with fail
  refine (HA.out _).mono ?_
  rintro e w2 ⟨rfl, hb⟩
  have HB2 := Lib.hid (below_step HB1.out hb)
  have HX2 := Lib.hid (HX1.out.below hb)
  have HY2 := Lib.hid (HY1.out.below hb)
  have HH2 := Lib.hid (HH1.out.below hb)
  clear hb HB1 HX1 HY1 HH1 x0 x1 x2 x3 x4
  obtain ⟨x0, x1, x2, x3, x4⟩ := HX2.out.cell
  clear HA
  have HP := Lib.hid (right_parts q1)
  have HQ := Lib.hid (And.intro q1 q2)
  clear q1 q2
  have l1 : r.rs.length ≤ 1000000 := by have := HP.out.2.2.2.1; omega
  have l2 : r.ws.length ≤ 1000000 := by have := HP.out.2.2.2.1; omega
  by_cases m1 : u ∈ r.rs
  ·have HM := Lib.hid (show u ∈ r.rs ∨ u ∈ r.ws from Or.inl m1)
   have HA0 := fun W (h : RowsAt W B r A c A' c') => refHas_call r.rs u A c W l1 h.h1 h.h2
   rw [decide_eq_true m1] at HA0
   clear m1
   have HA := Lib.hid (HA0)
   clear HA0
   go_wp2_with fail
   refine (HA.out _ HH2.out).mono ?_
   rintro e w3 ⟨rfl, hb⟩
   have HB3 := Lib.hid (below_step HB2.out hb)
   have HX3 := Lib.hid (HX2.out.below hb)
   have HY3 := Lib.hid (HY2.out.below hb)
   have HH3 := Lib.hid (HH2.out.below hb)
   clear hb HB2 HX2 HY2 HH2 x0 x1 x2 x3 x4
   obtain ⟨x0, x1, x2, x3, x4⟩ := HX3.out.cell
   clear HA
   have he0 : 0 ≤ r.e := HP.out.2.2.1.1
   have he1 : r.e ≤ 7 := HP.out.2.2.1.2
   by_cases h7 : r.e = 7
   ·have HN : Hid (R.1 = noRt ∧ R.2 = 9) := by
     rw [← HR.out]
     unfold revokeF
     rw [if_neg (by rw [HQ.out.1]; simp), if_neg (by rw [HQ.out.2]; simp), if_neg (fun h => h HM.out), if_pos h7]
     exact ⟨rfl, rfl⟩
    have h7b : (r.e == 7) = true := by rw [h7]; rfl
    clear h7
    obtain ⟨y0, y1, y2, y3, y4⟩ := HY3.out.cell
    have z0 := HY3.out.free 0
    have z1 := HY3.out.free 1
    have z2 := HY3.out.free 2
    have z3 := HY3.out.free 3
    have z4 := HY3.out.free 4
    go_wp2
    obtain ⟨cs, hcs, hblk⟩ := HY3.out.put noRt (.slice none 0 0) (.slice none 0 0)
    have hbl := BoxAt.put_below (b := w.heap.size + 1) HB3.out (by omega) noRt (.slice none 0 0) (.slice none 0 0)
    subst hcs
    refine bodyPost_ret (results_ct rfl _ _ (w.heap.size + 1) 26 _ (0, 0) _ rfl hblk Tryd.underlying26 rfl (by kernel_rfl)) rfl ?_
    obtain ⟨R, er⟩ := R
    obtain ⟨rfl, rfl⟩ := (show Hid (R = noRt ∧ er = 9) from HN).out
    exact ⟨none, 0, none, 0, rfl, RowsAt.no _ _, hbl⟩
   ·have h7b : (r.e == 7) = false := by rw [beq_eq_false_iff_ne]; exact h7
    have HN : Hid (R = (⟨r.o, r.f, r.e + 1, dropL r.rs u, dropL r.ws u⟩, 0)) := by
     rw [← HR.out]
     unfold revokeF
     rw [if_neg (by rw [HQ.out.1]; simp), if_neg (by rw [HQ.out.2]; simp), if_neg (fun h => h HM.out), if_neg h7]
     exact Lib.hid rfl
    clear h7
    go_wp2_with fail
    have HBd := Lib.hid (below_drew HB3.out)
    have HXd : Hid (BoxAt w3.drew w.heap.size r (.slice A r.rs.length c) (.slice A' r.ws.length c')) := HX3.out
    have HYd : Hid (BoxAt w3.drew (w.heap.size + 1) noRt (.slice none 0 0) (.slice none 0 0)) := HY3.out
    have HHd := Lib.hid (HH3.out.below (below_drew (Below.refl _ _)))
    have HLd : Hid (w.heap.size + 1 < w3.drew.heap.size) := Lib.hid HYd.out.lt
    refine start_ (n := 18) (S := fun w' => w'.cell? ⟨w.heap.size, 0, none⟩ = some (.string r.o) ∧ w'.cell? ⟨w.heap.size, 1, none⟩ = some (.string r.f) ∧ w'.cell? ⟨w.heap.size, 2, none⟩ = some (.int .i64 r.e) ∧ w'.cell? ⟨w.heap.size, 3, none⟩ = some (.slice A r.rs.length c) ∧ w'.cell? ⟨w.heap.size, 4, none⟩ = some (.slice A' r.ws.length c')) (ds := [16]) #[false, false, false, false, false, false, false, false, false, false, false, false, false, false, false, false, false, false] (by kernel_rfl) rfl rfl ⟨HXd.out.cell.1, HXd.out.cell.2.1, HXd.out.cell.2.2.1, HXd.out.cell.2.2.2.1, HXd.out.cell.2.2.2.2⟩ (fun hHeld => ?_)
    refine with_tabW rgRv.tab9 rgRv.bits9 (fun HT_ HW_ => ?_)
    refine pure_ (i := 0) (N := some 35) (v := ?_) (a' := ?_) #[true, false, false, false, false, false, false, false, false, false, false, false, false, false, false, false, false, false] rfl rfl (any_of HT_.out (by kernel_rfl)) (fun _ _ _ h => h) (Or.inl ⟨by rfl, ?_⟩) ?_ ?_
    rotate_left
    ·intro w'
     go_simp
     with_reducible rfl
    rotate_left
    ·simp only [Act.put, List.setIfInBounds_toArray, List.set_cons_zero, List.set_cons_succ, i64_w, i32_w]
     rfl
    refine pure_ (i := 2) (N := some 37) (v := ?_) (a' := ?_) #[true, false, true, false, false, false, false, false, false, false, false, false, false, false, false, false, false, false] rfl rfl (any_of HT_.out (by kernel_rfl)) (fun _ _ _ h => h) (Or.inl ⟨by rfl, ?_⟩) ?_ ?_
    rotate_left
    ·intro w'
     go_simp
     with_reducible rfl
    rotate_left
    ·simp only [Act.put, List.setIfInBounds_toArray, List.set_cons_zero, List.set_cons_succ, i64_w, i32_w]
     rfl
    refine pure_ (i := 4) (N := some 39) (v := ?_) (a' := ?_) #[true, false, true, false, true, false, false, false, false, false, false, false, false, false, false, false, false, false] rfl rfl (any_of HT_.out (by kernel_rfl)) (fun _ _ _ h => h) (Or.inl ⟨by rfl, ?_⟩) ?_ ?_
    rotate_left
    ·intro w'
     go_simp
     with_reducible rfl
    rotate_left
    ·simp only [Act.put, List.setIfInBounds_toArray, List.set_cons_zero, List.set_cons_succ, i64_w, i32_w]
     rfl
    refine pure_ (i := 7) (N := some 42) (v := ?_) (a' := ?_) #[true, false, true, false, true, false, false, true, false, false, false, false, false, false, false, false, false, false] rfl rfl (any_of HT_.out (by kernel_rfl)) (fun _ _ _ h => h) (Or.inl ⟨by rfl, ?_⟩) ?_ ?_
    rotate_left
    ·intro w'
     go_simp
     with_reducible rfl
    rotate_left
    ·simp only [Act.put, List.setIfInBounds_toArray, List.set_cons_zero, List.set_cons_succ, i64_w, i32_w]
     rfl
    refine pure_ (i := 9) (N := some 44) (v := ?_) (a' := ?_) #[true, false, true, false, true, false, false, true, false, true, false, false, false, false, false, false, false, false] rfl rfl (any_of HT_.out (by kernel_rfl)) (fun _ _ _ h => h) (Or.inl ⟨by rfl, ?_⟩) ?_ ?_
    rotate_left
    ·intro w'
     go_simp
     with_reducible rfl
    rotate_left
    ·simp only [Act.put, List.setIfInBounds_toArray, List.set_cons_zero, List.set_cons_succ, i64_w, i32_w]
     rfl
    refine pure_ (i := 11) (N := some 46) (v := ?_) (a' := ?_) #[true, false, true, false, true, false, false, true, false, true, false, true, false, false, false, false, false, false] rfl rfl (any_of HT_.out (by kernel_rfl)) (fun _ _ _ h => h) (Or.inl ⟨by rfl, ?_⟩) ?_ ?_
    rotate_left
    ·intro w'
     go_simp
     with_reducible rfl
    rotate_left
    ·simp only [Act.put, List.setIfInBounds_toArray, List.set_cons_zero, List.set_cons_succ, i64_w, i32_w]
     rfl
    refine pure_ (i := 13) (N := some 48) (v := ?_) (a' := ?_) #[true, false, true, false, true, false, false, true, false, true, false, true, false, true, false, false, false, false] rfl rfl (any_of HT_.out (by kernel_rfl)) (fun _ _ _ h => h) (Or.inl ⟨by rfl, ?_⟩) ?_ ?_
    rotate_left
    ·intro w'
     go_simp
     with_reducible rfl
    rotate_left
    ·simp only [Act.put, List.setIfInBounds_toArray, List.set_cons_zero, List.set_cons_succ, i64_w, i32_w]
     rfl
    refine take_ (i := 1) (N := some 36) (v := ?_) (a' := ?_) #[true, true, true, false, true, false, false, true, false, true, false, true, false, true, false, false, false, false] rfl rfl (take_ofW HT_.out HW_.out (by kernel_rfl)) (fun _ _ _ h => h) (Or.inl ⟨by rfl, ?_⟩) hHeld ?_ ?_
    rotate_left
    ·rintro w' ⟨s0, s1, s2, s3, s4⟩
     go_simp
     with_reducible rfl
    rotate_left
    ·simp only [Act.put, List.setIfInBounds_toArray, List.set_cons_zero, List.set_cons_succ, i64_w, i32_w]
     rfl
    refine take_ (i := 3) (N := some 38) (v := ?_) (a' := ?_) #[true, true, true, true, true, false, false, true, false, true, false, true, false, true, false, false, false, false] rfl rfl (take_ofW HT_.out HW_.out (by kernel_rfl)) (fun _ _ _ h => h) (Or.inl ⟨by rfl, ?_⟩) hHeld ?_ ?_
    rotate_left
    ·rintro w' ⟨s0, s1, s2, s3, s4⟩
     go_simp
     with_reducible rfl
    rotate_left
    ·simp only [Act.put, List.setIfInBounds_toArray, List.set_cons_zero, List.set_cons_succ, i64_w, i32_w]
     rfl
    refine take_ (i := 5) (N := some 40) (v := ?_) (a' := ?_) #[true, true, true, true, true, true, false, true, false, true, false, true, false, true, false, false, false, false] rfl rfl (take_ofW HT_.out HW_.out (by kernel_rfl)) (fun _ _ _ h => h) (Or.inl ⟨by rfl, ?_⟩) hHeld ?_ ?_
    rotate_left
    ·rintro w' ⟨s0, s1, s2, s3, s4⟩
     go_simp
     with_reducible rfl
    rotate_left
    ·simp only [Act.put, List.setIfInBounds_toArray, List.set_cons_zero, List.set_cons_succ, i64_w, i32_w]
     rfl
    refine pure_ (i := 6) (N := some 41) (v := ?_) (a' := ?_) #[true, true, true, true, true, true, true, true, false, true, false, true, false, true, false, false, false, false] rfl rfl (any_of HT_.out (by kernel_rfl)) (fun _ _ _ h => h) (Or.inl ⟨by rfl, ?_⟩) ?_ ?_
    rotate_left
    ·intro w'
     go_simp
     with_reducible rfl
    rotate_left
    ·simp only [Act.put, List.setIfInBounds_toArray, List.set_cons_zero, List.set_cons_succ, i64_w, i32_w]
     rfl
    refine take_ (i := 8) (N := some 43) (v := ?_) (a' := ?_) #[true, true, true, true, true, true, true, true, true, true, false, true, false, true, false, false, false, false] rfl rfl (take_ofW HT_.out HW_.out (by kernel_rfl)) (fun _ _ _ h => h) (Or.inl ⟨by rfl, ?_⟩) hHeld ?_ ?_
    rotate_left
    ·rintro w' ⟨s0, s1, s2, s3, s4⟩
     go_simp
     with_reducible rfl
    rotate_left
    ·simp only [Act.put, List.setIfInBounds_toArray, List.set_cons_zero, List.set_cons_succ, i64_w, i32_w]
     rfl
    refine take_ (i := 12) (N := some 47) (v := ?_) (a' := ?_) #[true, true, true, true, true, true, true, true, true, true, false, true, true, true, false, false, false, false] rfl rfl (take_ofW HT_.out HW_.out (by kernel_rfl)) (fun _ _ _ h => h) (Or.inl ⟨by rfl, ?_⟩) hHeld ?_ ?_
    rotate_left
    ·rintro w' ⟨s0, s1, s2, s3, s4⟩
     go_simp
     with_reducible rfl
    rotate_left
    ·simp only [Act.put, List.setIfInBounds_toArray, List.set_cons_zero, List.set_cons_succ, i64_w, i32_w]
     rfl
    refine one_ (i := 10) (N := some 45) #[true, true, true, true, true, true, true, true, true, true, true, true, true, true, false, false, false, false] rfl rfl (one_of HT_.out (by kernel_rfl)) (by decide) (fun K hK => ?_)
    refine goes_ Tryd.func49 (by kernel_rfl) rfl #[.slice A r.rs.length c, .string u] (by rfl) rfl rfl (by simp only [List.map_toArray, List.map_cons, List.map_nil]; rfl) ?_
    with_reducible refine (refWithout_call r.rs u A c w3.drew l1 HHd.out.h1 HHd.out.h2).mono ?_
    rintro e w8 ⟨A3, c3, rfl, hr8, hb8⟩
    refine ⟨_, rfl, ?_⟩
    have HB8 := Lib.hid (below_step HBd.out hb8)
    have HX8 := Lib.hid (HXd.out.below hb8)
    have HY8 := Lib.hid (HYd.out.below hb8)
    have HH8 := Lib.hid (HHd.out.below hb8)
    have HR8 := Lib.hid hr8
    clear hr8 hb8
    refine hK.out _ _ ⟨HX8.out.cell.1, HX8.out.cell.2.1, HX8.out.cell.2.2.1, HX8.out.cell.2.2.2.1, HX8.out.cell.2.2.2.2⟩ (fun hHeld => ?_)
    clear hK K
    refine norm_ (a' := ?_) ?_ ?_
    rotate_left
    ·show Act.put _ (some 45) _ = _
     simp only [Act.put, List.setIfInBounds_toArray, List.set_cons_zero, List.set_cons_succ, i64_w, i32_w]
     rfl
    refine one_ (i := 14) (N := some 49) #[true, true, true, true, true, true, true, true, true, true, true, true, true, true, true, false, false, false] rfl rfl (one_of HT_.out (by kernel_rfl)) (by decide) (fun K hK => ?_)
    refine goes_ Tryd.func49 (by kernel_rfl) rfl #[.slice A' r.ws.length c', .string u] (by rfl) rfl rfl (by simp only [List.map_toArray, List.map_cons, List.map_nil]; rfl) ?_
    with_reducible refine (refWithout_call r.ws u A' c' w8 l2 HH8.out.h3 HH8.out.h4).mono ?_
    rintro e w9 ⟨A4, c4, rfl, hr9, hb9⟩
    refine ⟨_, rfl, ?_⟩
    have HB9 := Lib.hid (below_step HB8.out hb9)
    have HX9 := Lib.hid (HX8.out.below hb9)
    have HY9 := Lib.hid (HY8.out.below hb9)
    have HH9 := Lib.hid (HH8.out.below hb9)
    have HR9 := Lib.hid hr9
    have HR89 := Lib.hid (HR8.out.below hb9)
    have HR9L := Lib.hid hb9.size
    clear hr9 hb9
    refine hK.out _ _ ⟨HX9.out.cell.1, HX9.out.cell.2.1, HX9.out.cell.2.2.1, HX9.out.cell.2.2.2.1, HX9.out.cell.2.2.2.2⟩ (fun hHeld => ?_)
    clear hK K
    refine norm_ (a' := ?_) ?_ ?_
    rotate_left
    ·show Act.put _ (some 49) _ = _
     simp only [Act.put, List.setIfInBounds_toArray, List.set_cons_zero, List.set_cons_succ, i64_w, i32_w]
     rfl
    refine pure_ (i := 15) (N := some 50) (v := ?_) (a' := ?_) #[true, true, true, true, true, true, true, true, true, true, true, true, true, true, true, true, false, false] rfl rfl (any_of HT_.out (by kernel_rfl)) (fun _ _ _ h => h) (Or.inl ⟨by rfl, ?_⟩) ?_ ?_
    rotate_left
    ·intro w'
     go_simp
     with_reducible rfl
    rotate_left
    ·simp only [Act.put, List.setIfInBounds_toArray, List.set_cons_zero, List.set_cons_succ, i64_w, i32_w]
     rfl
    refine last_ (i := 16) (N := none) #[true, true, true, true, true, true, true, true, true, true, true, true, true, true, true, true, true, false] rfl rfl (one_of HT_.out (by kernel_rfl)) (by decide) (fun K hK => ?_)
    obtain ⟨y0, y1, y2, y3, y4⟩ := HY9.out.cell
    have z0 := HY9.out.free 0
    have z1 := HY9.out.free 1
    have z2 := HY9.out.free 2
    have z3 := HY9.out.free 3
    have z4 := HY9.out.free 4
    refine skip_ (w1 := ?_) (by rfl) rfl ?_ ?_
    rotate_left
    ·go_simp
     rfl
    refine hK.out _ _ ?_
    clear hK K
    refine pure_ (i := 17) (N := some 5) (v := ?_) (a' := ?_) #[true, true, true, true, true, true, true, true, true, true, true, true, true, true, true, true, true, true] rfl rfl (any_of HT_.out (by kernel_rfl)) (fun _ _ _ h => h) (Or.inl ⟨by rfl, ?_⟩) ?_ ?_
    rotate_left
    ·intro w'
     go_simp
     with_reducible rfl
    rotate_left
    ·simp only [Act.put, List.setIfInBounds_toArray, List.set_cons_zero, List.set_cons_succ, i64_w, i32_w]
     rfl
    refine done_ (done_of HT_.out (by kernel_rfl)) ?_
    go_wp2
    rw [show wrap64 (r.e + 1) = r.e + 1 by unfold wrap64; omega]
    obtain ⟨cs, hcs, hblk⟩ := HY9.out.put ⟨r.o, r.f, r.e + 1, [], []⟩ (.slice A3 (dropL r.rs u).length c3) (.slice A4 (dropL r.ws u).length c4)
    have hbl := BoxAt.put_below (b := w.heap.size + 1) HB9.out (by omega) ⟨r.o, r.f, r.e + 1, [], []⟩ (.slice A3 (dropL r.rs u).length c3) (.slice A4 (dropL r.ws u).length c4)
    subst hcs
    refine bodyPost_ret (results_ct rfl _ _ (w.heap.size + 1) 26 _ (0, 0) _ rfl hblk Tryd.underlying26 rfl (by kernel_rfl)) rfl ?_
    obtain rfl := HN.out
    exact ⟨A3, c3, A4, c4, rfl, rows_of (HR89.out.put (Or.inl HLd.out) _ _ _ _ _) (HR9.out.put (Or.inl HY8.out.lt) _ _ _ _ _) (Nat.le_of_succ_le (Nat.le_of_lt HLd.out)) (Nat.le_of_succ_le (Nat.le_of_lt HY8.out.lt)), hbl⟩
  ·by_cases m2 : u ∈ r.ws
   ·have HM := Lib.hid (show u ∈ r.rs ∨ u ∈ r.ws from Or.inr m2)
    have HA0 := fun W (h : RowsAt W B r A c A' c') => refHas_call r.rs u A c W l1 h.h1 h.h2
    rw [decide_eq_false m1] at HA0
    clear m1
    have HA := Lib.hid (HA0)
    clear HA0
    go_wp2_with fail
    refine (HA.out _ HH2.out).mono ?_
    rintro e w3 ⟨rfl, hb⟩
    have HB3 := Lib.hid (below_step HB2.out hb)
    have HX3 := Lib.hid (HX2.out.below hb)
    have HY3 := Lib.hid (HY2.out.below hb)
    have HH3 := Lib.hid (HH2.out.below hb)
    clear hb HB2 HX2 HY2 HH2 x0 x1 x2 x3 x4
    obtain ⟨x0, x1, x2, x3, x4⟩ := HX3.out.cell
    clear HA
    have HA0 := fun W (h : RowsAt W B r A c A' c') => refHas_call r.ws u A' c' W l2 h.h3 h.h4
    rw [decide_eq_true m2] at HA0
    clear m2
    have HA := Lib.hid (HA0)
    clear HA0
    go_wp2_with fail
    refine (HA.out _ HH3.out).mono ?_
    rintro e w4 ⟨rfl, hb⟩
    have HB4 := Lib.hid (below_step HB3.out hb)
    have HX4 := Lib.hid (HX3.out.below hb)
    have HY4 := Lib.hid (HY3.out.below hb)
    have HH4 := Lib.hid (HH3.out.below hb)
    clear hb HB3 HX3 HY3 HH3 x0 x1 x2 x3 x4
    obtain ⟨x0, x1, x2, x3, x4⟩ := HX4.out.cell
    clear HA
    have he0 : 0 ≤ r.e := HP.out.2.2.1.1
    have he1 : r.e ≤ 7 := HP.out.2.2.1.2
    by_cases h7 : r.e = 7
    ·have HN : Hid (R.1 = noRt ∧ R.2 = 9) := by
      rw [← HR.out]
      unfold revokeF
      rw [if_neg (by rw [HQ.out.1]; simp), if_neg (by rw [HQ.out.2]; simp), if_neg (fun h => h HM.out), if_pos h7]
      exact ⟨rfl, rfl⟩
     have h7b : (r.e == 7) = true := by rw [h7]; rfl
     clear h7
     obtain ⟨y0, y1, y2, y3, y4⟩ := HY4.out.cell
     have z0 := HY4.out.free 0
     have z1 := HY4.out.free 1
     have z2 := HY4.out.free 2
     have z3 := HY4.out.free 3
     have z4 := HY4.out.free 4
     go_wp2
     obtain ⟨cs, hcs, hblk⟩ := HY4.out.put noRt (.slice none 0 0) (.slice none 0 0)
     have hbl := BoxAt.put_below (b := w.heap.size + 1) HB4.out (by omega) noRt (.slice none 0 0) (.slice none 0 0)
     subst hcs
     refine bodyPost_ret (results_ct rfl _ _ (w.heap.size + 1) 26 _ (0, 0) _ rfl hblk Tryd.underlying26 rfl (by kernel_rfl)) rfl ?_
     obtain ⟨R, er⟩ := R
     obtain ⟨rfl, rfl⟩ := (show Hid (R = noRt ∧ er = 9) from HN).out
     exact ⟨none, 0, none, 0, rfl, RowsAt.no _ _, hbl⟩
    ·have h7b : (r.e == 7) = false := by rw [beq_eq_false_iff_ne]; exact h7
     have HN : Hid (R = (⟨r.o, r.f, r.e + 1, dropL r.rs u, dropL r.ws u⟩, 0)) := by
      rw [← HR.out]
      unfold revokeF
      rw [if_neg (by rw [HQ.out.1]; simp), if_neg (by rw [HQ.out.2]; simp), if_neg (fun h => h HM.out), if_neg h7]
      exact Lib.hid rfl
     clear h7
     go_wp2_with fail
     have HBd := Lib.hid (below_drew HB4.out)
     have HXd : Hid (BoxAt w4.drew w.heap.size r (.slice A r.rs.length c) (.slice A' r.ws.length c')) := HX4.out
     have HYd : Hid (BoxAt w4.drew (w.heap.size + 1) noRt (.slice none 0 0) (.slice none 0 0)) := HY4.out
     have HHd := Lib.hid (HH4.out.below (below_drew (Below.refl _ _)))
     have HLd : Hid (w.heap.size + 1 < w4.drew.heap.size) := Lib.hid HYd.out.lt
     refine start_ (n := 18) (S := fun w' => w'.cell? ⟨w.heap.size, 0, none⟩ = some (.string r.o) ∧ w'.cell? ⟨w.heap.size, 1, none⟩ = some (.string r.f) ∧ w'.cell? ⟨w.heap.size, 2, none⟩ = some (.int .i64 r.e) ∧ w'.cell? ⟨w.heap.size, 3, none⟩ = some (.slice A r.rs.length c) ∧ w'.cell? ⟨w.heap.size, 4, none⟩ = some (.slice A' r.ws.length c')) (ds := [16]) #[false, false, false, false, false, false, false, false, false, false, false, false, false, false, false, false, false, false] (by kernel_rfl) rfl rfl ⟨HXd.out.cell.1, HXd.out.cell.2.1, HXd.out.cell.2.2.1, HXd.out.cell.2.2.2.1, HXd.out.cell.2.2.2.2⟩ (fun hHeld => ?_)
     refine with_tabW rgRv.tab9 rgRv.bits9 (fun HT_ HW_ => ?_)
     refine pure_ (i := 0) (N := some 35) (v := ?_) (a' := ?_) #[true, false, false, false, false, false, false, false, false, false, false, false, false, false, false, false, false, false] rfl rfl (any_of HT_.out (by kernel_rfl)) (fun _ _ _ h => h) (Or.inl ⟨by rfl, ?_⟩) ?_ ?_
     rotate_left
     ·intro w'
      go_simp
      with_reducible rfl
     rotate_left
     ·simp only [Act.put, List.setIfInBounds_toArray, List.set_cons_zero, List.set_cons_succ, i64_w, i32_w]
      rfl
     refine pure_ (i := 2) (N := some 37) (v := ?_) (a' := ?_) #[true, false, true, false, false, false, false, false, false, false, false, false, false, false, false, false, false, false] rfl rfl (any_of HT_.out (by kernel_rfl)) (fun _ _ _ h => h) (Or.inl ⟨by rfl, ?_⟩) ?_ ?_
     rotate_left
     ·intro w'
      go_simp
      with_reducible rfl
     rotate_left
     ·simp only [Act.put, List.setIfInBounds_toArray, List.set_cons_zero, List.set_cons_succ, i64_w, i32_w]
      rfl
     refine pure_ (i := 4) (N := some 39) (v := ?_) (a' := ?_) #[true, false, true, false, true, false, false, false, false, false, false, false, false, false, false, false, false, false] rfl rfl (any_of HT_.out (by kernel_rfl)) (fun _ _ _ h => h) (Or.inl ⟨by rfl, ?_⟩) ?_ ?_
     rotate_left
     ·intro w'
      go_simp
      with_reducible rfl
     rotate_left
     ·simp only [Act.put, List.setIfInBounds_toArray, List.set_cons_zero, List.set_cons_succ, i64_w, i32_w]
      rfl
     refine pure_ (i := 7) (N := some 42) (v := ?_) (a' := ?_) #[true, false, true, false, true, false, false, true, false, false, false, false, false, false, false, false, false, false] rfl rfl (any_of HT_.out (by kernel_rfl)) (fun _ _ _ h => h) (Or.inl ⟨by rfl, ?_⟩) ?_ ?_
     rotate_left
     ·intro w'
      go_simp
      with_reducible rfl
     rotate_left
     ·simp only [Act.put, List.setIfInBounds_toArray, List.set_cons_zero, List.set_cons_succ, i64_w, i32_w]
      rfl
     refine pure_ (i := 9) (N := some 44) (v := ?_) (a' := ?_) #[true, false, true, false, true, false, false, true, false, true, false, false, false, false, false, false, false, false] rfl rfl (any_of HT_.out (by kernel_rfl)) (fun _ _ _ h => h) (Or.inl ⟨by rfl, ?_⟩) ?_ ?_
     rotate_left
     ·intro w'
      go_simp
      with_reducible rfl
     rotate_left
     ·simp only [Act.put, List.setIfInBounds_toArray, List.set_cons_zero, List.set_cons_succ, i64_w, i32_w]
      rfl
     refine pure_ (i := 11) (N := some 46) (v := ?_) (a' := ?_) #[true, false, true, false, true, false, false, true, false, true, false, true, false, false, false, false, false, false] rfl rfl (any_of HT_.out (by kernel_rfl)) (fun _ _ _ h => h) (Or.inl ⟨by rfl, ?_⟩) ?_ ?_
     rotate_left
     ·intro w'
      go_simp
      with_reducible rfl
     rotate_left
     ·simp only [Act.put, List.setIfInBounds_toArray, List.set_cons_zero, List.set_cons_succ, i64_w, i32_w]
      rfl
     refine pure_ (i := 13) (N := some 48) (v := ?_) (a' := ?_) #[true, false, true, false, true, false, false, true, false, true, false, true, false, true, false, false, false, false] rfl rfl (any_of HT_.out (by kernel_rfl)) (fun _ _ _ h => h) (Or.inl ⟨by rfl, ?_⟩) ?_ ?_
     rotate_left
     ·intro w'
      go_simp
      with_reducible rfl
     rotate_left
     ·simp only [Act.put, List.setIfInBounds_toArray, List.set_cons_zero, List.set_cons_succ, i64_w, i32_w]
      rfl
     refine take_ (i := 1) (N := some 36) (v := ?_) (a' := ?_) #[true, true, true, false, true, false, false, true, false, true, false, true, false, true, false, false, false, false] rfl rfl (take_ofW HT_.out HW_.out (by kernel_rfl)) (fun _ _ _ h => h) (Or.inl ⟨by rfl, ?_⟩) hHeld ?_ ?_
     rotate_left
     ·rintro w' ⟨s0, s1, s2, s3, s4⟩
      go_simp
      with_reducible rfl
     rotate_left
     ·simp only [Act.put, List.setIfInBounds_toArray, List.set_cons_zero, List.set_cons_succ, i64_w, i32_w]
      rfl
     refine take_ (i := 3) (N := some 38) (v := ?_) (a' := ?_) #[true, true, true, true, true, false, false, true, false, true, false, true, false, true, false, false, false, false] rfl rfl (take_ofW HT_.out HW_.out (by kernel_rfl)) (fun _ _ _ h => h) (Or.inl ⟨by rfl, ?_⟩) hHeld ?_ ?_
     rotate_left
     ·rintro w' ⟨s0, s1, s2, s3, s4⟩
      go_simp
      with_reducible rfl
     rotate_left
     ·simp only [Act.put, List.setIfInBounds_toArray, List.set_cons_zero, List.set_cons_succ, i64_w, i32_w]
      rfl
     refine take_ (i := 5) (N := some 40) (v := ?_) (a' := ?_) #[true, true, true, true, true, true, false, true, false, true, false, true, false, true, false, false, false, false] rfl rfl (take_ofW HT_.out HW_.out (by kernel_rfl)) (fun _ _ _ h => h) (Or.inl ⟨by rfl, ?_⟩) hHeld ?_ ?_
     rotate_left
     ·rintro w' ⟨s0, s1, s2, s3, s4⟩
      go_simp
      with_reducible rfl
     rotate_left
     ·simp only [Act.put, List.setIfInBounds_toArray, List.set_cons_zero, List.set_cons_succ, i64_w, i32_w]
      rfl
     refine pure_ (i := 6) (N := some 41) (v := ?_) (a' := ?_) #[true, true, true, true, true, true, true, true, false, true, false, true, false, true, false, false, false, false] rfl rfl (any_of HT_.out (by kernel_rfl)) (fun _ _ _ h => h) (Or.inl ⟨by rfl, ?_⟩) ?_ ?_
     rotate_left
     ·intro w'
      go_simp
      with_reducible rfl
     rotate_left
     ·simp only [Act.put, List.setIfInBounds_toArray, List.set_cons_zero, List.set_cons_succ, i64_w, i32_w]
      rfl
     refine take_ (i := 8) (N := some 43) (v := ?_) (a' := ?_) #[true, true, true, true, true, true, true, true, true, true, false, true, false, true, false, false, false, false] rfl rfl (take_ofW HT_.out HW_.out (by kernel_rfl)) (fun _ _ _ h => h) (Or.inl ⟨by rfl, ?_⟩) hHeld ?_ ?_
     rotate_left
     ·rintro w' ⟨s0, s1, s2, s3, s4⟩
      go_simp
      with_reducible rfl
     rotate_left
     ·simp only [Act.put, List.setIfInBounds_toArray, List.set_cons_zero, List.set_cons_succ, i64_w, i32_w]
      rfl
     refine take_ (i := 12) (N := some 47) (v := ?_) (a' := ?_) #[true, true, true, true, true, true, true, true, true, true, false, true, true, true, false, false, false, false] rfl rfl (take_ofW HT_.out HW_.out (by kernel_rfl)) (fun _ _ _ h => h) (Or.inl ⟨by rfl, ?_⟩) hHeld ?_ ?_
     rotate_left
     ·rintro w' ⟨s0, s1, s2, s3, s4⟩
      go_simp
      with_reducible rfl
     rotate_left
     ·simp only [Act.put, List.setIfInBounds_toArray, List.set_cons_zero, List.set_cons_succ, i64_w, i32_w]
      rfl
     refine one_ (i := 10) (N := some 45) #[true, true, true, true, true, true, true, true, true, true, true, true, true, true, false, false, false, false] rfl rfl (one_of HT_.out (by kernel_rfl)) (by decide) (fun K hK => ?_)
     refine goes_ Tryd.func49 (by kernel_rfl) rfl #[.slice A r.rs.length c, .string u] (by rfl) rfl rfl (by simp only [List.map_toArray, List.map_cons, List.map_nil]; rfl) ?_
     with_reducible refine (refWithout_call r.rs u A c w4.drew l1 HHd.out.h1 HHd.out.h2).mono ?_
     rintro e w8 ⟨A3, c3, rfl, hr8, hb8⟩
     refine ⟨_, rfl, ?_⟩
     have HB8 := Lib.hid (below_step HBd.out hb8)
     have HX8 := Lib.hid (HXd.out.below hb8)
     have HY8 := Lib.hid (HYd.out.below hb8)
     have HH8 := Lib.hid (HHd.out.below hb8)
     have HR8 := Lib.hid hr8
     clear hr8 hb8
     refine hK.out _ _ ⟨HX8.out.cell.1, HX8.out.cell.2.1, HX8.out.cell.2.2.1, HX8.out.cell.2.2.2.1, HX8.out.cell.2.2.2.2⟩ (fun hHeld => ?_)
     clear hK K
     refine norm_ (a' := ?_) ?_ ?_
     rotate_left
     ·show Act.put _ (some 45) _ = _
      simp only [Act.put, List.setIfInBounds_toArray, List.set_cons_zero, List.set_cons_succ, i64_w, i32_w]
      rfl
     refine one_ (i := 14) (N := some 49) #[true, true, true, true, true, true, true, true, true, true, true, true, true, true, true, false, false, false] rfl rfl (one_of HT_.out (by kernel_rfl)) (by decide) (fun K hK => ?_)
     refine goes_ Tryd.func49 (by kernel_rfl) rfl #[.slice A' r.ws.length c', .string u] (by rfl) rfl rfl (by simp only [List.map_toArray, List.map_cons, List.map_nil]; rfl) ?_
     with_reducible refine (refWithout_call r.ws u A' c' w8 l2 HH8.out.h3 HH8.out.h4).mono ?_
     rintro e w9 ⟨A4, c4, rfl, hr9, hb9⟩
     refine ⟨_, rfl, ?_⟩
     have HB9 := Lib.hid (below_step HB8.out hb9)
     have HX9 := Lib.hid (HX8.out.below hb9)
     have HY9 := Lib.hid (HY8.out.below hb9)
     have HH9 := Lib.hid (HH8.out.below hb9)
     have HR9 := Lib.hid hr9
     have HR89 := Lib.hid (HR8.out.below hb9)
     have HR9L := Lib.hid hb9.size
     clear hr9 hb9
     refine hK.out _ _ ⟨HX9.out.cell.1, HX9.out.cell.2.1, HX9.out.cell.2.2.1, HX9.out.cell.2.2.2.1, HX9.out.cell.2.2.2.2⟩ (fun hHeld => ?_)
     clear hK K
     refine norm_ (a' := ?_) ?_ ?_
     rotate_left
     ·show Act.put _ (some 49) _ = _
      simp only [Act.put, List.setIfInBounds_toArray, List.set_cons_zero, List.set_cons_succ, i64_w, i32_w]
      rfl
     refine pure_ (i := 15) (N := some 50) (v := ?_) (a' := ?_) #[true, true, true, true, true, true, true, true, true, true, true, true, true, true, true, true, false, false] rfl rfl (any_of HT_.out (by kernel_rfl)) (fun _ _ _ h => h) (Or.inl ⟨by rfl, ?_⟩) ?_ ?_
     rotate_left
     ·intro w'
      go_simp
      with_reducible rfl
     rotate_left
     ·simp only [Act.put, List.setIfInBounds_toArray, List.set_cons_zero, List.set_cons_succ, i64_w, i32_w]
      rfl
     refine last_ (i := 16) (N := none) #[true, true, true, true, true, true, true, true, true, true, true, true, true, true, true, true, true, false] rfl rfl (one_of HT_.out (by kernel_rfl)) (by decide) (fun K hK => ?_)
     obtain ⟨y0, y1, y2, y3, y4⟩ := HY9.out.cell
     have z0 := HY9.out.free 0
     have z1 := HY9.out.free 1
     have z2 := HY9.out.free 2
     have z3 := HY9.out.free 3
     have z4 := HY9.out.free 4
     refine skip_ (w1 := ?_) (by rfl) rfl ?_ ?_
     rotate_left
     ·go_simp
      rfl
     refine hK.out _ _ ?_
     clear hK K
     refine pure_ (i := 17) (N := some 5) (v := ?_) (a' := ?_) #[true, true, true, true, true, true, true, true, true, true, true, true, true, true, true, true, true, true] rfl rfl (any_of HT_.out (by kernel_rfl)) (fun _ _ _ h => h) (Or.inl ⟨by rfl, ?_⟩) ?_ ?_
     rotate_left
     ·intro w'
      go_simp
      with_reducible rfl
     rotate_left
     ·simp only [Act.put, List.setIfInBounds_toArray, List.set_cons_zero, List.set_cons_succ, i64_w, i32_w]
      rfl
     refine done_ (done_of HT_.out (by kernel_rfl)) ?_
     go_wp2
     rw [show wrap64 (r.e + 1) = r.e + 1 by unfold wrap64; omega]
     obtain ⟨cs, hcs, hblk⟩ := HY9.out.put ⟨r.o, r.f, r.e + 1, [], []⟩ (.slice A3 (dropL r.rs u).length c3) (.slice A4 (dropL r.ws u).length c4)
     have hbl := BoxAt.put_below (b := w.heap.size + 1) HB9.out (by omega) ⟨r.o, r.f, r.e + 1, [], []⟩ (.slice A3 (dropL r.rs u).length c3) (.slice A4 (dropL r.ws u).length c4)
     subst hcs
     refine bodyPost_ret (results_ct rfl _ _ (w.heap.size + 1) 26 _ (0, 0) _ rfl hblk Tryd.underlying26 rfl (by kernel_rfl)) rfl ?_
     obtain rfl := HN.out
     exact ⟨A3, c3, A4, c4, rfl, rows_of (HR89.out.put (Or.inl HLd.out) _ _ _ _ _) (HR9.out.put (Or.inl HY8.out.lt) _ _ _ _ _) (Nat.le_of_succ_le (Nat.le_of_lt HLd.out)) (Nat.le_of_succ_le (Nat.le_of_lt HY8.out.lt)), hbl⟩
   ·have HN : Hid (R.1 = noRt ∧ R.2 = 4) := by
     rw [← HR.out]
     unfold revokeF
     rw [if_neg (by rw [HQ.out.1]; simp), if_neg (by rw [HQ.out.2]; simp), if_pos (by rintro (h | h); exact m1 h; exact m2 h)]
     exact ⟨rfl, rfl⟩
    have HA0 := fun W (h : RowsAt W B r A c A' c') => refHas_call r.rs u A c W l1 h.h1 h.h2
    rw [decide_eq_false m1] at HA0
    clear m1
    have HA := Lib.hid (HA0)
    clear HA0
    go_wp2_with fail
    refine (HA.out _ HH2.out).mono ?_
    rintro e w3 ⟨rfl, hb⟩
    have HB3 := Lib.hid (below_step HB2.out hb)
    have HX3 := Lib.hid (HX2.out.below hb)
    have HY3 := Lib.hid (HY2.out.below hb)
    have HH3 := Lib.hid (HH2.out.below hb)
    clear hb HB2 HX2 HY2 HH2 x0 x1 x2 x3 x4
    obtain ⟨x0, x1, x2, x3, x4⟩ := HX3.out.cell
    clear HA
    have HA0 := fun W (h : RowsAt W B r A c A' c') => refHas_call r.ws u A' c' W l2 h.h3 h.h4
    rw [decide_eq_false m2] at HA0
    clear m2
    have HA := Lib.hid (HA0)
    clear HA0
    go_wp2_with fail
    refine (HA.out _ HH3.out).mono ?_
    rintro e w4 ⟨rfl, hb⟩
    have HB4 := Lib.hid (below_step HB3.out hb)
    have HX4 := Lib.hid (HX3.out.below hb)
    have HY4 := Lib.hid (HY3.out.below hb)
    have HH4 := Lib.hid (HH3.out.below hb)
    clear hb HB3 HX3 HY3 HH3 x0 x1 x2 x3 x4
    obtain ⟨x0, x1, x2, x3, x4⟩ := HX4.out.cell
    clear HA
    obtain ⟨y0, y1, y2, y3, y4⟩ := HY4.out.cell
    have z0 := HY4.out.free 0
    have z1 := HY4.out.free 1
    have z2 := HY4.out.free 2
    have z3 := HY4.out.free 3
    have z4 := HY4.out.free 4
    go_wp2
    obtain ⟨cs, hcs, hblk⟩ := HY4.out.put noRt (.slice none 0 0) (.slice none 0 0)
    have hbl := BoxAt.put_below (b := w.heap.size + 1) HB4.out (by omega) noRt (.slice none 0 0) (.slice none 0 0)
    subst hcs
    refine bodyPost_ret (results_ct rfl _ _ (w.heap.size + 1) 26 _ (0, 0) _ rfl hblk Tryd.underlying26 rfl (by kernel_rfl)) rfl ?_
    obtain ⟨R, er⟩ := R
    obtain ⟨rfl, rfl⟩ := (show Hid (R = noRt ∧ er = 4) from HN).out
    exact ⟨none, 0, none, 0, rfl, RowsAt.no _ _, hbl⟩
end Go.Proofs.YtfhanoloaejmkaaDoor
end
