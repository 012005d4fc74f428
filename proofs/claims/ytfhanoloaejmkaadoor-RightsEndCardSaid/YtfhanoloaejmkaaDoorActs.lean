/- Rights as values: their two rows are read; the contracts of rights' functions in plain words. What is granted and revoked, in plain words: it stays right; who can, and who cannot. Which of some names a number speaks of; the chapter's example. How the arguments of the statements are read: rows of texts, rows of rows of numbers, structs: cells that a kind describes. How acts are read as arguments: rows of pairs of numbers. -/
import Derived.Test.YtfhanoloaejmkaaDoorRevoke
import Derived.Test.YtfhanoloaejmkaaDoorEvRights
import Derived.Test.YtfhanoloaejmkaaDoorPAx8
import Derived.Test.YtfhanoloaejmkaaDoorWMore
import Derived.Deep.Grids
import Derived.ChangeArms
import Derived.ChangeSame
section
namespace Go.Proofs.YtfhanoloaejmkaaDoor
open Go.RowKit Go.Proofs.YtfhanoloaejmkaaDoorW.PrintWords Go.Proofs.YtfhanoloaejmkaaDoor.Ref
set_option linter.unusedVariables false
set_option linter.unusedSimpArgs false

/-- The two rows of rights are read; they lie in no block below B. -/
structure RowsAt (w : World) (B : Nat) (r : Rt) (A : Option Addr) (c : Nat) (A' : Option Addr) (c' : Nat) : Prop where
  h1 : Kd.C Kd.string w A r.rs.length r.rs
  h2 : r.rs.length ≤ c
  h3 : Kd.C Kd.string w A' r.ws.length r.ws
  h4 : r.ws.length ≤ c'
  h5 : ∀ ad, A = some ad → B ≤ ad.block
  h6 : ∀ ad, A' = some ad → B ≤ ad.block
theorem RowsAt.below {w w1 : World} {B : Nat} {r : Rt} {A : Option Addr} {c : Nat} {A' : Option Addr} {c' : Nat} (h : RowsAt w B r A c A' c') (hb : Below w.heap.size w w1) : RowsAt w1 B r A c A' c' :=
  ⟨Kd.C_below h.h1 hb, h.h2, Kd.C_below h.h3 hb, h.h4, h.h5, h.h6⟩
theorem RowsAt.lower {w : World} {B B' : Nat} {r : Rt} {A : Option Addr} {c : Nat} {A' : Option Addr} {c' : Nat} (h : RowsAt w B r A c A' c') (hb : B' ≤ B) : RowsAt w B' r A c A' c' :=
  ⟨h.h1, h.h2, h.h3, h.h4, fun ad e => Nat.le_trans hb (h.h5 ad e), fun ad e => Nat.le_trans hb (h.h6 ad e)⟩
theorem C_far {w : World} {A : Option Addr} {l : List ByteArray} (h : Kd.C Kd.string w A l.length l) {p : Addr} (hp : ∀ ad, A = some ad → ad.block ≠ p.block) (u : Value) : Kd.C Kd.string (w.setCell p u) A l.length l := by
  refine ⟨h.1, h.2.1, fun hn => ?_⟩
  obtain ⟨ad, rfl, hc⟩ := h.2.2 hn
  refine ⟨ad, rfl, fun j q hj => ?_⟩
  obtain ⟨cs, hl, hK, hz⟩ := hc j q hj
  refine ⟨cs, hl, hK, fun i x hx => ?_⟩
  rw [← hz i x hx]
  refine World.cell?_of_block (Below.heap_setCell w p u _ ?_)
  rw [add_block]
  exact hp ad rfl
theorem RowsAt.far {w : World} {B : Nat} {r : Rt} {A : Option Addr} {c : Nat} {A' : Option Addr} {c' : Nat} (h : RowsAt w B r A c A' c') {p : Addr} (hp : p.block < B) (u : Value) : RowsAt (w.setCell p u) B r A c A' c' :=
  ⟨C_far h.h1 (fun ad e => by have := h.h5 ad e; omega) u, h.h2, C_far h.h3 (fun ad e => by have := h.h6 ad e; omega) u, h.h4, h.h5, h.h6⟩
theorem RowsAt.put {w : World} {B b : Nat} {r : Rt} {A : Option Addr} {c : Nat} {A' : Option Addr} {c' : Nat} (h : RowsAt w B r A c A' c') (hp : b < B) (a1 a2 a3 a4 a5 : Value) :
    RowsAt (((((w.setCell ⟨b, 0, none⟩ a1).setCell ⟨b, 1, none⟩ a2).setCell ⟨b, 2, none⟩ a3).setCell ⟨b, 3, none⟩ a4).setCell ⟨b, 4, none⟩ a5) B r A c A' c' :=
  ((((h.far (p := ⟨b, 0, none⟩) hp a1).far (p := ⟨b, 1, none⟩) hp a2).far (p := ⟨b, 2, none⟩) hp a3).far (p := ⟨b, 3, none⟩) hp a4).far (p := ⟨b, 4, none⟩) hp a5
theorem C_nil (w : World) : Kd.C Kd.string w none ([] : List ByteArray).length [] := ⟨rfl, by simp, fun h => absurd h (Nat.lt_irrefl 0)⟩
theorem RowsAt.no (w : World) (B : Nat) : RowsAt w B noRt none 0 none 0 := ⟨C_nil w, Nat.le_refl _, C_nil w, Nat.le_refl _, (fun _ e => by cases e), (fun _ e => by cases e)⟩
theorem RowsAt.nil (w : World) (B : Nat) (o f : ByteArray) (e : Int) : RowsAt w B ⟨o, f, e, [], []⟩ none 0 none 0 := ⟨C_nil w, Nat.le_refl _, C_nil w, Nat.le_refl _, (fun _ e => by cases e), (fun _ e => by cases e)⟩
/-- Rights, and what is wrong, are told. -/
def Told (w : World) (R : Rt × Int) (e : Ending) (w' : World) : Prop := ∃ A c A' c', e = .returned (.tuple #[.agg #[.string R.1.o, .string R.1.f, .int .i64 R.1.e, .slice A R.1.rs.length c, .slice A' R.1.ws.length c'], .int .i64 R.2]) ∧ RowsAt w' w.heap.size R.1 A c A' c' ∧ Below w.heap.size w w'
theorem told_of {w : World} {R : Rt × Int} {e : Ending} {w' : World} {ok1 ok2 : Nat → Prop} {v3 v4 : Value} (he : e = .returned (.tuple #[.agg #[.string R.1.o, .string R.1.f, .int .i64 R.1.e, v3, v4], .int .i64 R.2])) (h3 : Kd.R Kd.string 9 w' w.heap.size ok1 v3 R.1.rs) (h4 : Kd.R Kd.string 9 w' w.heap.size ok2 v4 R.1.ws) (hb : Below w.heap.size w w') : Told w R e w' := by
  obtain ⟨A, c, rfl, a1, a2⟩ := Kd.R_reads h3
  obtain ⟨A', c', rfl, b1, b2⟩ := Kd.R_reads h4
  obtain ⟨_, inner, ho, _⟩ := h3
  obtain ⟨_, inner', ho', _⟩ := h4
  exact ⟨A, c, A', c', he, ⟨a2, a1, b2, b1, fun ad e => own_base ho ad.block (by rw [e]; rfl), fun ad e => own_base ho' ad.block (by rw [e]; rfl)⟩, hb⟩
theorem grant_call (r : Rt) (u : ByteArray) (wr : Bool) (A : Option Addr) (c : Nat) (A' : Option Addr) (c' : Nat) (w : World) (HTB : Aside0 (Tabs w)) (hs : smallR r = true) (hu : u.size ≤ 1000000) {B : Nat} (h : RowsAt w B r A c A' c') :
    Calls Tryd.prog 14 #[.agg #[.string r.o, .string r.f, .int .i64 r.e, .slice A r.rs.length c, .slice A' r.ws.length c'], .string u, .bool wr] w (Told w (grantF r u wr)) :=
  (grant_any r u wr A c A' c' w HTB hs hu h.h1 h.h2 h.h3 h.h4).mono fun e w' ⟨v3, v4, he, h3, h4, hb⟩ => told_of he h3 h4 hb
theorem revoke_call (r : Rt) (u : ByteArray) (A : Option Addr) (c : Nat) (A' : Option Addr) (c' : Nat) (w : World) (HTB : Aside0 (Tabs w)) (hs : smallR r = true) (hu : u.size ≤ 1000000) {B : Nat} (h : RowsAt w B r A c A' c') :
    Calls Tryd.prog 15 #[.agg #[.string r.o, .string r.f, .int .i64 r.e, .slice A r.rs.length c, .slice A' r.ws.length c'], .string u] w (Told w (revokeF r u)) :=
  (revoke_any r u A c A' c' w HTB hs hu h.h1 h.h2 h.h3 h.h4).mono fun e w' ⟨v3, v4, he, h3, h4, hb⟩ => told_of he h3 h4 hb
theorem can_call (r : Rt) (u : ByteArray) (wr : Bool) (A : Option Addr) (c : Nat) (A' : Option Addr) (c' : Nat) (w : World) (HTB : Aside0 (Tabs w)) (hs : smallR r = true) {B : Nat} (h : RowsAt w B r A c A' c') :
    Calls Tryd.prog 16 #[.agg #[.string r.o, .string r.f, .int .i64 r.e, .slice A r.rs.length c, .slice A' r.ws.length c'], .string u, .bool wr] w fun e w' => e = .returned (.bool (canF r u wr)) ∧ Below w.heap.size w w' := by
  obtain ⟨K, hk⟩ := can_ev r u wr hs
  exact PB.rights_Can.calls K r.o r.f r.e A c r.rs A' c' r.ws u wr _ w HTB h.h1 h.h2 h.h3 h.h4 (hk K (Nat.le_refl _))
theorem fixed_C {w : World} {A : Option Addr} {l : List ByteArray} {c : Nat} (h : Kd.C Kd.string w A l.length l) (hc : l.length ≤ c) (B : Nat) : Kd.V Kd.string 9 w B (fun k => k < w.heap.size) (.slice A l.length c) l := by
  exact Kd.V_mk hc (Kd.C_F Kd.heap_string h)
theorem right_call (r : Rt) (A : Option Addr) (c : Nat) (A' : Option Addr) (c' : Nat) (w : World) (HTB : Aside0 (Tabs w)) (hs : smallR r = true) {B : Nat} (h : RowsAt w B r A c A' c') :
    Calls Tryd.prog 17 #[.agg #[.string r.o, .string r.f, .int .i64 r.e, .slice A r.rs.length c, .slice A' r.ws.length c']] w fun e w' => e = .returned (.bool (rightR r)) ∧ Below w.heap.size w w' := by
  obtain ⟨K, hk⟩ := right_ev r hs
  exact PB.rights_Right.calls K r.o r.f r.e _ A c r.rs _ A' c' r.ws _ w HTB (fixed_C h.h1 h.h2 _) (fixed_C h.h3 h.h4 _) (hk K (Nat.le_refl _))

theorem nameRight_call (s : ByteArray) (w : World) (HTB : Aside0 (Tabs w)) (h : s.size ≤ 1000000) : Calls Tryd.prog 21 #[.string s] w fun e w' => e = .returned (.bool (rightN (bytes s))) ∧ Below w.heap.size w w' := right_any s w (by omega) HTB.out

set_option maxHeartbeats 4000000 in
set_option maxRecDepth 100000 in
theorem new_call (o f : ByteArray) (w : World) (HTB : Aside0 (Tabs w)) (ho : o.size ≤ 1000000) (hf : f.size ≤ 1000000) :
    Calls Tryd.prog 11 #[.string o, .string f] w (Told w (newF o f)) := by
  obtain ⟨R, hR⟩ : ∃ R, newF o f = R := ⟨_, rfl⟩
  rw [hR]
  have HR := Lib.hid hR
  clear hR
  go_enter Tryd.func11, Tryd.ntmps11
  have hb0 : Below w.heap.size w (w.alloc (Obj.cells #[Value.string { data := #[] }, Value.string { data := #[] }, Value.int IntKind.i64 0, Value.slice none 0 0, Value.slice none 0 0] 26)) := below_alloc (Below.refl _ _) _
  have hy0 : BoxAt (w.alloc (Obj.cells #[Value.string { data := #[] }, Value.string { data := #[] }, Value.int IntKind.i64 0, Value.slice none 0 0, Value.slice none 0 0] 26)) w.heap.size noRt (.slice none 0 0) (.slice none 0 0) := ⟨_, rfl, heap_new _ _ _ rfl⟩
  have HA := Lib.hid (nameRight_call o _ ⟨HTB.out.below hb0⟩ ho)
  have HB0 := Lib.hid hb0
  have HY0 := Lib.hid hy0
  clear hb0 hy0
  cases h1 : rightN (bytes o) with
  | false =>
    rw [h1] at HA
    have HN : Hid (R = (noRt, 3)) := by
      rw [← HR.out]; unfold newF; rw [h1]; exact Lib.hid rfl
    clear h1
    go_wp2_with fail
    refine HA.out.mono ?_
    rintro e w1 ⟨rfl, hb⟩
    have HB1 := Lib.hid (below_step HB0.out hb)
    have HY1 := Lib.hid (HY0.out.below hb)
    clear hb HB0 HY0 HA
    obtain ⟨y0, y1, y2, y3, y4⟩ := HY1.out.cell
    have z0 := HY1.out.free 0
    have z1 := HY1.out.free 1
    have z2 := HY1.out.free 2
    have z3 := HY1.out.free 3
    have z4 := HY1.out.free 4
    go_wp2
    obtain ⟨cs, hcs, hblk⟩ := HY1.out.put noRt (.slice none 0 0) (.slice none 0 0)
    have hbl := BoxAt.put_below (b := w.heap.size) HB1.out (Nat.le_refl _) noRt (.slice none 0 0) (.slice none 0 0)
    subst hcs
    refine bodyPost_ret (results_ct rfl _ _ w.heap.size 26 _ (0, 0) _ rfl hblk Tryd.underlying26 rfl (by kernel_rfl)) rfl ?_
    obtain rfl := HN.out
    exact ⟨none, 0, none, 0, rfl, RowsAt.nil _ _ _ _ _, hbl⟩
  | true =>
    rw [h1] at HA
    go_wp2_with fail
    refine HA.out.mono ?_
    rintro e w1 ⟨rfl, hb⟩
    have HB1 := Lib.hid (below_step HB0.out hb)
    have HY1 := Lib.hid (HY0.out.below hb)
    clear hb HB0 HY0 HA
    have HA := Lib.hid (nameRight_call f w1 ⟨HTB.out.below HB1.out⟩ hf)
    cases h2 : rightN (bytes f) with
    | false =>
      rw [h2] at HA
      have HN : Hid (R = (noRt, 3)) := by
        rw [← HR.out]; unfold newF; rw [h1, h2]; exact Lib.hid rfl
      clear h1 h2
      go_wp2_with fail
      refine HA.out.mono ?_
      rintro e w2 ⟨rfl, hb⟩
      have HB2 := Lib.hid (below_step HB1.out hb)
      have HY2 := Lib.hid (HY1.out.below hb)
      clear hb HB1 HY1 HA
      obtain ⟨y0, y1, y2, y3, y4⟩ := HY2.out.cell
      have z0 := HY2.out.free 0
      have z1 := HY2.out.free 1
      have z2 := HY2.out.free 2
      have z3 := HY2.out.free 3
      have z4 := HY2.out.free 4
      go_wp2
      obtain ⟨cs, hcs, hblk⟩ := HY2.out.put noRt (.slice none 0 0) (.slice none 0 0)
      have hbl := BoxAt.put_below (b := w.heap.size) HB2.out (Nat.le_refl _) noRt (.slice none 0 0) (.slice none 0 0)
      subst hcs
      refine bodyPost_ret (results_ct rfl _ _ w.heap.size 26 _ (0, 0) _ rfl hblk Tryd.underlying26 rfl (by kernel_rfl)) rfl ?_
      obtain rfl := HN.out
      exact ⟨none, 0, none, 0, rfl, RowsAt.nil _ _ _ _ _, hbl⟩
    | true =>
      rw [h2] at HA
      have HN : Hid (R = (⟨o, f, 0, [], []⟩, 0)) := by
        rw [← HR.out]; unfold newF; rw [h1, h2]; exact Lib.hid rfl
      clear h1 h2
      go_wp2_with fail
      refine HA.out.mono ?_
      rintro e w2 ⟨rfl, hb⟩
      have HB2 := Lib.hid (below_step HB1.out hb)
      have HY2 := Lib.hid (HY1.out.below hb)
      clear hb HB1 HY1 HA
      obtain ⟨y0, y1, y2, y3, y4⟩ := HY2.out.cell
      have z0 := HY2.out.free 0
      have z1 := HY2.out.free 1
      have z2 := HY2.out.free 2
      have z3 := HY2.out.free 3
      have z4 := HY2.out.free 4
      go_wp2
      obtain ⟨cs, hcs, hblk⟩ := HY2.out.put ⟨o, f, 0, [], []⟩ (.slice none 0 0) (.slice none 0 0)
      have hbl := BoxAt.put_below (b := w.heap.size) HB2.out (Nat.le_refl _) ⟨o, f, 0, [], []⟩ (.slice none 0 0) (.slice none 0 0)
      subst hcs
      refine bodyPost_ret (results_ct rfl _ _ w.heap.size 26 _ (0, 0) _ rfl hblk Tryd.underlying26 rfl (by kernel_rfl)) rfl ?_
      obtain rfl := HN.out
      exact ⟨none, 0, none, 0, rfl, RowsAt.nil _ _ _ _ _, hbl⟩

theorem BoxAt.lt {w : World} {b : Nat} {r : Rt} {v3 v4 : Value} (h : BoxAt w b r v3 v4) : b < w.heap.size := by
  obtain ⟨cs, _, h⟩ := h
  exact blk_lt h
/-- A new box of rights. -/
theorem box_new (w : World) (r : Rt) (v3 v4 : Value) : BoxAt (w.alloc (Obj.cells #[Value.string r.o, Value.string r.f, Value.int IntKind.i64 r.e, v3, v4] 26)) w.heap.size r v3 v4 := ⟨_, rfl, heap_new _ _ _ rfl⟩

end Go.Proofs.YtfhanoloaejmkaaDoor
end

section
namespace Go.Proofs.YtfhanoloaejmkaaDoor
open Go.Proofs.YtfhanoloaejmkaaDoor.Ref
set_option linter.unusedVariables false

theorem can_of {r : Rt} (h : rightR r = true) (u : ByteArray) (w : Bool) : canF r u w = (decide (u = r.o) || decide (u ∈ r.ws) || !w && decide (u ∈ r.rs)) := by
  unfold canF; rw [h, Bool.true_and]
theorem can_read {r : Rt} (h : rightR r = true) (u : ByteArray) : canF r u false = decide (u = r.o ∨ u ∈ r.rs ∨ u ∈ r.ws) := by
  rw [can_of h]
  by_cases a : u = r.o <;> by_cases b : u ∈ r.rs <;> by_cases c : u ∈ r.ws <;> simp [a, b, c]
theorem can_write {r : Rt} (h : rightR r = true) (u : ByteArray) : canF r u true = decide (u = r.o ∨ u ∈ r.ws) := by
  rw [can_of h]
  by_cases a : u = r.o <;> by_cases c : u ∈ r.ws <;> simp [a, c]
theorem can_bad {r : Rt} (h : rightR r = false) (u : ByteArray) (w : Bool) : canF r u w = false := by unfold canF; rw [h]; rfl

/-! ### Grant -/
def putIn (r : Rt) (u : ByteArray) (w : Bool) : Rt := if w then ⟨r.o, r.f, r.e, r.rs, insL r.ws u⟩ else ⟨r.o, r.f, r.e, insL r.rs u, r.ws⟩
theorem grant_cases {r : Rt} (h : rightR r = true) {u : ByteArray} (hu : rightN (bytes u) = true) (w : Bool) :
    grantF r u w = if canF r u false = true then (noRt, 5) else if 5 ≤ r.rs.length + r.ws.length then (noRt, 10) else (putIn r u w, 0) := by
  unfold grantF putIn
  rw [if_neg (by rw [h]; simp), if_neg (by rw [hu]; simp), can_read h]
  by_cases c : u = r.o ∨ u ∈ r.rs ∨ u ∈ r.ws
  · rw [if_pos c, if_pos (by simpa using c)]
  · rw [if_neg c, if_neg (show ¬ decide (u = r.o ∨ u ∈ r.rs ∨ u ∈ r.ws) = true by simpa using c)]
theorem put_right {r : Rt} (h : rightR r = true) {u : ByteArray} (hu : rightN (bytes u) = true) (hc : canF r u false = false) (hl : r.rs.length + r.ws.length < 5) (w : Bool) : rightR (putIn r u w) = true := by
  rw [can_read h, decide_eq_false_iff_not] at hc
  obtain ⟨p1, p2, p3, p4, p5, p6, p7, p8, p9⟩ := right_parts h
  have n1 : u ≠ r.o := fun e => hc (Or.inl e)
  have n2 : u ∉ r.rs := fun e => hc (Or.inr (Or.inl e))
  have n3 : u ∉ r.ws := fun e => hc (Or.inr (Or.inr e))
  unfold putIn
  cases w with
  | true =>
    rw [if_pos rfl]
    refine right_mk p1 p2 p3 (by show r.rs.length + (insL r.ws u).length ≤ 5; rw [ins_len]; omega) p5 (ins_rises p6 n3) p7 (fun s hs => ?_) (fun s hs hs2 => ?_)
    · rcases mem_ins.1 hs with rfl | hs
      · exact ⟨hu, n1⟩
      · exact p8 s hs
    · rcases mem_ins.1 hs2 with rfl | hs2
      · exact n2 hs
      · exact p9 s hs hs2
  | false =>
    rw [if_neg (by simp)]
    refine right_mk p1 p2 p3 (by show (insL r.rs u).length + r.ws.length ≤ 5; rw [ins_len]; omega) (ins_rises p5 n2) p6 (fun s hs => ?_) p8 (fun s hs => ?_)
    · rcases mem_ins.1 hs with rfl | hs
      · exact ⟨hu, n1⟩
      · exact p7 s hs
    · rcases mem_ins.1 hs with rfl | hs
      · exact n3
      · exact p9 s hs
theorem put_mem {r : Rt} {u v : ByteArray} {w : Bool} : (v = (putIn r u w).o ↔ v = r.o) ∧ (v ∈ (putIn r u w).rs ↔ (w = false ∧ v = u) ∨ v ∈ r.rs) ∧ (v ∈ (putIn r u w).ws ↔ (w = true ∧ v = u) ∨ v ∈ r.ws) := by
  unfold putIn
  cases w with
  | true => rw [if_pos rfl]; exact ⟨Iff.rfl, by simp, by rw [mem_ins]; simp⟩
  | false => rw [if_neg (by simp)]; exact ⟨Iff.rfl, by rw [mem_ins]; simp, by simp⟩
theorem put_can {r : Rt} {u : ByteArray} {w : Bool} (h : rightR r = true) (h2 : rightR (putIn r u w) = true) (hc : canF r u false = false) :
    canF (putIn r u w) u false = true ∧ canF (putIn r u w) u true = w ∧ (putIn r u w).e = r.e ∧ (putIn r u w).o = r.o ∧ (putIn r u w).f = r.f ∧ ∀ v, v ≠ u → ∀ b, canF (putIn r u w) v b = canF r v b := by
  rw [can_read h, decide_eq_false_iff_not] at hc
  have n1 : u ≠ r.o := fun e => hc (Or.inl e)
  have n3 : u ∉ r.ws := fun e => hc (Or.inr (Or.inr e))
  refine ⟨?_, ?_, by unfold putIn; split <;> rfl, by unfold putIn; split <;> rfl, by unfold putIn; split <;> rfl, fun v hv b => ?_⟩
  · rw [can_read h2]
    refine decide_eq_true ?_
    cases w with
    | true => exact Or.inr (Or.inr (put_mem.2.2.2 (Or.inl ⟨rfl, rfl⟩)))
    | false => exact Or.inr (Or.inl (put_mem.2.1.2 (Or.inl ⟨rfl, rfl⟩)))
  · rw [can_write h2]
    cases w with
    | true => exact decide_eq_true (Or.inr (put_mem.2.2.2 (Or.inl ⟨rfl, rfl⟩)))
    | false =>
      refine decide_eq_false ?_
      rintro (e | e)
      · exact n1 (put_mem.1.1 e)
      · rcases put_mem.2.2.1 e with ⟨e, _⟩ | e
        · cases e
        · exact n3 e
  · have q1 : decide (v = (putIn r u w).o) = decide (v = r.o) := decide_eq_decide.2 put_mem.1
    have q2 : decide (v ∈ (putIn r u w).rs) = decide (v ∈ r.rs) := decide_eq_decide.2 (put_mem.2.1.trans ⟨fun e => e.resolve_left fun e => hv e.2, Or.inr⟩)
    have q3 : decide (v ∈ (putIn r u w).ws) = decide (v ∈ r.ws) := decide_eq_decide.2 (put_mem.2.2.trans ⟨fun e => e.resolve_left fun e => hv e.2, Or.inr⟩)
    rw [can_of h2, can_of h, q1, q2, q3]

/-! ### Revoke -/
def struck (r : Rt) (u : ByteArray) : Rt := ⟨r.o, r.f, r.e + 1, dropL r.rs u, dropL r.ws u⟩
theorem revoke_cases {r : Rt} (h : rightR r = true) {u : ByteArray} (hu : rightN (bytes u) = true) :
    revokeF r u = if canF r u false = true ∧ u ≠ r.o then (if r.e = 7 then (noRt, 9) else (struck r u, 0)) else (noRt, 4) := by
  obtain ⟨p1, p2, p3, p4, p5, p6, p7, p8, p9⟩ := right_parts h
  unfold revokeF struck
  rw [if_neg (by rw [h]; simp), if_neg (by rw [hu]; simp), can_read h]
  by_cases c : u ∈ r.rs ∨ u ∈ r.ws
  · have n : u ≠ r.o := c.elim (fun e => (p7 u e).2) (fun e => (p8 u e).2)
    rw [if_neg (fun e => e c), if_pos (show decide (u = r.o ∨ u ∈ r.rs ∨ u ∈ r.ws) = true ∧ u ≠ r.o from ⟨decide_eq_true (Or.inr c), n⟩)]
  · rw [if_pos c, if_neg]
    rintro ⟨e, n⟩
    rcases of_decide_eq_true e with e | e
    · exact n e
    · exact c e
theorem struck_right {r : Rt} (h : rightR r = true) (u : ByteArray) (h7 : r.e ≠ 7) : rightR (struck r u) = true := by
  obtain ⟨p1, p2, p3, p4, p5, p6, p7, p8, p9⟩ := right_parts h
  have l1 := drop_len r.rs u
  have l2 := drop_len r.ws u
  refine right_mk p1 p2 (by show 0 ≤ r.e + 1 ∧ r.e + 1 ≤ 7; omega) (by show (dropL r.rs u).length + (dropL r.ws u).length ≤ 5; omega) (drop_rises p5) (drop_rises p6) (fun s hs => p7 s (mem_drop.1 hs).1) (fun s hs => p8 s (mem_drop.1 hs).1) (fun s hs hs2 => p9 s (mem_drop.1 hs).1 (mem_drop.1 hs2).1)
theorem struck_can {r : Rt} {u : ByteArray} (h : rightR r = true) (h2 : rightR (struck r u) = true) (hn : u ≠ r.o) :
    canF (struck r u) u false = false ∧ canF (struck r u) u true = false ∧ ∀ v, v ≠ u → ∀ b, canF (struck r u) v b = canF r v b := by
  have g1 : u ∉ dropL r.rs u := fun e => (mem_drop.1 e).2 rfl
  have g2 : u ∉ dropL r.ws u := fun e => (mem_drop.1 e).2 rfl
  refine ⟨?_, ?_, fun v hv b => ?_⟩
  · rw [can_read h2]
    refine decide_eq_false ?_
    rintro (e | e | e)
    · exact hn e
    · exact g1 e
    · exact g2 e
  · rw [can_write h2]
    refine decide_eq_false ?_
    rintro (e | e)
    · exact hn e
    · exact g2 e
  · have q2 : decide (v ∈ (struck r u).rs) = decide (v ∈ r.rs) := decide_eq_decide.2 (mem_drop.trans ⟨fun e => e.1, fun e => ⟨e, hv⟩⟩)
    have q3 : decide (v ∈ (struck r u).ws) = decide (v ∈ r.ws) := decide_eq_decide.2 (mem_drop.trans ⟨fun e => e.1, fun e => ⟨e, hv⟩⟩)
    rw [can_of h2, can_of h, q2, q3]
    rfl

/-! ### Small rights -/
theorem name_small {s : ByteArray} (h : rightN (bytes s) = true) : s.size ≤ 1000000 := by
  have := right_len h
  rw [bytes_length] at this; omega
theorem right_small {r : Rt} (h : rightR r = true) : smallR r = true := by
  obtain ⟨p1, p2, p3, p4, p5, p6, p7, p8, p9⟩ := right_parts h
  exact small_mk (name_small p1) (name_small p2) (by omega) (by omega) (by omega) (fun s hs => name_small (p7 s hs).1) (fun s hs => name_small (p8 s hs).1)
theorem small_no : smallR noRt = true := by decide +kernel
theorem grant_small {r : Rt} {u : ByteArray} {w : Bool} : smallR (grantF r u w).1 = true := by
  cases h : rightR r with
  | false => unfold grantF; rw [if_pos h]; exact small_no
  | true =>
    cases hu : rightN (bytes u) with
    | false => unfold grantF; rw [if_neg (by rw [h]; simp), if_pos hu]; exact small_no
    | true =>
      rw [grant_cases h hu]
      split
      · exact small_no
      · rename_i c
        split
        · exact small_no
        · rename_i d
          exact right_small (put_right h hu (by simpa using c) (by omega) w)
theorem revoke_small {r : Rt} {u : ByteArray} : smallR (revokeF r u).1 = true := by
  cases h : rightR r with
  | false => unfold revokeF; rw [if_pos h]; exact small_no
  | true =>
    cases hu : rightN (bytes u) with
    | false => unfold revokeF; rw [if_neg (by rw [h]; simp), if_pos hu]; exact small_no
    | true =>
      rw [revoke_cases h hu]
      split
      · split
        · exact small_no
        · rename_i d
          exact right_small (struck_right h u d)
      · exact small_no

end Go.Proofs.YtfhanoloaejmkaaDoor
end

section
namespace Go.Proofs.YtfhanoloaejmkaaDoor
open Go.RowKit Go.Proofs.YtfhanoloaejmkaaDoorW.PrintWords Go.Proofs.YtfhanoloaejmkaaDoor.Ref
set_option linter.unusedVariables false
set_option linter.unusedSimpArgs false

def pickN (c : Int) (n : Nat) : Nat := if c < 0 then ((-(c + 1)).toNat) % n else c.toNat % n
theorem pick_lt (c : Int) {n : Nat} (h : 0 < n) : pickN c n < n := by unfold pickN; split <;> exact Nat.mod_lt _ h
theorem pick_call (c : Int) (n : Nat) (w : World) (h0 : 0 < n) (hn : n ≤ 1000000) (hc : -9223372036854775808 ≤ c ∧ c ≤ 9223372036854775807) :
    Calls Tryd.prog 13 #[.int .i64 c, .int .i64 n] w fun e w' => e = .returned (.int .i64 (pickN c n : Nat)) ∧ Below w.heap.size w w' := by
  refine (PA.letterlocklaw7_pick.calls c n _ w ?_).mono fun e w' h => ⟨h.1, ?_⟩
  · unfold PA.letterlocklaw7_pick.f pickN
    by_cases h : c < 0
    · rw [if_pos h, if_neg (by omega), if_pos h]
      rw [w64 (n := c + 1) (by omega) (by omega), w64 (n := -(c + 1)) (by omega) (by omega)]
      refine congrArg some ?_
      rw [Int.tmod_eq_emod_of_nonneg (by omega)]
      have : ((-(c + 1)).toNat : Int) = -(c + 1) := by omega
      rw [Int.natCast_emod, this]
    · rw [if_neg h, if_neg (by omega), if_neg h]
      refine congrArg some ?_
      rw [Int.tmod_eq_emod_of_nonneg (by omega)]
      have : (c.toNat : Int) = c := by omega
      rw [Int.natCast_emod, this]
  · have := h.2
    first | exact this | exact this.below

def names : List ByteArray := [⟨#[97, 110, 110, 97]⟩, ⟨#[98, 101, 110]⟩, ⟨#[99, 121]⟩, ⟨#[100, 111, 114, 97]⟩, ⟨#[101, 109, 105, 108]⟩, ⟨#[195, 164, 109, 105, 108]⟩, ⟨#[102, 97, 45, 49]⟩, ⟨#[103]⟩]
def whoF (c : Int) : ByteArray := nth names (pickN c 8)

theorem names_row (k : Nat) (hk : k < 8) : (#[Value.string { data := #[97, 110, 110, 97] }, Value.string { data := #[98, 101, 110] }, Value.string { data := #[99, 121] }, Value.string { data := #[100, 111, 114, 97] }, Value.string { data := #[101, 109, 105, 108] }, Value.string { data := #[195, 164, 109, 105, 108] }, Value.string { data := #[102, 97, 45, 49] }, Value.string { data := #[103] }] : Array Value)[k]? = some (.string (nth names k)) := by
  match k, hk with
  | 0, _ => rfl
  | 1, _ => rfl
  | 2, _ => rfl
  | 3, _ => rfl
  | 4, _ => rfl
  | 5, _ => rfl
  | 6, _ => rfl
  | 7, _ => rfl
  | k + 8, h => exact absurd h (by omega)
set_option maxHeartbeats 4000000 in
set_option maxRecDepth 100000 in
theorem who_call (c : Int) (w : World) (hc : -9223372036854775808 ≤ c ∧ c ≤ 9223372036854775807) :
    Calls Tryd.prog 12 #[.int .i64 c] w fun e w' => e = .returned (.string (whoF c)) ∧ Below w.heap.size w w' := by
  have hk := pick_lt c (n := 8) (by omega)
  have HP : Hid (∀ W : World, Calls Tryd.prog 13 #[.int .i64 c, .int .i64 8] W fun e w' => e = .returned (.int .i64 (pickN c 8 : Nat)) ∧ Below W.heap.size W w') := fun W => pick_call c 8 W (by omega) (by omega) hc
  unfold whoF
  generalize pickN c 8 = k at *
  obtain ⟨x, hx⟩ : ∃ x, nth names k = x := ⟨_, rfl⟩
  have HX := Lib.hid hx
  rw [hx]
  clear hx
  go_enter Tryd.func12, Tryd.ntmps12
  have hb0 : Below w.heap.size w (w.alloc (Obj.cells #[Value.string { data := #[97, 110, 110, 97] }, Value.string { data := #[98, 101, 110] }, Value.string { data := #[99, 121] }, Value.string { data := #[100, 111, 114, 97] }, Value.string { data := #[101, 109, 105, 108] }, Value.string { data := #[195, 164, 109, 105, 108] }, Value.string { data := #[102, 97, 45, 49] }, Value.string { data := #[103] }] 9)) := below_alloc (Below.refl _ _) _
  have hx0 : (w.alloc (Obj.cells #[Value.string { data := #[97, 110, 110, 97] }, Value.string { data := #[98, 101, 110] }, Value.string { data := #[99, 121] }, Value.string { data := #[100, 111, 114, 97] }, Value.string { data := #[101, 109, 105, 108] }, Value.string { data := #[195, 164, 109, 105, 108] }, Value.string { data := #[102, 97, 45, 49] }, Value.string { data := #[103] }] 9)).heap[w.heap.size]? = some (.cells #[Value.string { data := #[97, 110, 110, 97] }, Value.string { data := #[98, 101, 110] }, Value.string { data := #[99, 121] }, Value.string { data := #[100, 111, 114, 97] }, Value.string { data := #[101, 109, 105, 108] }, Value.string { data := #[195, 164, 109, 105, 108] }, Value.string { data := #[102, 97, 45, 49] }, Value.string { data := #[103] }] 9 (0, 0)) := heap_new _ _ _ rfl
  have HB0 := Lib.hid hb0
  have HX0 := Lib.hid hx0
  clear hb0 hx0
  go_wp2_with fail
  refine (HP.out _).mono ?_
  rintro e w1 ⟨rfl, hb⟩
  have HB1 := Lib.hid (below_step HB0.out hb)
  have hck : w1.cell? ⟨w.heap.size, k, none⟩ = some (.string x) := by
    rw [blk_cell (blk_below HX0.out hb) k]
    rw [← HX.out]
    exact names_row k hk
  clear hb HB0 HX0 HP
  go_wp2
  go_ret
  exact ⟨rfl, HB1.out⟩

def anna : ByteArray := ⟨#[97, 110, 110, 97]⟩
def notes : ByteArray := ⟨#[110, 111, 116, 101, 115]⟩
def ben : ByteArray := ⟨#[98, 101, 110]⟩
def r0 : Rt := ⟨anna, notes, 0, [], []⟩
theorem new0 : newF anna notes = (r0, 0) := by
  have h1 : rightN (bytes anna) = true := by decide +kernel
  have h2 : rightN (bytes notes) = true := by decide +kernel
  unfold newF
  rw [h1, h2]; rfl
theorem right0 : rightR r0 = true := by decide +kernel
theorem small0 : smallR r0 = true := by decide +kernel
theorem nameben : rightN (bytes ben) = true := by decide +kernel
def r1 : Rt := ⟨anna, notes, 0, [ben], []⟩
theorem grant0 : grantF r0 ben false = (r1, 0) := by
  unfold grantF
  rw [if_neg (by rw [right0]; simp), if_neg (by rw [nameben]; simp), if_neg (by decide), if_neg (by decide)]
  rfl
theorem right1 : rightR r1 = true := by decide +kernel
theorem small1 : smallR r1 = true := by decide +kernel
theorem can1 : canF r1 ben false = true := by unfold canF; rw [right1]; decide
theorem can2 : canF r1 ben true = false := by unfold canF; rw [right1]; decide
theorem can3 : canF r1 anna true = true := by unfold canF; rw [right1]; decide

set_option maxHeartbeats 4000000 in
set_option maxRecDepth 100000 in
theorem shown_call (w : World) (HTB : Aside0 (Tabs w)) : Calls Tryd.prog 10 #[] w fun e w' => e = .returned (.bool true) ∧ Below w.heap.size w w' := by
  have H1 := Lib.hid (new_call anna notes w HTB (by decide +kernel) (by decide +kernel))
  rw [new0] at H1
  go_enter Tryd.func10, Tryd.ntmps10
  go_wp2_with fail
  refine H1.out.mono ?_
  rintro e w1 ⟨A1, c1, A2, c2, rfl, hr1, hb1⟩
  have hb1' := below_alloc hb1 (Obj.cells #[Value.string r0.o, Value.string r0.f, Value.int IntKind.i64 r0.e, .slice A1 r0.rs.length c1, .slice A2 r0.ws.length c2] 26)
  have H2 := Lib.hid (grant_call r0 ben false A1 c1 A2 c2 _ ⟨HTB.out.below hb1'⟩ small0 (by decide +kernel) (hr1.below (below_alloc (Below.refl _ _) (Obj.cells #[Value.string r0.o, Value.string r0.f, Value.int IntKind.i64 r0.e, .slice A1 r0.rs.length c1, .slice A2 r0.ws.length c2] 26))))
  rw [grant0] at H2
  have HB1 := Lib.hid hb1'
  clear hr1 hb1 hb1' H1
  go_wp2_with fail
  refine H2.out.mono ?_
  rintro e w2 ⟨A3, c3, A4, c4, rfl, hr2, hb2⟩
  have hbx : Below w2.heap.size w2 (w2.alloc (Obj.cells #[Value.string r1.o, Value.string r1.f, Value.int IntKind.i64 r1.e, .slice A3 r1.rs.length c3, .slice A4 r1.ws.length c4] 26)) := below_alloc (Below.refl _ _) _
  have hx := box_new w2 r1 (.slice A3 r1.rs.length c3) (.slice A4 r1.ws.length c4)
  have HB2 := Lib.hid (below_step (below_step HB1.out hb2) hbx)
  have HR2 := Lib.hid (hr2.below hbx)
  have HX2 := Lib.hid hx
  clear hb2 hr2 H2 HB1 hbx hx
  have H3 := Lib.hid (can_call r1 ben false A3 c3 A4 c4 _ ⟨HTB.out.below HB2.out⟩ small1 HR2.out)
  rw [can1] at H3
  go_wp2_with fail
  refine H3.out.mono ?_
  rintro e w3 ⟨rfl, hb⟩
  have HB3 := Lib.hid (below_step HB2.out hb)
  have HR3 := Lib.hid (HR2.out.below hb)
  have HX3 := Lib.hid (HX2.out.below hb)
  clear hb HB2 HR2 HX2 H3
  obtain ⟨x0, x1, x2, x3, x4⟩ := HX3.out.cell
  have H4 := Lib.hid (can_call r1 ben true A3 c3 A4 c4 w3 ⟨HTB.out.below HB3.out⟩ small1 HR3.out)
  rw [can2] at H4
  go_wp2_with fail
  refine H4.out.mono ?_
  rintro e w4 ⟨rfl, hb⟩
  have HB4 := Lib.hid (below_step HB3.out hb)
  have HR4 := Lib.hid (HR3.out.below hb)
  have HX4 := Lib.hid (HX3.out.below hb)
  clear hb HB3 HR3 HX3 H4 x0 x1 x2 x3 x4
  obtain ⟨x0, x1, x2, x3, x4⟩ := HX4.out.cell
  have H5 := Lib.hid (can_call r1 anna true A3 c3 A4 c4 w4 ⟨HTB.out.below HB4.out⟩ small1 HR4.out)
  rw [can3] at H5
  go_wp2_with fail
  refine H5.out.mono ?_
  rintro e w5 ⟨rfl, hb⟩
  have HB5 := Lib.hid (below_step HB4.out hb)
  clear hb HB4 HR4 HX4 H5 x0 x1 x2 x3 x4
  go_wp2
  go_ret
  exact ⟨rfl, HB5.out⟩

end Go.Proofs.YtfhanoloaejmkaaDoor
end

section
namespace Go.Proofs.YtfhanoloaejmkaaDoor
open Go.ChangeShapes Go.WideShapes Go.RowKit Go.Deep Go.Proofs.YtfhanoloaejmkaaDoorW.PrintWords
set_option linter.unusedVariables false

/-- What is read as of a type is of a kind, and good. -/
def Opens {α : Type} (P : Program) (t : TypeId) (d : Kd α) (good : α → Prop) : Prop :=
  ∀ (H : Type) (enc : TypeId × Value → H) (W : World) (fuel : Nat) (cs : List Value) (x : DataW H × List MemPlace), DataW.trod enc P W 0 (fun _ => true) true fuel t cs = some x → ∃ a, d.K W a cs ∧ good a
theorem Opens.int {P : Program} {t : TypeId} {k : IntKind} (ht : P.underlying t = some (.int k)) : Opens P t (Kd.int k) (fun n => (Lit.int k n).wf = true) := by
  intro H enc W fuel cs x h
  obtain ⟨n, rfl, _, hn⟩ := DataW.trod_int ht h
  exact ⟨n, rfl, hn⟩
theorem Opens.bool {P : Program} {t : TypeId} (ht : P.underlying t = some .bool) : Opens P t Kd.bool (fun _ => True) := by
  intro H enc W fuel cs x h
  obtain ⟨b, rfl, _⟩ := DataW.trod_bool ht h
  exact ⟨b, rfl, trivial⟩
theorem Opens.string {P : Program} {t : TypeId} (ht : P.underlying t = some .string) : Opens P t Kd.string (fun s => s.size ≤ 9223372036854775807) := by
  intro H enc W fuel cs x h
  obtain ⟨s, rfl, _, hs⟩ := DataW.trod_string ht h
  exact ⟨s, rfl, hs⟩
theorem Opens.slice {α : Type} [Inhabited α] {P : Program} {t e : TypeId} {d : Kd α} {good : α → Prop} (ht : P.underlying t = some (.slice e)) (hc : P.cellsOf e = d.sz) (he : Opens P e d good) (q : Nat) :
    Opens P t (Kd.slice q d) (fun xs => xs.length ≤ 9223372036854775807 ∧ ∀ x ∈ xs, good x) := by
  intro H enc W fuel cs x h
  rcases open_slice ht h with ⟨rfl, _⟩ | ⟨a, len, cap, m, n, D, Pl, rfl, hb, hl, hm, hmm, rfl, hx⟩
  · exact ⟨[], ⟨none, 0, rfl, Nat.le_refl _, rfl, Nat.zero_le _, fun h => absurd h (Nat.lt_irrefl _)⟩, Nat.zero_le _, fun _ h => absurd h (by simp)⟩
  have hml : len ≤ m := by rw [hmm]; split <;> omega
  have hm' : cap ≤ 9223372036854775807 := hm
  have each : ∀ i, i < len → ∃ y : α, (∃ c, c.length = d.sz ∧ d.K W y c ∧ ∀ j u, c[j]? = some u → W.cell? (a.add (i * d.sz + j)) = some u) ∧ good y := by
    intro i hi
    obtain ⟨cs', h1, h2⟩ := hx i (by omega)
    obtain ⟨y, hy, hg⟩ := he H enc W n cs' _ h2
    obtain ⟨_, hlen, hcell⟩ := World.cells?_some h1
    refine ⟨y, ⟨cs', d.K_len hy, hy, fun j u hj => ?_⟩, hg⟩
    have hjl : j < cs'.length := by
      by_cases hjl : j < cs'.length
      · exact hjl
      · rw [List.getElem?_eq_none (by omega)] at hj; simp at hj
    have := hcell j (by rw [hlen] at hjl; exact hjl)
    rw [Deep.add_add, hc] at this
    rw [this, hj]
  obtain ⟨Y, hY⟩ := choose_lt each
  refine ⟨(List.range len).map Y, ⟨some a, cap, by simp, by simpa using hl, by simp, by simp; omega, fun _ => ⟨a, rfl, fun j p hj => ?_⟩⟩, by simp; omega, fun z hz => ?_⟩
  · have hjl : j < len := by
      by_cases hjl : j < len
      · exact hjl
      · rw [List.getElem?_eq_none (by simp; omega)] at hj; simp at hj
    have : p = Y j := by simpa [hjl] using hj.symm
    rw [this]
    exact (hY j hjl).1
  · obtain ⟨j, hj, rfl⟩ := List.mem_map.1 hz
    exact (hY j (List.mem_range.1 hj)).2
theorem Opens.arg {α : Type} {H : Type} {enc : TypeId × Value → H} {P : Program} {W : World} {t : TypeId} {v : Value} {d : DataW H} {ps : List MemPlace} {kd : Kd α} {good : α → Prop} (ho : Opens P t kd good)
    (h : DataW.Trod enc P W 0 (fun _ => true) true t v d ps) : ∃ a, kd.K W a v.cells.toList ∧ good a := by
  obtain ⟨fuel, hf⟩ := h
  exact ho H enc W fuel _ _ hf
theorem Opens.slice_arg {α : Type} {H : Type} {enc : TypeId × Value → H} {P : Program} {W : World} {t : TypeId} {A : Option Addr} {len cap : Nat} {d : DataW H} {ps : List MemPlace} {q : Nat} {kd : Kd α} {good : List α → Prop}
    (ho : Opens P t (Kd.slice q kd) good) (h : DataW.Trod enc P W 0 (fun _ => true) true t (.slice A len cap) d ps) : ∃ xs : List α, xs.length = len ∧ len ≤ cap ∧ kd.C W A xs.length xs ∧ good xs := by
  obtain ⟨xs, ⟨A', c, hcs, hl, hC⟩, hg⟩ := ho.arg h
  simp only [Value.cells, List.cons.injEq, and_true, Value.slice.injEq] at hcs
  obtain ⟨rfl, rfl, rfl⟩ := hcs
  exact ⟨xs, rfl, hl, hC, hg⟩

end Go.Proofs.YtfhanoloaejmkaaDoor
end

section
namespace Go.Proofs.YtfhanoloaejmkaaDoor
open Go.ChangeShapes Go.WideShapes Go.RowKit Go.Deep Go.Proofs.YtfhanoloaejmkaaDoorW.PrintWords
set_option linter.unusedVariables false

theorem Opens.pair2 {α β : Type} {P : Program} {t : TypeId} {f0 f1 : Field} {a : Kd α} {b : Kd β} {ga : α → Prop} {gb : β → Prop} (ht : P.underlying t = some (.struct #[f0, f1])) (h0 : f0.offset = 0) (c0 : P.cellsOf f0.type = a.sz)
    (h1 : f1.offset = a.sz) (c1 : P.cellsOf f1.type = b.sz) (hs : P.cellsOf t = a.sz + b.sz) (oa : Opens P f0.type a ga) (ob : Opens P f1.type b gb) : Opens P t (Kd.pair a b) (fun x => ga x.1 ∧ gb x.2) := by
  intro H enc W fuel cs x h
  obtain ⟨y0, y1, n, rfl, hl, e0, e1⟩ := trod_struct2 ht h
  obtain ⟨p, hp, gp⟩ := oa H enc W n _ _ e0
  obtain ⟨q, hq, gq⟩ := ob H enc W n _ _ e1
  refine ⟨(p, q), ⟨_, _, ?_, hp, hq⟩, gp, gq⟩
  rw [h0, c0, h1, c1, List.drop_zero]
  have : (cs.drop a.sz).take b.sz = cs.drop a.sz := List.take_of_length_le (by rw [List.length_drop]; omega)
  rw [this, List.take_append_drop]
theorem i64_wf {n : Int} (h : (Lit.int .i64 n).wf = true) : -9223372036854775808 ≤ n ∧ n ≤ 9223372036854775807 := by
  simpa [Lit.wf, show IntKind.i64.min = -9223372036854775808 from rfl] using h
abbrev actK : Kd (Int × Int) := Kd.pair (Kd.int .i64) (Kd.int .i64)
def actOk (a : Int × Int) : Prop := (-9223372036854775808 ≤ a.1 ∧ a.1 ≤ 9223372036854775807) ∧ (-9223372036854775808 ≤ a.2 ∧ a.2 ≤ 9223372036854775807)
theorem acts_ok {l : List (Int × Int)} (h : ∀ a ∈ l, (Lit.int .i64 a.1).wf = true ∧ (Lit.int .i64 a.2).wf = true) : ∀ a ∈ l, actOk a := fun a ha => ⟨i64_wf (h a ha).1, i64_wf (h a ha).2⟩
theorem actC {w : World} {A : Option Addr} {l : List (Int × Int)} (h : Kd.C actK w A l.length l) {k : Nat} (hk : k < l.length) :
    ∃ ad, A = some ad ∧ w.cell? (ad.add (k * 2)) = some (.int .i64 (l[k]).1) ∧ w.cell? ⟨(ad.add (k * 2)).block, (ad.add (k * 2)).off + 1, none⟩ = some (.int .i64 (l[k]).2) := by
  obtain ⟨ad, rfl, hc⟩ := h.2.2 (by omega)
  obtain ⟨cs, hl, ⟨c0, c1, rfl, h0, h1⟩, hz⟩ := hc k l[k] (List.getElem?_eq_getElem hk)
  obtain rfl : c0 = [.int .i64 (l[k]).1] := h0
  obtain rfl : c1 = [.int .i64 (l[k]).2] := h1
  refine ⟨ad, rfl, hz 0 _ rfl, ?_⟩
  have := hz 1 _ rfl
  rwa [add_field _ _ 1 (by omega)] at this
theorem acts_open : Opens Tryd.prog 22 (Kd.slice 32 actK) (fun l => l.length ≤ 9223372036854775807 ∧ ∀ a ∈ l, (Lit.int .i64 a.1).wf = true ∧ (Lit.int .i64 a.2).wf = true) :=
  Opens.slice Tryd.underlying22 (by kernel_rfl) (Opens.pair2 (t := 32) (f0 := ⟨"Op", 3, 0, false, "", "", 0⟩) (f1 := ⟨"Who", 3, 1, false, "", "", 8⟩) (by kernel_rfl) rfl (by kernel_rfl) rfl (by kernel_rfl) (by kernel_rfl) (Opens.int (k := .i64) (by kernel_rfl)) (Opens.int (k := .i64) (by kernel_rfl))) _

end Go.Proofs.YtfhanoloaejmkaaDoor
end
