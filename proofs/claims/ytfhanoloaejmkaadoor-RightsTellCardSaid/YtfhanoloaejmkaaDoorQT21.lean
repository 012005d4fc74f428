/- Contracts and laws that the statement of LawRightsTell leans on (packed from this claim's own texts): part 21. -/
import Derived.Test.YtfhanoloaejmkaaDoorQT15
import Derived.Test.YtfhanoloaejmkaaDoorQT20
section

namespace Go.Proofs.YtfhanoloaejmkaaDoor
open Go.RowKit Go.Proofs.YtfhanoloaejmkaaDoorW.PrintWords Go.Proofs.YtfhanoloaejmkaaDoorW.PrintLast Go.Proofs.YtfhanoloaejmkaaDoor.Ref Go.Proofs.YtfhanoloaejmkaaDoor.PC
set_option linter.unusedVariables false
set_option linter.unusedSimpArgs false
def fewR (r : Rt) : Bool := decide (r.rs.length ≤ 30) && decide (r.ws.length ≤ 30) && decide (r.o.size + r.f.size ≤ 500) && r.rs.all (fun s => decide (s.size ≤ 300)) && r.ws.all fun s => decide (s.size ≤ 300)
theorem few_l1 (r : Rt) (hl : r.ws.length ≤ 30) (m i : Nat) (hm : i + m = r.ws.length) : Ev (fun k => letterlocklaw7_few.l1 k (i : Int) r.o r.f r.e r.rs r.ws) ((r.ws.drop i).all fun s => decide (s.size ≤ 300)) := by
 induction m generalizing i with
 | zero =>
  rw [List.drop_eq_nil_of_le (by omega)]
  exact Ev.step (fun _ => rfl) (Ev.neg (by omega) (Ev.now _))
 | succ m ih =>
  have hi : i < r.ws.length := by omega
  refine Ev.step (fun _ => rfl) (Ev.pos (by omega) (Ev.pos (by omega) ?_))
  rw [rdOf_nth, nth_get hi, w64 (n := (i : Int) + 1) (by omega) (by omega), List.drop_eq_getElem_cons hi, List.all_cons]
  by_cases h : r.ws[i].size ≤ 300
  ·exact Ev.neg (by omega) (ev_cast (ih (i + 1) (by omega)) (by rw [decide_eq_true h, Bool.true_and]))
  ·exact Ev.pos (by omega) (ev_cast (Ev.now _) (by rw [decide_eq_false h, Bool.false_and]))
theorem few_l0 (r : Rt) (hl0 : r.rs.length ≤ 30) (hl : r.ws.length ≤ 30) (m i : Nat) (hm : i + m = r.rs.length) : Ev (fun k => letterlocklaw7_few.l0 k (i : Int) r.o r.f r.e r.rs r.ws) (((r.rs.drop i).all fun s => decide (s.size ≤ 300)) && r.ws.all fun s => decide (s.size ≤ 300)) := by
 induction m generalizing i with
 | zero =>
  rw [List.drop_eq_nil_of_le (by omega), List.all_nil, Bool.true_and]
  exact Ev.step (fun _ => rfl) (Ev.neg (by omega) (few_l1 r hl r.ws.length 0 (by omega)))
 | succ m ih =>
  have hi : i < r.rs.length := by omega
  refine Ev.step (fun _ => rfl) (Ev.pos (by omega) (Ev.pos (by omega) ?_))
  rw [rdOf_nth, nth_get hi, w64 (n := (i : Int) + 1) (by omega) (by omega), List.drop_eq_getElem_cons hi, List.all_cons]
  by_cases h : r.rs[i].size ≤ 300
  ·exact Ev.neg (by omega) (ev_cast (ih (i + 1) (by omega)) (by rw [decide_eq_true h, Bool.true_and]))
  ·exact Ev.pos (by omega) (ev_cast (Ev.now _) (by rw [decide_eq_false h, Bool.false_and, Bool.false_and]))
theorem few_ev (r : Rt) (ho : r.o.size ≤ 140737488355328) (hf : r.f.size ≤ 140737488355328) : Ev (fun k => letterlocklaw7_few.f k r.o r.f r.e r.rs r.ws) (fewR r) := by
 have hj : ∀ x : Bool, (∀ k, letterlocklaw7_few.j0 (k + 1) x r.o r.f r.e r.rs r.ws = if x = true then some false else letterlocklaw7_few.l0 k 0 r.o r.f r.e r.rs r.ws) := fun x k => rfl
 have bad : Ev (fun k => letterlocklaw7_few.j0 k true r.o r.f r.e r.rs r.ws) false := Ev.step (hj true) (Ev.pos rfl (Ev.now _))
 unfold letterlocklaw7_few.f fewR
 by_cases c1 : r.rs.length ≤ 30
 ·refine Ev.neg (by omega) ?_
  by_cases c2 : r.ws.length ≤ 30
  ·refine Ev.neg (by omega) ?_
   rw [w64 (n := (r.o.size : Int) + r.f.size) (by omega) (by omega)]
   by_cases c3 : r.o.size + r.f.size ≤ 500
   ·rw [decide_eq_false (show ¬ (r.o.size : Int) + r.f.size > 500 by omega)]
    refine Ev.step (hj false) (Ev.neg (by simp) (ev_cast (few_l0 r c1 c2 r.rs.length 0 (by omega)) ?_))
    rw [decide_eq_true c1, decide_eq_true c2, decide_eq_true c3, Bool.true_and, Bool.true_and, Bool.true_and]
    rfl
   ·rw [decide_eq_true (show (r.o.size : Int) + r.f.size > 500 by omega)]
    exact ev_cast bad (by rw [decide_eq_false c3]; simp)
  ·exact Ev.pos (by omega) (ev_cast bad (by rw [decide_eq_false c2]; simp))
 ·exact Ev.pos (by omega) (ev_cast bad (by rw [decide_eq_false c1]; simp))
theorem few_call (r : Rt) (A : Option Addr) (c : Nat) (A' : Option Addr) (c' : Nat) (w : World) (ho : r.o.size ≤ 140737488355328) (hf : r.f.size ≤ 140737488355328) {B : Nat} (h : RowsAt w B r A c A' c') :
  Calls Tryd.prog 23 #[.agg #[.string r.o, .string r.f, .int .i64 r.e, .slice A r.rs.length c, .slice A' r.ws.length c']] w fun e w' => e = .returned (.bool (fewR r)) ∧ Below w.heap.size w w' := by
 obtain ⟨K, hk⟩ := few_ev r ho hf
 exact (letterlocklaw7_few.calls K r.o r.f r.e A c r.rs A' c' r.ws _ w h.h1 h.h2 h.h3 h.h4 (hk K (Nat.le_refl _))).mono fun e w' h => ⟨h.1, by first | exact h.2 | exact h.2.below⟩
theorem few_small {r : Rt} (he : -9223372036854775808 ≤ r.e ∧ r.e ≤ 9223372036854775807) (h : fewR r = true) : smallR r = true := by
 unfold fewR at h
 simp only [Bool.and_eq_true, decide_eq_true_eq, List.all_eq_true] at h
 obtain ⟨⟨⟨⟨h1, h2⟩, h3⟩, h4⟩, h5⟩ := h
 exact small_mk (by omega) (by omega) he (by omega) (by omega) (fun s hs => Nat.le_trans (h4 s hs) (by omega)) (fun s hs => Nat.le_trans (h5 s hs) (by omega))
theorem rightRef_f (r : Rt) (h : smallR r = true) : letterlockref7_Right.f r.o r.f r.e r.rs r.ws = some (rightR r) := by
 unfold letterlockref7_Right.f; rw [if_pos (show smallR ⟨r.o, r.f, r.e, r.rs, r.ws⟩ = true from h)]
theorem putRef_f (l : List ByteArray) (hl : l.length ≤ 1000) (h : ∀ s ∈ l, s.size ≤ 100000) : letterlockref2_PutAll.f l = some (allB l) := by
 unfold letterlockref2_PutAll.f; rw [if_pos ⟨hl, fun s hs => Nat.le_trans (h s hs) (by omega)⟩]
theorem refPut_f (r : Rt) (h : smallR r = true) : letterlockref7_Put.f r.o r.f r.e r.rs r.ws = some (putF r) := by
 unfold letterlockref7_Put.f putF
 rw [rightRef_f r h]
 show (if rightR r = true then _ else _) = _
 by_cases c : rightR r = true
 ·rw [if_pos c, if_pos c]
  obtain ⟨p1, p2, p3, p4, p5, p6, p7, p8, p9⟩ := right_parts c
  have hw : IntKind.u64.wrap r.e = r.e := by show r.e % 18446744073709551616 = r.e; omega
  have e1 : letterlockref2_Put.f (IntKind.u64.wrap r.e) = some (numB r.e.toNat) := by
   rw [hw]; unfold letterlockref2_Put.f; rw [if_pos (by omega)]
  have e2 := putRef_f r.rs (by omega) fun s hs => Nat.le_trans (name_size (p7 s hs).1) (by omega)
  have e3 := putRef_f r.ws (by omega) fun s hs => Nat.le_trans (name_size (p8 s hs).1) (by omega)
  have e4 := putRef_f (bagR r) (by show 5 ≤ 1000; omega) fun s hs => Nat.le_trans (bag_small c s hs) (by omega)
  rw [e1, e2, e3]
  show (letterlockref2_PutAll.f (bagR r)).bind _ = _
  rw [e4]
  rfl
 ·rw [if_neg c, if_neg c]
theorem refPut_call (r : Rt) (A : Option Addr) (c : Nat) (A' : Option Addr) (c' : Nat) (w : World) (hs : smallR r = true) {B : Nat} (h : RowsAt w B r A c A' c') :
  Calls Tryd.prog 26 #[.agg #[.string r.o, .string r.f, .int .i64 r.e, .slice A r.rs.length c, .slice A' r.ws.length c']] w fun e w' => e = .returned (.tuple #[.string (putF r).1, .int .i64 (putF r).2]) ∧ Below w.heap.size w w' :=
 letterlockref7_Put.calls r.o r.f r.e A c r.rs A' c' r.ws _ _ w h.h1 h.h2 h.h3 h.h4 (refPut_f r hs)
set_option maxHeartbeats 4000000 in
set_option maxRecDepth 100000 in
theorem refCan_call (r : Rt) (u : ByteArray) (wr : Bool) (A : Option Addr) (c : Nat) (A' : Option Addr) (c' : Nat) (w : World) (hs : smallR r = true) {B : Nat} (h : RowsAt w B r A c A' c') :
  Calls Tryd.prog 30 #[.agg #[.string r.o, .string r.f, .int .i64 r.e, .slice A r.rs.length c, .slice A' r.ws.length c'], .string u, .bool wr] w fun e w' => e = .returned (.bool (canF r u wr)) ∧ Below w.heap.size w w' := by
 have hsm := small_parts hs
 have hb0 : Below w.heap.size w (w.alloc (Obj.cells #[Value.string r.o, Value.string r.f, Value.int IntKind.i64 r.e, .slice A r.rs.length c, .slice A' r.ws.length c'] 26)) := below_alloc (Below.refl _ _) _
 have HX := Lib.hid (boxAt_new w r (.slice A r.rs.length c) (.slice A' r.ws.length c'))
 have HR := Lib.hid (h.below hb0)
 have HG := Lib.hid (refRight_call r A c A' c' _ hs (h.below hb0))
 have HB := Lib.hid hb0
 have l1 : r.rs.length ≤ 1000000 := by omega
 have l2 : r.ws.length ≤ 1000000 := by omega
 clear hb0 h hs hsm
 go_enter Tryd.func30, Tryd.ntmps30
 obtain ⟨x0, x1, x2, x3, x4⟩ := HX.out.cell
 cases q : rightR r with
 | false =>
  have HV : Hid (canF r u wr = false) := Lib.hid (by unfold canF; rw [q]; rfl)
  rw [q] at HG
  clear q
  go_wp2_with fail
  refine HG.out.mono ?_
  rintro e w1 ⟨rfl, hb⟩
  replace HB := Lib.hid (below_step HB.out hb)
  clear hb x0 x1 x2 x3 x4
  go_wp2
  go_ret
  exact ⟨by rw [HV.out]; rfl, HB.out⟩
 | true =>
  have hp := right_parts q
  have HW := Lib.hid (fun (W : World) (h : RowsAt W B r A c A' c') => refHas_call r.ws u A' c' W l2 h.h3 h.h4)
  have HS := Lib.hid (fun (W : World) (h : RowsAt W B r A c A' c') => refHas_call r.rs u A c W l1 h.h1 h.h2)
  have HV : Hid (canF r u wr = (decide (u = r.o) || decide (u ∈ r.ws) || !wr && decide (u ∈ r.rs))) := Lib.hid (by unfold canF; rw [q, Bool.true_and])
  rw [q] at HG
  clear q hp
  go_wp2_with fail
  refine HG.out.mono ?_
  rintro e w1 ⟨rfl, hb⟩
  replace HB := Lib.hid (below_step HB.out hb)
  replace HX := Lib.hid (HX.out.below hb)
  replace HR := Lib.hid (HR.out.below hb)
  clear hb x0 x1 x2 x3 x4 HG
  obtain ⟨x0, x1, x2, x3, x4⟩ := HX.out.cell
  by_cases c1 : u = r.o
  ·have hE : (u.toList == r.o.toList) = true := by rw [c1]; simp
   have HV2 : Hid (canF r u wr = true) := Lib.hid (by rw [HV.out, decide_eq_true c1]; rfl)
   clear c1
   go_wp2
   go_ret
   exact ⟨by rw [HV2.out]; rfl, HB.out⟩
  ·have hE : (u.toList == r.o.toList) = false := by rw [is_eq]; exact decide_eq_false c1
   rw [decide_eq_false c1, Bool.false_or] at HV
   clear c1
   go_wp2_with fail
   refine (HW.out _ HR.out).mono ?_
   rintro e w2 ⟨rfl, hb⟩
   replace HB := Lib.hid (below_step HB.out hb)
   replace HX := Lib.hid (HX.out.below hb)
   replace HR := Lib.hid (HR.out.below hb)
   clear hb x0 x1 x2 x3 x4 HW
   obtain ⟨x0, x1, x2, x3, x4⟩ := HX.out.cell
   generalize decide (u ∈ r.ws) = b1 at HV ⊢
   generalize decide (u ∈ r.rs) = b2 at HV HS
   cases b1 with
   | true =>
    go_wp2
    go_ret
    exact ⟨by rw [HV.out]; rfl, HB.out⟩
   | false =>
    cases wr with
    | true =>
     go_wp2
     go_ret
     exact ⟨by rw [HV.out]; rfl, HB.out⟩
    | false =>
     go_wp2_with fail
     refine (HS.out _ HR.out).mono ?_
     rintro e w3 ⟨rfl, hb⟩
     replace HB := Lib.hid (below_step HB.out hb)
     clear hb x0 x1 x2 x3 x4 HX HR HS
     go_wp2
     go_ret
     exact ⟨by rw [HV.out]; cases b2 <;> rfl, HB.out⟩
end Go.Proofs.YtfhanoloaejmkaaDoor
end
