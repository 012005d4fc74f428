/- RightsDo: the walk. -/
import Derived.Test.YtfhanoloaejmkaaDoorActs
import Derived.LoopTactic
namespace Go.Proofs.YtfhanoloaejmkaaDoor
open Go.RowKit Go.Proofs.YtfhanoloaejmkaaDoorW.PrintWords Go.Proofs.YtfhanoloaejmkaaDoorW.PrintLast Go.Proofs.YtfhanoloaejmkaaDoor.Ref
set_option linter.unusedVariables false
set_option linter.unusedSimpArgs false

theorem anna_list : ByteArray.toList anna = [97, 110, 110, 97] := Lib.toList_data anna

def GoodR (r : Rt) : Prop := rightR r = true ∧ r.o = anna
theorem good0 : GoodR r0 := ⟨right0, rfl⟩
theorem who_right (c : Int) : rightN (bytes (whoF c)) = true := by
  have h := pick_lt c (n := 8) (by omega)
  unfold whoF
  generalize pickN c 8 = k at *
  match k, h with
  | 0, _ => decide +kernel
  | 1, _ => decide +kernel
  | 2, _ => decide +kernel
  | 3, _ => decide +kernel
  | 4, _ => decide +kernel
  | 5, _ => decide +kernel
  | 6, _ => decide +kernel
  | 7, _ => decide +kernel
  | k + 8, h => exact absurd h (by omega)
/-- What holds at a round's head. -/
def DoRel (w : World) (RB : Nat) (wr : World) : Prop := Below w.heap.size w wr ∧ w.heap.size ≤ RB ∧ ∃ r A1 c1 A2 c2, BoxAt wr RB r (.slice A1 r.rs.length c1) (.slice A2 r.ws.length c2) ∧ RowsAt wr 0 r A1 c1 A2 c2 ∧ GoodR r

/-- What holds at the head of a round of the inner loop. -/
def InRel (w : World) (RB SB : Nat) (r R : Rt) (A1 : Option Addr) (c1 : Nat) (A2 : Option Addr) (c2 : Nat) (A3 : Option Addr) (c3 : Nat) (A4 : Option Addr) (c4 : Nat) (wr : World) : Prop :=
  Below w.heap.size w wr ∧ BoxAt wr RB r (.slice A1 r.rs.length c1) (.slice A2 r.ws.length c2) ∧ BoxAt wr SB R (.slice A3 R.rs.length c3) (.slice A4 R.ws.length c4) ∧ RowsAt wr 0 r A1 c1 A2 c2 ∧ RowsAt wr (SB + 1) R A3 c3 A4 c4
def rgDo.T26 : Bool × List (List Nat × List Nat) := (true, [([], []), ([0], [0]), ([], []), ([1, 2], [1, 2]), ([3, 1], [3]), ([4], [4]), ([4], [4]), ([6, 4, 4], [4, 6]), ([5, 7, 7, 4], [4, 5, 7]), ([4], [4]), ([4], [4]), ([10, 8, 4], [4, 10]), ([9, 11, 11, 4], [4, 9, 11]), ([8, 12, 4], [4, 8, 12]), ([13, 12, 4], [4, 13]), ([14], [14]), ([14], [14]), ([16, 14, 14], [14, 16]), ([15, 17, 17, 14], [14, 15, 17]), ([14], [14]), ([14], [14]), ([20, 18, 14], [14, 20]), ([19, 21, 21, 14], [14, 19, 21]), ([18, 22, 14], [14, 18, 22]), ([14, 23, 4], [4, 14, 23]), ([4, 24], [4, 24])])
def rgDo.B26 : List Nat := [0, 1, 0, 7, 15, 31, 31, 95, 255, 31, 31, 1535, 4095, 8191, 16383, 32767, 32767, 98303, 262143, 32767, 32767, 1572863, 4194303, 8388607, 16777215, 33554431]
theorem rgDo.tab26 : rtab .any (opsOf Tryd.f3 26) = rgDo.T26 := by kernel_rfl
theorem rgDo.bits26 : waitsOk rgDo.T26.2 rgDo.B26 = true := by kernel_rfl
set_option maxHeartbeats 16000000 in
set_option maxRecDepth 100000 in
theorem do_any (A : Option Addr) (c : Nat) (l : List (Int × Int)) (w : World) (HTB : Aside0 (Tabs w)) (hr : Kd.C actK w A l.length l) (hl : l.length ≤ 9223372036854775807) (ha : ∀ a ∈ l, actOk a) :
    Calls Tryd.prog 3 #[.slice A l.length c] w fun e w' => e = .returned (.bool true) ∧ Below w.heap.size w w' := by
  have H1 := Lib.hid (shown_call w HTB)
  have HC := Lib.hid hr
  have HA := Lib.hid ha
  clear hr ha
  go_enter Tryd.func3, Tryd.ntmps3
  go_wp2_with fail
  refine H1.out.mono ?_
  rintro e w1 ⟨rfl, hb⟩
  have HB1 := Lib.hid hb
  have H2 := Lib.hid (new_call anna notes w1 ⟨HTB.out.below hb⟩ (by decide +kernel) (by decide +kernel))
  rw [new0] at H2
  clear hb H1
  go_wp2_with fail
  refine H2.out.mono ?_
  rintro e w2 ⟨A1, c1, A2, c2, rfl, hr2, hb2⟩
  have hbx : Below w2.heap.size w2 (w2.alloc (Obj.cells #[Value.string r0.o, Value.string r0.f, Value.int IntKind.i64 r0.e, .slice A1 r0.rs.length c1, .slice A2 r0.ws.length c2] 26)) := below_alloc (Below.refl _ _) _
  have hx := box_new w2 r0 (.slice A1 r0.rs.length c1) (.slice A2 r0.ws.length c2)
  have HB2 := Lib.hid (below_step (below_step HB1.out hb2) hbx)
  have HR2 := Lib.hid (hr2.below hbx)
  have HW2 := Lib.hid (below_step HB1.out hb2).size
  have HX2 := Lib.hid hx
  clear hb2 hr2 H2 HB1 hbx hx
  by_cases h60 : 60 < l.length
  · go_wp2
    go_ret
    exact ⟨rfl, HB2.out⟩
  · go_wp2_with fail
    have hlt2 : w.heap.size ≤ w2.heap.size := HW2.out
    generalize hW : (w2.alloc (Obj.cells #[Value.string r0.o, Value.string r0.f, Value.int IntKind.i64 r0.e, .slice A1 r0.rs.length c1, .slice A2 r0.ws.length c2] 26)) = W at HB2 HR2 HX2 ⊢
    generalize hRB : w2.heap.size = RB at hlt2 HX2 ⊢
    have HLT := Lib.hid hlt2
    clear hlt2
    clear hW hRB
    have HG := Lib.hid (show ∃ r A1 c1 A2 c2, BoxAt W RB r (.slice A1 r.rs.length c1) (.slice A2 r.ws.length c2) ∧ RowsAt W 0 r A1 c1 A2 c2 ∧ GoodR r from ⟨r0, A1, c1, A2, c2, HX2.out, HR2.out.lower (Nat.zero_le _), good0⟩)
    clear HX2 HR2
    go_loopw [6] (fun i wr => ∃ k : Nat, k ≤ l.length ∧ i = .int .i64 k ∧ DoRel w RB wr) (fun i _ => l.length - (intOf i).toNat)
    case atStart => exact ⟨0, Nat.zero_le _, rfl, HB2.out, HLT.out, HG.out⟩
    case round =>
      obtain ⟨k, hk, rfl, hB, hRB, r, A1, c1, A2, c2, hX, hR, hG⟩ := hrel
      have HB := Lib.hid hB
      have HXR := Lib.hid hX
      have HRR := Lib.hid hR
      have HGR := Lib.hid hG
      have HRB := Lib.hid hRB
      clear hB hX hR hG hRB HG HB2
      have h60' : l.length ≤ 60 := by omega
      clear h60
      by_cases hlt : k < l.length
      · obtain ⟨ad, hA, hop0, hwho0⟩ := actC HC.out hlt
        subst hA
        have hop := pw_cell_below HB.out hop0
        have hwho := pw_cell_below HB.out hwho0
        have hak := HA.out l[k] (List.getElem_mem hlt)
        clear hop0 hwho0
        generalize l[k] = a at *
        obtain ⟨op, who⟩ := a
        obtain ⟨hop1, hwho1⟩ := hak
        simp only at hop hwho hop1 hwho1
        have HW := Lib.hid (fun W => who_call who W hwho1)
        obtain ⟨u, hu⟩ : ∃ u, whoF who = u := ⟨_, rfl⟩
        have HU := Lib.hid (hu ▸ who_right who)
        rw [hu] at HW
        clear hu
        go_wp2_with fail
        refine (HW.out _).mono ?_
        rintro e w3 ⟨rfl, hb⟩
        have HB3 := Lib.hid (below_step HB.out hb)
        have HX3 := Lib.hid (HXR.out.below hb)
        have HR3 := Lib.hid (HRR.out.below hb)
        have hop3 := pw_cell_below hb hop
        clear hb HB HXR HRR hop hwho HW
        have HPK : Hid (∀ W : World, Calls Tryd.prog 13 #[.int .i64 op, .int .i64 3] W fun e w' => e = .returned (.int .i64 (pickN op 3 : Nat)) ∧ Below W.heap.size W w') := fun W => pick_call op 3 W (by omega) (by omega) hop1
        have hp3 := pick_lt op (n := 3) (by omega)
        obtain ⟨q, hqp⟩ : ∃ q : Int, (pickN op 3 : Nat) = q := ⟨_, rfl⟩
        have hq0 : 0 ≤ q := by omega
        have hq3 : q < 3 := by omega
        rw [hqp] at HPK
        clear hqp hp3
        go_wp2_with fail
        refine (HPK.out _).mono ?_
        rintro e w4 ⟨rfl, hb⟩
        have HB4 := Lib.hid (below_step HB3.out hb)
        have HX4 := Lib.hid (HX3.out.below hb)
        have HR4 := Lib.hid (HR3.out.below hb)
        clear hb HB3 HX3 HR3 hop3 HPK
        have hnew : Below w4.heap.size w4 (w4.alloc (Obj.cells #[Value.string r.o, Value.string r.f, Value.int IntKind.i64 r.e, .slice A1 r.rs.length c1, .slice A2 r.ws.length c2] 26)) := below_alloc (Below.refl _ _) _
        have HB5 := Lib.hid (below_step HB4.out hnew)
        have HX5 := Lib.hid (HX4.out.below hnew)
        have HR5 := Lib.hid (HR4.out.below hnew)
        have HS5 := Lib.hid (box_new w4 r (.slice A1 r.rs.length c1) (.slice A2 r.ws.length c2))
        have HLT5 := Lib.hid HX4.out.lt
        obtain ⟨x0, x1, x2, x3, x4⟩ := HX4.out.cell
        have hSB := HX4.out.lt
        clear hnew
        by_cases hq2 : q < 2
        · have hq2b : (q == 2) = false := by rw [beq_eq_false_iff_ne]; omega
          have HCALL := Lib.hid (grant_call r u (q == 1) A1 c1 A2 c2 _ ⟨HTB.out.below HB5.out⟩ (right_small HGR.out.1) (name_small HU.out) HR5.out)
          rw [grant_cases HGR.out.1 HU.out] at HCALL
          cases hcan : canF r u false with
          | true =>
            rw [if_pos hcan] at HCALL
            have HCV := Lib.hid hcan
            clear hcan
            go_wp2_with fail
            refine HCALL.out.mono ?_
            rintro e w5 ⟨A3, c3, A4, c4, rfl, hr5, hb5⟩
            have hb45 := below_step (below_alloc (Below.refl w4.heap.size w4) (Obj.cells #[Value.string r.o, Value.string r.f, Value.int IntKind.i64 r.e, .slice A1 r.rs.length c1, .slice A2 r.ws.length c2] 26)) hb5
            have hput := BoxAt.put_below (b := w4.heap.size) hb45 (Nat.le_refl _) noRt (.slice A3 (noRt).rs.length c3) (.slice A4 (noRt).ws.length c4)
            have HS6 := HS5.out.below hb5
            have HX6 := HX5.out.below hb5
            have HB7 := Lib.hid (below_step HB4.out hput)
            have HX7 := Lib.hid (HX4.out.below hput)
            have HR7 := Lib.hid (HR4.out.below hput)
            have HS7 := Lib.hid (HS6.put noRt (.slice A3 (noRt).rs.length c3) (.slice A4 (noRt).ws.length c4))
            have HT7 := Lib.hid (RowsAt.put hr5 (b := w4.heap.size) (by rw [World.size_alloc]; omega) (.string (noRt).o) (.string (noRt).f) (.int .i64 (noRt).e) (.slice A3 (noRt).rs.length c3) (.slice A4 (noRt).ws.length c4))
            clear x0 x1 x2 x3 x4
            obtain ⟨x0, x1, x2, x3, x4⟩ := HX6.cell
            obtain ⟨y0, y1, y2, y3, y4⟩ := HS6.cell
            have z0 := HS6.free 0
            have z1 := HS6.free 1
            have z2 := HS6.free 2
            have z3 := HS6.free 3
            have z4 := HS6.free 4
            have hne1 : ¬ RB = w4.heap.size := by omega
            have hne2 : ¬ w4.heap.size = RB := by omega
            have HSB2 := Lib.hid (show w4.heap.size < (w4.alloc (Obj.cells #[Value.string r.o, Value.string r.f, Value.int IntKind.i64 r.e, .slice A1 r.rs.length c1, .slice A2 r.ws.length c2] 26)).heap.size by rw [World.size_alloc]; omega)
            clear hb45 hput HS6 HX6 hr5 hb5 HCALL HB5 HX5 HR5 HS5
            have hcan0 := can_call r u false A1 c1 A2 c2 _ ⟨HTB.out.below HB7.out⟩ (right_small HGR.out.1) HR7.out
            rw [HCV.out] at hcan0
            have HCAN := Lib.hid hcan0
            clear hcan0
            go_wp2_with fail
            refine HCAN.out.mono ?_
            rintro e w7 ⟨rfl, hb⟩
            have HB8 := Lib.hid (below_step HB7.out hb)
            have HX8 := Lib.hid (HX7.out.below hb)
            have HR8 := Lib.hid (HR7.out.below hb)
            have HS8 := Lib.hid (HS7.out.below hb)
            have HT8 := Lib.hid (HT7.out.below hb)
            clear hb HCAN HB7 HX7 HR7 HS7 HT7 x0 x1 x2 x3 x4 y0 y1 y2 y3 y4 z0 z1 z2 z3 z4
            obtain ⟨x0, x1, x2, x3, x4⟩ := HX8.out.cell
            go_wp2
            go_roundw
            case rel => exact ⟨k + 1, by omega, by go_num, HB8.out, HRB.out, r, A1, c1, A2, c2, HX8.out, HR8.out, HGR.out⟩
            case measure => simp [intOf]; omega
          | false =>
            rw [if_neg (by rw [hcan]; simp)] at HCALL
            have HCV := Lib.hid hcan
            clear hcan
            have hlen5 : r.rs.length + r.ws.length ≤ 5 := (right_parts HGR.out.1).2.2.2.1
            by_cases h5 : 5 ≤ r.rs.length + r.ws.length
            · rw [if_pos h5] at HCALL
              have h5b : ¬ (r.rs.length : Int) + (r.ws.length : Int) < 5 := by omega
              clear h5
              go_wp2_with fail
              refine HCALL.out.mono ?_
              rintro e w5 ⟨A3, c3, A4, c4, rfl, hr5, hb5⟩
              have hb45 := below_step (below_alloc (Below.refl w4.heap.size w4) (Obj.cells #[Value.string r.o, Value.string r.f, Value.int IntKind.i64 r.e, .slice A1 r.rs.length c1, .slice A2 r.ws.length c2] 26)) hb5
              have hput := BoxAt.put_below (b := w4.heap.size) hb45 (Nat.le_refl _) noRt (.slice A3 (noRt).rs.length c3) (.slice A4 (noRt).ws.length c4)
              have HS6 := HS5.out.below hb5
              have HX6 := HX5.out.below hb5
              have HB7 := Lib.hid (below_step HB4.out hput)
              have HX7 := Lib.hid (HX4.out.below hput)
              have HR7 := Lib.hid (HR4.out.below hput)
              have HS7 := Lib.hid (HS6.put noRt (.slice A3 (noRt).rs.length c3) (.slice A4 (noRt).ws.length c4))
              have HT7 := Lib.hid (RowsAt.put hr5 (b := w4.heap.size) (by rw [World.size_alloc]; omega) (.string (noRt).o) (.string (noRt).f) (.int .i64 (noRt).e) (.slice A3 (noRt).rs.length c3) (.slice A4 (noRt).ws.length c4))
              clear x0 x1 x2 x3 x4
              obtain ⟨x0, x1, x2, x3, x4⟩ := HX6.cell
              obtain ⟨y0, y1, y2, y3, y4⟩ := HS6.cell
              have z0 := HS6.free 0
              have z1 := HS6.free 1
              have z2 := HS6.free 2
              have z3 := HS6.free 3
              have z4 := HS6.free 4
              have hne1 : ¬ RB = w4.heap.size := by omega
              have hne2 : ¬ w4.heap.size = RB := by omega
              have HSB2 := Lib.hid (show w4.heap.size < (w4.alloc (Obj.cells #[Value.string r.o, Value.string r.f, Value.int IntKind.i64 r.e, .slice A1 r.rs.length c1, .slice A2 r.ws.length c2] 26)).heap.size by rw [World.size_alloc]; omega)
              clear hb45 hput HS6 HX6 hr5 hb5 HCALL HB5 HX5 HR5 HS5
              have hcan0 := can_call r u false A1 c1 A2 c2 _ ⟨HTB.out.below HB7.out⟩ (right_small HGR.out.1) HR7.out
              rw [HCV.out] at hcan0
              have HCAN := Lib.hid hcan0
              clear hcan0
              go_wp2_with fail
              refine HCAN.out.mono ?_
              rintro e w7 ⟨rfl, hb⟩
              have HB8 := Lib.hid (below_step HB7.out hb)
              have HX8 := Lib.hid (HX7.out.below hb)
              have HR8 := Lib.hid (HR7.out.below hb)
              have HS8 := Lib.hid (HS7.out.below hb)
              have HT8 := Lib.hid (HT7.out.below hb)
              clear hb HCAN HB7 HX7 HR7 HS7 HT7 x0 x1 x2 x3 x4 y0 y1 y2 y3 y4 z0 z1 z2 z3 z4
              obtain ⟨x0, x1, x2, x3, x4⟩ := HX8.out.cell
              go_wp2
              go_roundw
              case rel => exact ⟨k + 1, by omega, by go_num, HB8.out, HRB.out, r, A1, c1, A2, c2, HX8.out, HR8.out, HGR.out⟩
              case measure => simp [intOf]; omega
            · rw [if_neg h5] at HCALL
              have h5b : (r.rs.length : Int) + (r.ws.length : Int) < 5 := by omega
              clear h5
              have hright := put_right HGR.out.1 HU.out HCV.out (by omega) (q == 1)
              have hcn := put_can HGR.out.1 hright HCV.out
              generalize putIn r u (q == 1) = R at HCALL hright hcn
              have HGD : Hid (GoodR R) := Lib.hid ⟨hright, hcn.2.2.2.1.trans HGR.out.2⟩
              have HE := Lib.hid hcn.2.2.1
              have hEb : (R.e != r.e) = false := by rw [hcn.2.2.1]; simp
              have HCF := Lib.hid hcn.1
              have HCT := Lib.hid hcn.2.1
              have HOT := Lib.hid hcn.2.2.2.2.2
              clear hright hcn
              go_wp2_with fail
              refine HCALL.out.mono ?_
              rintro e w5 ⟨A3, c3, A4, c4, rfl, hr5, hb5⟩
              have hb45 := below_step (below_alloc (Below.refl w4.heap.size w4) (Obj.cells #[Value.string r.o, Value.string r.f, Value.int IntKind.i64 r.e, .slice A1 r.rs.length c1, .slice A2 r.ws.length c2] 26)) hb5
              have hput := BoxAt.put_below (b := w4.heap.size) hb45 (Nat.le_refl _) R (.slice A3 (R).rs.length c3) (.slice A4 (R).ws.length c4)
              have HS6 := HS5.out.below hb5
              have HX6 := HX5.out.below hb5
              have HB7 := Lib.hid (below_step HB4.out hput)
              have HX7 := Lib.hid (HX4.out.below hput)
              have HR7 := Lib.hid (HR4.out.below hput)
              have HS7 := Lib.hid (HS6.put R (.slice A3 (R).rs.length c3) (.slice A4 (R).ws.length c4))
              have HT7 := Lib.hid (RowsAt.put hr5 (b := w4.heap.size) (by rw [World.size_alloc]; omega) (.string (R).o) (.string (R).f) (.int .i64 (R).e) (.slice A3 (R).rs.length c3) (.slice A4 (R).ws.length c4))
              clear x0 x1 x2 x3 x4
              obtain ⟨x0, x1, x2, x3, x4⟩ := HX6.cell
              obtain ⟨y0, y1, y2, y3, y4⟩ := HS6.cell
              have z0 := HS6.free 0
              have z1 := HS6.free 1
              have z2 := HS6.free 2
              have z3 := HS6.free 3
              have z4 := HS6.free 4
              have hne1 : ¬ RB = w4.heap.size := by omega
              have hne2 : ¬ w4.heap.size = RB := by omega
              have HSB2 := Lib.hid (show w4.heap.size < (w4.alloc (Obj.cells #[Value.string r.o, Value.string r.f, Value.int IntKind.i64 r.e, .slice A1 r.rs.length c1, .slice A2 r.ws.length c2] 26)).heap.size by rw [World.size_alloc]; omega)
              clear hb45 hput HS6 HX6 hr5 hb5 HCALL HB5 HX5 HR5 HS5
              have hcan0 := can_call r u false A1 c1 A2 c2 _ ⟨HTB.out.below HB7.out⟩ (right_small HGR.out.1) HR7.out
              rw [HCV.out] at hcan0
              have HCAN := Lib.hid hcan0
              clear hcan0
              go_wp2_with fail
              refine HCAN.out.mono ?_
              rintro e w7 ⟨rfl, hb⟩
              have HB8 := Lib.hid (below_step HB7.out hb)
              have HX8 := Lib.hid (HX7.out.below hb)
              have HR8 := Lib.hid (HR7.out.below hb)
              have HS8 := Lib.hid (HS7.out.below hb)
              have HT8 := Lib.hid (HT7.out.below hb)
              clear hb HCAN HB7 HX7 HR7 HS7 HT7 x0 x1 x2 x3 x4 y0 y1 y2 y3 y4 z0 z1 z2 z3 z4
              obtain ⟨x0, x1, x2, x3, x4⟩ := HX8.out.cell
              obtain ⟨y0, y1, y2, y3, y4⟩ := HS8.out.cell
              have h0_ := right_call R A3 c3 A4 c4 _ ⟨HTB.out.below HB8.out⟩ (right_small HGD.out.1) HT8.out
              rw [HGD.out.1] at h0_
              have HRI := Lib.hid h0_
              clear h0_
              go_wp2_with fail
              refine (HRI.out).mono ?_
              rintro e w9 ⟨rfl, hb⟩
              have HB9 := Lib.hid (below_step HB8.out hb)
              have HX9 := Lib.hid (HX8.out.below hb)
              have HR9 := Lib.hid (HR8.out.below hb)
              have HS9 := Lib.hid (HS8.out.below hb)
              have HT9 := Lib.hid (HT8.out.below hb)
              clear hb HB8 HX8 HR8 HS8 HT8 x0 x1 x2 x3 x4 y0 y1 y2 y3 y4
              obtain ⟨x0, x1, x2, x3, x4⟩ := HX9.out.cell
              obtain ⟨y0, y1, y2, y3, y4⟩ := HS9.out.cell
              clear HRI
              have h0_ := can_call R u false A3 c3 A4 c4 _ ⟨HTB.out.below HB9.out⟩ (right_small HGD.out.1) HT9.out
              rw [HCF.out] at h0_
              have HCA := Lib.hid h0_
              clear h0_
              go_wp2_with fail
              refine (HCA.out).mono ?_
              rintro e w10 ⟨rfl, hb⟩
              have HB10 := Lib.hid (below_step HB9.out hb)
              have HX10 := Lib.hid (HX9.out.below hb)
              have HR10 := Lib.hid (HR9.out.below hb)
              have HS10 := Lib.hid (HS9.out.below hb)
              have HT10 := Lib.hid (HT9.out.below hb)
              clear hb HB9 HX9 HR9 HS9 HT9 x0 x1 x2 x3 x4 y0 y1 y2 y3 y4
              obtain ⟨x0, x1, x2, x3, x4⟩ := HX10.out.cell
              obtain ⟨y0, y1, y2, y3, y4⟩ := HS10.out.cell
              clear HCA
              have h0_ := can_call R u true A3 c3 A4 c4 _ ⟨HTB.out.below HB10.out⟩ (right_small HGD.out.1) HT10.out
              rw [HCT.out] at h0_
              have HCB := Lib.hid h0_
              clear h0_
              go_wp2_with fail
              refine (HCB.out).mono ?_
              rintro e w11 ⟨rfl, hb⟩
              have HB11 := Lib.hid (below_step HB10.out hb)
              have HX11 := Lib.hid (HX10.out.below hb)
              have HR11 := Lib.hid (HR10.out.below hb)
              have HS11 := Lib.hid (HS10.out.below hb)
              have HT11 := Lib.hid (HT10.out.below hb)
              clear hb HB10 HX10 HR10 HS10 HT10 x0 x1 x2 x3 x4 y0 y1 y2 y3 y4
              obtain ⟨x0, x1, x2, x3, x4⟩ := HX11.out.cell
              obtain ⟨y0, y1, y2, y3, y4⟩ := HS11.out.cell
              clear HCB
              have HT12 := Lib.hid (HT11.out.lower (show w4.heap.size + 1 ≤ _ from HSB2.out))
              have hwSB : w.heap.size ≤ w4.heap.size := HB4.out.size
              have HWS := Lib.hid hwSB
              have HRS2 := Lib.hid hSB
              clear hne1 hne2 HSB2 HT11 hwSB hSB HB4 HX4 HR4 HLT5
              go_wp2_with fail
              clear x0 x1 x2 x3 x4 y0 y1 y2 y3 y4
              generalize w4.heap.size = SB at HS11 HT12 HWS HRS2 ⊢
              go_loopw [14] (fun i wr => ∃ j : Nat, j ≤ 8 ∧ i = .int .i64 j ∧ InRel w RB SB r R A1 c1 A2 c2 A3 c3 A4 c4 wr) (fun i _ => 8 - (intOf i).toNat)
              case atStart => exact ⟨0, Nat.zero_le _, rfl, HB11.out, HX11.out, HS11.out, HR11.out, HT12.out⟩
              case round =>
                clear HB11 HX11 HS11 HR11 HT12
                obtain ⟨j, hj, rfl, hB, hX, hS, hR, hT⟩ := hrel
                have HB := Lib.hid hB
                have HXR := Lib.hid hX
                have HXS := Lib.hid hS
                have HRR := Lib.hid hR
                have HRS := Lib.hid hT
                clear hB hX hS hR hT
                by_cases hj8 : j < 8
                · obtain ⟨v, hv⟩ : ∃ v, whoF (j : Int) = v := ⟨_, rfl⟩
                  have HW := Lib.hid (fun W => who_call (j : Int) W ⟨by omega, by omega⟩)
                  rw [hv] at HW
                  clear hv
                  by_cases hvu : v = u
                  · have hne : (v.toList != u.toList) = false := by rw [hvu]; simp
                    have heq : (v.toList == u.toList) = true := by rw [hvu]; simp
                    clear hvu
                    go_wp2_with fail
                    have hb : Below wr.heap.size wr wr.drew := below_drew (Below.refl _ _)
                    have n_HB := Lib.hid (below_step HB.out hb)
                    have n_HXR := Lib.hid (HXR.out.below hb)
                    have n_HXS := Lib.hid (HXS.out.below hb)
                    have n_HRR := Lib.hid (HRR.out.below hb)
                    have n_HRS := Lib.hid (HRS.out.below hb)
                    clear hb HB HXR HXS HRR HRS
                    have HB := n_HB
                    clear n_HB
                    have HXR := n_HXR
                    clear n_HXR
                    have HXS := n_HXS
                    clear n_HXS
                    have HRR := n_HRR
                    clear n_HRR
                    have HRS := n_HRS
                    clear n_HRS
                    refine start_ (n := 26) (S := fun w' => w'.cell? ⟨RB, 0, none⟩ = some (.string r.o) ∧ w'.cell? ⟨RB, 1, none⟩ = some (.string r.f) ∧ w'.cell? ⟨RB, 2, none⟩ = some (.int .i64 r.e) ∧ w'.cell? ⟨RB, 3, none⟩ = some (.slice A1 r.rs.length c1) ∧ w'.cell? ⟨RB, 4, none⟩ = some (.slice A2 r.ws.length c2) ∧ w'.cell? ⟨SB, 0, none⟩ = some (.string R.o) ∧ w'.cell? ⟨SB, 1, none⟩ = some (.string R.f) ∧ w'.cell? ⟨SB, 2, none⟩ = some (.int .i64 R.e) ∧ w'.cell? ⟨SB, 3, none⟩ = some (.slice A3 R.rs.length c3) ∧ w'.cell? ⟨SB, 4, none⟩ = some (.slice A4 R.ws.length c4)) (ds := []) #[false, false, false, false, false, false, false, false, false, false, false, false, false, false, false, false, false, false, false, false, false, false, false, false, false, false] (by kernel_rfl) rfl rfl ⟨HXR.out.cell.1, HXR.out.cell.2.1, HXR.out.cell.2.2.1, HXR.out.cell.2.2.2.1, HXR.out.cell.2.2.2.2, HXS.out.cell.1, HXS.out.cell.2.1, HXS.out.cell.2.2.1, HXS.out.cell.2.2.2.1, HXS.out.cell.2.2.2.2⟩ (fun hHeld => ?_)
                    refine with_tabW rgDo.tab26 rgDo.bits26 (fun HT_ HW_ => ?_)
                    refine pure_ (i := 0) (N := some 159) (v := ?_) (a' := ?_) #[true, false, false, false, false, false, false, false, false, false, false, false, false, false, false, false, false, false, false, false, false, false, false, false, false, false] rfl rfl (any_of HT_.out (by kernel_rfl)) (fun _ _ _ h => h) (Or.inl ⟨by rfl, ?_⟩) ?_ ?_
                    rotate_left
                    · intro w'
                      go_simp
                      with_reducible rfl
                    rotate_left
                    · simp only [Act.put, List.setIfInBounds_toArray, List.set_cons_zero, List.set_cons_succ, i64_w, i32_w]
                      rfl
                    refine pure_ (i := 2) (N := some 161) (v := ?_) (a' := ?_) #[true, false, true, false, false, false, false, false, false, false, false, false, false, false, false, false, false, false, false, false, false, false, false, false, false, false] rfl rfl (any_of HT_.out (by kernel_rfl)) (fun _ _ _ h => h) (Or.inl ⟨by rfl, ?_⟩) ?_ ?_
                    rotate_left
                    · intro w'
                      go_simp
                      with_reducible rfl
                    rotate_left
                    · simp only [Act.put, List.setIfInBounds_toArray, List.set_cons_zero, List.set_cons_succ, i64_w, i32_w]
                      rfl
                    refine one_ (i := 1) (N := some 160) #[true, true, true, false, false, false, false, false, false, false, false, false, false, false, false, false, false, false, false, false, false, false, false, false, false, false] rfl rfl (one_of HT_.out (by kernel_rfl)) (by decide) (fun K hK => ?_)
                    refine goes_ Tryd.func12 (by kernel_rfl) rfl #[.int .i64 (j : Int)] (by rfl) rfl rfl (by simp only [List.map_toArray, List.map_cons, List.map_nil]; rfl) ?_
                    with_reducible refine (HW.out _).mono ?_
                    rintro e w9 ⟨rfl, hb⟩
                    refine ⟨_, rfl, ?_⟩
                    have n_HB := Lib.hid (below_step HB.out hb)
                    have n_HXR := Lib.hid (HXR.out.below hb)
                    have n_HXS := Lib.hid (HXS.out.below hb)
                    have n_HRR := Lib.hid (HRR.out.below hb)
                    have n_HRS := Lib.hid (HRS.out.below hb)
                    clear hb HB HXR HXS HRR HRS
                    have HB := n_HB
                    clear n_HB
                    have HXR := n_HXR
                    clear n_HXR
                    have HXS := n_HXS
                    clear n_HXS
                    have HRR := n_HRR
                    clear n_HRR
                    have HRS := n_HRS
                    clear n_HRS
                    refine hK.out _ _ ⟨HXR.out.cell.1, HXR.out.cell.2.1, HXR.out.cell.2.2.1, HXR.out.cell.2.2.2.1, HXR.out.cell.2.2.2.2, HXS.out.cell.1, HXS.out.cell.2.1, HXS.out.cell.2.2.1, HXS.out.cell.2.2.2.1, HXS.out.cell.2.2.2.2⟩ (fun hHeld => ?_)
                    clear hK K
                    refine norm_ (a' := ?_) ?_ ?_
                    rotate_left
                    · show Act.put _ (some 160) _ = _
                      simp only [Act.put, List.setIfInBounds_toArray, List.set_cons_zero, List.set_cons_succ, i64_w, i32_w]
                      rfl
                    refine pure_ (i := 3) (N := some 162) (v := ?_) (a' := ?_) #[true, true, true, true, false, false, false, false, false, false, false, false, false, false, false, false, false, false, false, false, false, false, false, false, false, false] rfl rfl (any_of HT_.out (by kernel_rfl)) (fun _ _ _ h => h) (Or.inl ⟨by rfl, ?_⟩) ?_ ?_
                    rotate_left
                    · intro w'
                      go_simp
                      with_reducible rfl
                    rotate_left
                    · simp only [Act.put, List.setIfInBounds_toArray, List.set_cons_zero, List.set_cons_succ, i64_w, i32_w]
                      rfl
                    refine pure_ (i := 4) (N := some 163) (v := ?_) (a' := ?_) #[true, true, true, true, true, false, false, false, false, false, false, false, false, false, false, false, false, false, false, false, false, false, false, false, false, false] rfl rfl (any_of HT_.out (by kernel_rfl)) (fun _ _ _ h => h) (Or.inl ⟨by rfl, ?_⟩) ?_ ?_
                    rotate_left
                    · intro w'
                      go_simp
                      with_reducible rfl
                    rotate_left
                    · simp only [Act.put, List.setIfInBounds_toArray, List.set_cons_zero, List.set_cons_succ, i64_w, i32_w]
                      rfl
                    refine pure_ (i := 5) (N := some 164) (v := undef) (a' := ?_) #[true, true, true, true, true, true, false, false, false, false, false, false, false, false, false, false, false, false, false, false, false, false, false, false, false, false] rfl rfl (any_of HT_.out (by kernel_rfl)) (fun _ _ _ h => h) (Or.inr ⟨by rfl, rfl⟩) ?_ ?_
                    rotate_left
                    · simp only [Act.put, List.setIfInBounds_toArray, List.set_cons_zero, List.set_cons_succ, i64_w, i32_w]
                      rfl
                    refine pure_ (i := 6) (N := some 165) (v := undef) (a' := ?_) #[true, true, true, true, true, true, true, false, false, false, false, false, false, false, false, false, false, false, false, false, false, false, false, false, false, false] rfl rfl (any_of HT_.out (by kernel_rfl)) (fun _ _ _ h => h) (Or.inr ⟨by rfl, rfl⟩) ?_ ?_
                    rotate_left
                    · simp only [Act.put, List.setIfInBounds_toArray, List.set_cons_zero, List.set_cons_succ, i64_w, i32_w]
                      rfl
                    refine pure_ (i := 7) (N := some 166) (v := undef) (a' := ?_) #[true, true, true, true, true, true, true, true, false, false, false, false, false, false, false, false, false, false, false, false, false, false, false, false, false, false] rfl rfl (any_of HT_.out (by kernel_rfl)) (fun _ _ _ h => h) (Or.inr ⟨by rfl, rfl⟩) ?_ ?_
                    rotate_left
                    · simp only [Act.put, List.setIfInBounds_toArray, List.set_cons_zero, List.set_cons_succ, i64_w, i32_w]
                      rfl
                    refine pure_ (i := 8) (N := some 167) (v := undef) (a' := ?_) #[true, true, true, true, true, true, true, true, true, false, false, false, false, false, false, false, false, false, false, false, false, false, false, false, false, false] rfl rfl (any_of HT_.out (by kernel_rfl)) (fun _ _ _ h => h) (Or.inr ⟨by rfl, rfl⟩) ?_ ?_
                    rotate_left
                    · simp only [Act.put, List.setIfInBounds_toArray, List.set_cons_zero, List.set_cons_succ, i64_w, i32_w]
                      rfl
                    refine pure_ (i := 9) (N := some 168) (v := undef) (a' := ?_) #[true, true, true, true, true, true, true, true, true, true, false, false, false, false, false, false, false, false, false, false, false, false, false, false, false, false] rfl rfl (any_of HT_.out (by kernel_rfl)) (fun _ _ _ h => h) (Or.inr ⟨by rfl, rfl⟩) ?_ ?_
                    rotate_left
                    · simp only [Act.put, List.setIfInBounds_toArray, List.set_cons_zero, List.set_cons_succ, i64_w, i32_w]
                      rfl
                    refine pure_ (i := 10) (N := some 169) (v := undef) (a' := ?_) #[true, true, true, true, true, true, true, true, true, true, true, false, false, false, false, false, false, false, false, false, false, false, false, false, false, false] rfl rfl (any_of HT_.out (by kernel_rfl)) (fun _ _ _ h => h) (Or.inr ⟨by rfl, rfl⟩) ?_ ?_
                    rotate_left
                    · simp only [Act.put, List.setIfInBounds_toArray, List.set_cons_zero, List.set_cons_succ, i64_w, i32_w]
                      rfl
                    refine pure_ (i := 11) (N := some 170) (v := undef) (a' := ?_) #[true, true, true, true, true, true, true, true, true, true, true, true, false, false, false, false, false, false, false, false, false, false, false, false, false, false] rfl rfl (any_of HT_.out (by kernel_rfl)) (fun _ _ _ h => h) (Or.inr ⟨by rfl, rfl⟩) ?_ ?_
                    rotate_left
                    · simp only [Act.put, List.setIfInBounds_toArray, List.set_cons_zero, List.set_cons_succ, i64_w, i32_w]
                      rfl
                    refine pure_ (i := 12) (N := some 171) (v := undef) (a' := ?_) #[true, true, true, true, true, true, true, true, true, true, true, true, true, false, false, false, false, false, false, false, false, false, false, false, false, false] rfl rfl (any_of HT_.out (by kernel_rfl)) (fun _ _ _ h => h) (Or.inr ⟨by rfl, rfl⟩) ?_ ?_
                    rotate_left
                    · simp only [Act.put, List.setIfInBounds_toArray, List.set_cons_zero, List.set_cons_succ, i64_w, i32_w]
                      rfl
                    refine pure_ (i := 13) (N := some 172) (v := undef) (a' := ?_) #[true, true, true, true, true, true, true, true, true, true, true, true, true, true, false, false, false, false, false, false, false, false, false, false, false, false] rfl rfl (any_of HT_.out (by kernel_rfl)) (fun _ _ _ h => h) (Or.inr ⟨by rfl, rfl⟩) ?_ ?_
                    rotate_left
                    · simp only [Act.put, List.setIfInBounds_toArray, List.set_cons_zero, List.set_cons_succ, i64_w, i32_w]
                      rfl
                    refine pure_ (i := 14) (N := some 173) (v := undef) (a' := ?_) #[true, true, true, true, true, true, true, true, true, true, true, true, true, true, true, false, false, false, false, false, false, false, false, false, false, false] rfl rfl (any_of HT_.out (by kernel_rfl)) (fun _ _ _ h => h) (Or.inr ⟨by rfl, rfl⟩) ?_ ?_
                    rotate_left
                    · simp only [Act.put, List.setIfInBounds_toArray, List.set_cons_zero, List.set_cons_succ, i64_w, i32_w]
                      rfl
                    refine pure_ (i := 15) (N := some 174) (v := undef) (a' := ?_) #[true, true, true, true, true, true, true, true, true, true, true, true, true, true, true, true, false, false, false, false, false, false, false, false, false, false] rfl rfl (any_of HT_.out (by kernel_rfl)) (fun _ _ _ h => h) (Or.inr ⟨by rfl, rfl⟩) ?_ ?_
                    rotate_left
                    · simp only [Act.put, List.setIfInBounds_toArray, List.set_cons_zero, List.set_cons_succ, i64_w, i32_w]
                      rfl
                    refine pure_ (i := 16) (N := some 175) (v := undef) (a' := ?_) #[true, true, true, true, true, true, true, true, true, true, true, true, true, true, true, true, true, false, false, false, false, false, false, false, false, false] rfl rfl (any_of HT_.out (by kernel_rfl)) (fun _ _ _ h => h) (Or.inr ⟨by rfl, rfl⟩) ?_ ?_
                    rotate_left
                    · simp only [Act.put, List.setIfInBounds_toArray, List.set_cons_zero, List.set_cons_succ, i64_w, i32_w]
                      rfl
                    refine pure_ (i := 17) (N := some 176) (v := undef) (a' := ?_) #[true, true, true, true, true, true, true, true, true, true, true, true, true, true, true, true, true, true, false, false, false, false, false, false, false, false] rfl rfl (any_of HT_.out (by kernel_rfl)) (fun _ _ _ h => h) (Or.inr ⟨by rfl, rfl⟩) ?_ ?_
                    rotate_left
                    · simp only [Act.put, List.setIfInBounds_toArray, List.set_cons_zero, List.set_cons_succ, i64_w, i32_w]
                      rfl
                    refine pure_ (i := 18) (N := some 177) (v := undef) (a' := ?_) #[true, true, true, true, true, true, true, true, true, true, true, true, true, true, true, true, true, true, true, false, false, false, false, false, false, false] rfl rfl (any_of HT_.out (by kernel_rfl)) (fun _ _ _ h => h) (Or.inr ⟨by rfl, rfl⟩) ?_ ?_
                    rotate_left
                    · simp only [Act.put, List.setIfInBounds_toArray, List.set_cons_zero, List.set_cons_succ, i64_w, i32_w]
                      rfl
                    refine pure_ (i := 19) (N := some 178) (v := undef) (a' := ?_) #[true, true, true, true, true, true, true, true, true, true, true, true, true, true, true, true, true, true, true, true, false, false, false, false, false, false] rfl rfl (any_of HT_.out (by kernel_rfl)) (fun _ _ _ h => h) (Or.inr ⟨by rfl, rfl⟩) ?_ ?_
                    rotate_left
                    · simp only [Act.put, List.setIfInBounds_toArray, List.set_cons_zero, List.set_cons_succ, i64_w, i32_w]
                      rfl
                    refine pure_ (i := 20) (N := some 179) (v := undef) (a' := ?_) #[true, true, true, true, true, true, true, true, true, true, true, true, true, true, true, true, true, true, true, true, true, false, false, false, false, false] rfl rfl (any_of HT_.out (by kernel_rfl)) (fun _ _ _ h => h) (Or.inr ⟨by rfl, rfl⟩) ?_ ?_
                    rotate_left
                    · simp only [Act.put, List.setIfInBounds_toArray, List.set_cons_zero, List.set_cons_succ, i64_w, i32_w]
                      rfl
                    refine pure_ (i := 21) (N := some 180) (v := undef) (a' := ?_) #[true, true, true, true, true, true, true, true, true, true, true, true, true, true, true, true, true, true, true, true, true, true, false, false, false, false] rfl rfl (any_of HT_.out (by kernel_rfl)) (fun _ _ _ h => h) (Or.inr ⟨by rfl, rfl⟩) ?_ ?_
                    rotate_left
                    · simp only [Act.put, List.setIfInBounds_toArray, List.set_cons_zero, List.set_cons_succ, i64_w, i32_w]
                      rfl
                    refine pure_ (i := 22) (N := some 181) (v := undef) (a' := ?_) #[true, true, true, true, true, true, true, true, true, true, true, true, true, true, true, true, true, true, true, true, true, true, true, false, false, false] rfl rfl (any_of HT_.out (by kernel_rfl)) (fun _ _ _ h => h) (Or.inr ⟨by rfl, rfl⟩) ?_ ?_
                    rotate_left
                    · simp only [Act.put, List.setIfInBounds_toArray, List.set_cons_zero, List.set_cons_succ, i64_w, i32_w]
                      rfl
                    refine pure_ (i := 23) (N := some 182) (v := undef) (a' := ?_) #[true, true, true, true, true, true, true, true, true, true, true, true, true, true, true, true, true, true, true, true, true, true, true, true, false, false] rfl rfl (any_of HT_.out (by kernel_rfl)) (fun _ _ _ h => h) (Or.inr ⟨by rfl, rfl⟩) ?_ ?_
                    rotate_left
                    · simp only [Act.put, List.setIfInBounds_toArray, List.set_cons_zero, List.set_cons_succ, i64_w, i32_w]
                      rfl
                    refine pure_ (i := 24) (N := some 183) (v := undef) (a' := ?_) #[true, true, true, true, true, true, true, true, true, true, true, true, true, true, true, true, true, true, true, true, true, true, true, true, true, false] rfl rfl (any_of HT_.out (by kernel_rfl)) (fun _ _ _ h => h) (Or.inr ⟨by rfl, rfl⟩) ?_ ?_
                    rotate_left
                    · simp only [Act.put, List.setIfInBounds_toArray, List.set_cons_zero, List.set_cons_succ, i64_w, i32_w]
                      rfl
                    refine pure_ (i := 25) (N := some 184) (v := ?_) (a' := ?_) #[true, true, true, true, true, true, true, true, true, true, true, true, true, true, true, true, true, true, true, true, true, true, true, true, true, true] rfl rfl (any_of HT_.out (by kernel_rfl)) (fun _ _ _ h => h) (Or.inl ⟨by rfl, ?_⟩) ?_ ?_
                    rotate_left
                    · intro w'
                      go_simp
                      with_reducible rfl
                    rotate_left
                    · simp only [Act.put, List.setIfInBounds_toArray, List.set_cons_zero, List.set_cons_succ, i64_w, i32_w]
                      rfl
                    refine done_ (done_of HT_.out (by kernel_rfl)) ?_
                    go_wp2
                    go_roundw
                    case rel => exact ⟨j + 1, by omega, by go_num, HB.out, HXR.out, HXS.out, HRR.out, HRS.out⟩
                    case measure => simp [intOf]; omega
                  · have hne : (v.toList != u.toList) = true := by rw [bne_iff_ne]; exact fun e => hvu ((list_eq _ _).1 e)
                    have heq : (v.toList == u.toList) = false := by rw [beq_eq_false_iff_ne]; exact fun e => hvu ((list_eq _ _).1 e)
                    obtain ⟨b1, hb1⟩ : ∃ b, canF r v false = b := ⟨_, rfl⟩
                    obtain ⟨b2, hb2⟩ : ∃ b, canF r v true = b := ⟨_, rfl⟩
                    have HCrf := Lib.hid (fun (W : World) (hb : Below w.heap.size w W) (h : RowsAt W 0 r A1 c1 A2 c2) => can_call r v false A1 c1 A2 c2 W ⟨HTB.out.below hb⟩ (right_small HGR.out.1) h)
                    have HCrt := Lib.hid (fun (W : World) (hb : Below w.heap.size w W) (h : RowsAt W 0 r A1 c1 A2 c2) => can_call r v true A1 c1 A2 c2 W ⟨HTB.out.below hb⟩ (right_small HGR.out.1) h)
                    have HCsf := Lib.hid (fun (W : World) (hb : Below w.heap.size w W) (h : RowsAt W (SB + 1) R A3 c3 A4 c4) => can_call R v false A3 c3 A4 c4 W ⟨HTB.out.below hb⟩ (right_small HGD.out.1) h)
                    have HCst := Lib.hid (fun (W : World) (hb : Below w.heap.size w W) (h : RowsAt W (SB + 1) R A3 c3 A4 c4) => can_call R v true A3 c3 A4 c4 W ⟨HTB.out.below hb⟩ (right_small HGD.out.1) h)
                    rw [HOT.out v hvu] at HCsf HCst
                    rw [hb1] at HCsf HCrf
                    rw [hb2] at HCst HCrt
                    clear hb1 hb2 hvu
                    go_wp2_with fail
                    have hb : Below wr.heap.size wr wr.drew := below_drew (Below.refl _ _)
                    have n_HB := Lib.hid (below_step HB.out hb)
                    have n_HXR := Lib.hid (HXR.out.below hb)
                    have n_HXS := Lib.hid (HXS.out.below hb)
                    have n_HRR := Lib.hid (HRR.out.below hb)
                    have n_HRS := Lib.hid (HRS.out.below hb)
                    clear hb HB HXR HXS HRR HRS
                    have HB := n_HB
                    clear n_HB
                    have HXR := n_HXR
                    clear n_HXR
                    have HXS := n_HXS
                    clear n_HXS
                    have HRR := n_HRR
                    clear n_HRR
                    have HRS := n_HRS
                    clear n_HRS
                    refine start_ (n := 26) (S := fun w' => w'.cell? ⟨RB, 0, none⟩ = some (.string r.o) ∧ w'.cell? ⟨RB, 1, none⟩ = some (.string r.f) ∧ w'.cell? ⟨RB, 2, none⟩ = some (.int .i64 r.e) ∧ w'.cell? ⟨RB, 3, none⟩ = some (.slice A1 r.rs.length c1) ∧ w'.cell? ⟨RB, 4, none⟩ = some (.slice A2 r.ws.length c2) ∧ w'.cell? ⟨SB, 0, none⟩ = some (.string R.o) ∧ w'.cell? ⟨SB, 1, none⟩ = some (.string R.f) ∧ w'.cell? ⟨SB, 2, none⟩ = some (.int .i64 R.e) ∧ w'.cell? ⟨SB, 3, none⟩ = some (.slice A3 R.rs.length c3) ∧ w'.cell? ⟨SB, 4, none⟩ = some (.slice A4 R.ws.length c4)) (ds := []) #[false, false, false, false, false, false, false, false, false, false, false, false, false, false, false, false, false, false, false, false, false, false, false, false, false, false] (by kernel_rfl) rfl rfl ⟨HXR.out.cell.1, HXR.out.cell.2.1, HXR.out.cell.2.2.1, HXR.out.cell.2.2.2.1, HXR.out.cell.2.2.2.2, HXS.out.cell.1, HXS.out.cell.2.1, HXS.out.cell.2.2.1, HXS.out.cell.2.2.2.1, HXS.out.cell.2.2.2.2⟩ (fun hHeld => ?_)
                    refine with_tabW rgDo.tab26 rgDo.bits26 (fun HT_ HW_ => ?_)
                    refine pure_ (i := 0) (N := some 159) (v := ?_) (a' := ?_) #[true, false, false, false, false, false, false, false, false, false, false, false, false, false, false, false, false, false, false, false, false, false, false, false, false, false] rfl rfl (any_of HT_.out (by kernel_rfl)) (fun _ _ _ h => h) (Or.inl ⟨by rfl, ?_⟩) ?_ ?_
                    rotate_left
                    · intro w'
                      go_simp
                      with_reducible rfl
                    rotate_left
                    · simp only [Act.put, List.setIfInBounds_toArray, List.set_cons_zero, List.set_cons_succ, i64_w, i32_w]
                      rfl
                    refine pure_ (i := 2) (N := some 161) (v := ?_) (a' := ?_) #[true, false, true, false, false, false, false, false, false, false, false, false, false, false, false, false, false, false, false, false, false, false, false, false, false, false] rfl rfl (any_of HT_.out (by kernel_rfl)) (fun _ _ _ h => h) (Or.inl ⟨by rfl, ?_⟩) ?_ ?_
                    rotate_left
                    · intro w'
                      go_simp
                      with_reducible rfl
                    rotate_left
                    · simp only [Act.put, List.setIfInBounds_toArray, List.set_cons_zero, List.set_cons_succ, i64_w, i32_w]
                      rfl
                    refine one_ (i := 1) (N := some 160) #[true, true, true, false, false, false, false, false, false, false, false, false, false, false, false, false, false, false, false, false, false, false, false, false, false, false] rfl rfl (one_of HT_.out (by kernel_rfl)) (by decide) (fun K hK => ?_)
                    refine goes_ Tryd.func12 (by kernel_rfl) rfl #[.int .i64 (j : Int)] (by rfl) rfl rfl (by simp only [List.map_toArray, List.map_cons, List.map_nil]; rfl) ?_
                    with_reducible refine (HW.out _).mono ?_
                    rintro e w9 ⟨rfl, hb⟩
                    refine ⟨_, rfl, ?_⟩
                    have n_HB := Lib.hid (below_step HB.out hb)
                    have n_HXR := Lib.hid (HXR.out.below hb)
                    have n_HXS := Lib.hid (HXS.out.below hb)
                    have n_HRR := Lib.hid (HRR.out.below hb)
                    have n_HRS := Lib.hid (HRS.out.below hb)
                    clear hb HB HXR HXS HRR HRS
                    have HB := n_HB
                    clear n_HB
                    have HXR := n_HXR
                    clear n_HXR
                    have HXS := n_HXS
                    clear n_HXS
                    have HRR := n_HRR
                    clear n_HRR
                    have HRS := n_HRS
                    clear n_HRS
                    refine hK.out _ _ ⟨HXR.out.cell.1, HXR.out.cell.2.1, HXR.out.cell.2.2.1, HXR.out.cell.2.2.2.1, HXR.out.cell.2.2.2.2, HXS.out.cell.1, HXS.out.cell.2.1, HXS.out.cell.2.2.1, HXS.out.cell.2.2.2.1, HXS.out.cell.2.2.2.2⟩ (fun hHeld => ?_)
                    clear hK K
                    refine norm_ (a' := ?_) ?_ ?_
                    rotate_left
                    · show Act.put _ (some 160) _ = _
                      simp only [Act.put, List.setIfInBounds_toArray, List.set_cons_zero, List.set_cons_succ, i64_w, i32_w]
                      rfl
                    refine pure_ (i := 3) (N := some 162) (v := ?_) (a' := ?_) #[true, true, true, true, false, false, false, false, false, false, false, false, false, false, false, false, false, false, false, false, false, false, false, false, false, false] rfl rfl (any_of HT_.out (by kernel_rfl)) (fun _ _ _ h => h) (Or.inl ⟨by rfl, ?_⟩) ?_ ?_
                    rotate_left
                    · intro w'
                      go_simp
                      with_reducible rfl
                    rotate_left
                    · simp only [Act.put, List.setIfInBounds_toArray, List.set_cons_zero, List.set_cons_succ, i64_w, i32_w]
                      rfl
                    refine pure_ (i := 4) (N := some 163) (v := ?_) (a' := ?_) #[true, true, true, true, true, false, false, false, false, false, false, false, false, false, false, false, false, false, false, false, false, false, false, false, false, false] rfl rfl (any_of HT_.out (by kernel_rfl)) (fun _ _ _ h => h) (Or.inl ⟨by rfl, ?_⟩) ?_ ?_
                    rotate_left
                    · intro w'
                      go_simp
                      with_reducible rfl
                    rotate_left
                    · simp only [Act.put, List.setIfInBounds_toArray, List.set_cons_zero, List.set_cons_succ, i64_w, i32_w]
                      rfl
                    refine pure_ (i := 6) (N := some 165) (v := ?_) (a' := ?_) #[true, true, true, true, true, false, true, false, false, false, false, false, false, false, false, false, false, false, false, false, false, false, false, false, false, false] rfl rfl (any_of HT_.out (by kernel_rfl)) (fun _ _ _ h => h) (Or.inl ⟨by rfl, ?_⟩) ?_ ?_
                    rotate_left
                    · intro w'
                      go_simp
                      with_reducible rfl
                    rotate_left
                    · simp only [Act.put, List.setIfInBounds_toArray, List.set_cons_zero, List.set_cons_succ, i64_w, i32_w]
                      rfl
                    refine pure_ (i := 10) (N := some 169) (v := ?_) (a' := ?_) #[true, true, true, true, true, false, true, false, false, false, true, false, false, false, false, false, false, false, false, false, false, false, false, false, false, false] rfl rfl (any_of HT_.out (by kernel_rfl)) (fun _ _ _ h => h) (Or.inl ⟨by rfl, ?_⟩) ?_ ?_
                    rotate_left
                    · intro w'
                      go_simp
                      with_reducible rfl
                    rotate_left
                    · simp only [Act.put, List.setIfInBounds_toArray, List.set_cons_zero, List.set_cons_succ, i64_w, i32_w]
                      rfl
                    refine take_ (i := 5) (N := some 164) (v := ?_) (a' := ?_) #[true, true, true, true, true, true, true, false, false, false, true, false, false, false, false, false, false, false, false, false, false, false, false, false, false, false] rfl rfl (take_ofW HT_.out HW_.out (by kernel_rfl)) (fun _ _ _ h => h) (Or.inl ⟨by rfl, ?_⟩) hHeld ?_ ?_
                    rotate_left
                    · rintro w' ⟨s0, s1, s2, s3, s4, s5, s6, s7, s8, s9⟩
                      go_simp
                      with_reducible rfl
                    rotate_left
                    · simp only [Act.put, List.setIfInBounds_toArray, List.set_cons_zero, List.set_cons_succ, i64_w, i32_w]
                      rfl
                    refine take_ (i := 9) (N := some 168) (v := ?_) (a' := ?_) #[true, true, true, true, true, true, true, false, false, true, true, false, false, false, false, false, false, false, false, false, false, false, false, false, false, false] rfl rfl (take_ofW HT_.out HW_.out (by kernel_rfl)) (fun _ _ _ h => h) (Or.inl ⟨by rfl, ?_⟩) hHeld ?_ ?_
                    rotate_left
                    · rintro w' ⟨s0, s1, s2, s3, s4, s5, s6, s7, s8, s9⟩
                      go_simp
                      with_reducible rfl
                    rotate_left
                    · simp only [Act.put, List.setIfInBounds_toArray, List.set_cons_zero, List.set_cons_succ, i64_w, i32_w]
                      rfl
                    refine one_ (i := 7) (N := some 166) #[true, true, true, true, true, true, true, true, false, true, true, false, false, false, false, false, false, false, false, false, false, false, false, false, false, false] rfl rfl (one_of HT_.out (by kernel_rfl)) (by decide) (fun K hK => ?_)
                    refine goes_ Tryd.func12 (by kernel_rfl) rfl #[.int .i64 (j : Int)] (by rfl) rfl rfl (by simp only [List.map_toArray, List.map_cons, List.map_nil]; rfl) ?_
                    with_reducible refine (HW.out _).mono ?_
                    rintro e w9 ⟨rfl, hb⟩
                    refine ⟨_, rfl, ?_⟩
                    have n_HB := Lib.hid (below_step HB.out hb)
                    have n_HXR := Lib.hid (HXR.out.below hb)
                    have n_HXS := Lib.hid (HXS.out.below hb)
                    have n_HRR := Lib.hid (HRR.out.below hb)
                    have n_HRS := Lib.hid (HRS.out.below hb)
                    clear hb HB HXR HXS HRR HRS
                    have HB := n_HB
                    clear n_HB
                    have HXR := n_HXR
                    clear n_HXR
                    have HXS := n_HXS
                    clear n_HXS
                    have HRR := n_HRR
                    clear n_HRR
                    have HRS := n_HRS
                    clear n_HRS
                    refine hK.out _ _ ⟨HXR.out.cell.1, HXR.out.cell.2.1, HXR.out.cell.2.2.1, HXR.out.cell.2.2.2.1, HXR.out.cell.2.2.2.2, HXS.out.cell.1, HXS.out.cell.2.1, HXS.out.cell.2.2.1, HXS.out.cell.2.2.2.1, HXS.out.cell.2.2.2.2⟩ (fun hHeld => ?_)
                    clear hK K
                    refine norm_ (a' := ?_) ?_ ?_
                    rotate_left
                    · show Act.put _ (some 166) _ = _
                      simp only [Act.put, List.setIfInBounds_toArray, List.set_cons_zero, List.set_cons_succ, i64_w, i32_w]
                      rfl
                    refine one_ (i := 8) (N := some 167) #[true, true, true, true, true, true, true, true, true, true, true, false, false, false, false, false, false, false, false, false, false, false, false, false, false, false] rfl rfl (one_of HT_.out (by kernel_rfl)) (by decide) (fun K hK => ?_)
                    refine goes_ Tryd.func16 (by kernel_rfl) rfl #[.agg #[.string R.o, .string R.f, .int .i64 R.e, .slice A3 R.rs.length c3, .slice A4 R.ws.length c4], .string v, .bool false] (by rfl) rfl rfl (by simp only [List.map_toArray, List.map_cons, List.map_nil]; rfl) ?_
                    with_reducible refine (HCsf.out _ HB.out HRS.out).mono ?_
                    rintro e w9 ⟨rfl, hb⟩
                    refine ⟨_, rfl, ?_⟩
                    have n_HB := Lib.hid (below_step HB.out hb)
                    have n_HXR := Lib.hid (HXR.out.below hb)
                    have n_HXS := Lib.hid (HXS.out.below hb)
                    have n_HRR := Lib.hid (HRR.out.below hb)
                    have n_HRS := Lib.hid (HRS.out.below hb)
                    clear hb HB HXR HXS HRR HRS
                    have HB := n_HB
                    clear n_HB
                    have HXR := n_HXR
                    clear n_HXR
                    have HXS := n_HXS
                    clear n_HXS
                    have HRR := n_HRR
                    clear n_HRR
                    have HRS := n_HRS
                    clear n_HRS
                    refine hK.out _ _ ⟨HXR.out.cell.1, HXR.out.cell.2.1, HXR.out.cell.2.2.1, HXR.out.cell.2.2.2.1, HXR.out.cell.2.2.2.2, HXS.out.cell.1, HXS.out.cell.2.1, HXS.out.cell.2.2.1, HXS.out.cell.2.2.2.1, HXS.out.cell.2.2.2.2⟩ (fun hHeld => ?_)
                    clear hK K
                    refine norm_ (a' := ?_) ?_ ?_
                    rotate_left
                    · show Act.put _ (some 167) _ = _
                      simp only [Act.put, List.setIfInBounds_toArray, List.set_cons_zero, List.set_cons_succ, i64_w, i32_w]
                      rfl
                    refine one_ (i := 11) (N := some 170) #[true, true, true, true, true, true, true, true, true, true, true, true, false, false, false, false, false, false, false, false, false, false, false, false, false, false] rfl rfl (one_of HT_.out (by kernel_rfl)) (by decide) (fun K hK => ?_)
                    refine goes_ Tryd.func12 (by kernel_rfl) rfl #[.int .i64 (j : Int)] (by rfl) rfl rfl (by simp only [List.map_toArray, List.map_cons, List.map_nil]; rfl) ?_
                    with_reducible refine (HW.out _).mono ?_
                    rintro e w9 ⟨rfl, hb⟩
                    refine ⟨_, rfl, ?_⟩
                    have n_HB := Lib.hid (below_step HB.out hb)
                    have n_HXR := Lib.hid (HXR.out.below hb)
                    have n_HXS := Lib.hid (HXS.out.below hb)
                    have n_HRR := Lib.hid (HRR.out.below hb)
                    have n_HRS := Lib.hid (HRS.out.below hb)
                    clear hb HB HXR HXS HRR HRS
                    have HB := n_HB
                    clear n_HB
                    have HXR := n_HXR
                    clear n_HXR
                    have HXS := n_HXS
                    clear n_HXS
                    have HRR := n_HRR
                    clear n_HRR
                    have HRS := n_HRS
                    clear n_HRS
                    refine hK.out _ _ ⟨HXR.out.cell.1, HXR.out.cell.2.1, HXR.out.cell.2.2.1, HXR.out.cell.2.2.2.1, HXR.out.cell.2.2.2.2, HXS.out.cell.1, HXS.out.cell.2.1, HXS.out.cell.2.2.1, HXS.out.cell.2.2.2.1, HXS.out.cell.2.2.2.2⟩ (fun hHeld => ?_)
                    clear hK K
                    refine norm_ (a' := ?_) ?_ ?_
                    rotate_left
                    · show Act.put _ (some 170) _ = _
                      simp only [Act.put, List.setIfInBounds_toArray, List.set_cons_zero, List.set_cons_succ, i64_w, i32_w]
                      rfl
                    refine one_ (i := 12) (N := some 171) #[true, true, true, true, true, true, true, true, true, true, true, true, true, false, false, false, false, false, false, false, false, false, false, false, false, false] rfl rfl (one_of HT_.out (by kernel_rfl)) (by decide) (fun K hK => ?_)
                    refine goes_ Tryd.func16 (by kernel_rfl) rfl #[.agg #[.string r.o, .string r.f, .int .i64 r.e, .slice A1 r.rs.length c1, .slice A2 r.ws.length c2], .string v, .bool false] (by rfl) rfl rfl (by simp only [List.map_toArray, List.map_cons, List.map_nil]; rfl) ?_
                    with_reducible refine (HCrf.out _ HB.out HRR.out).mono ?_
                    rintro e w9 ⟨rfl, hb⟩
                    refine ⟨_, rfl, ?_⟩
                    have n_HB := Lib.hid (below_step HB.out hb)
                    have n_HXR := Lib.hid (HXR.out.below hb)
                    have n_HXS := Lib.hid (HXS.out.below hb)
                    have n_HRR := Lib.hid (HRR.out.below hb)
                    have n_HRS := Lib.hid (HRS.out.below hb)
                    clear hb HB HXR HXS HRR HRS
                    have HB := n_HB
                    clear n_HB
                    have HXR := n_HXR
                    clear n_HXR
                    have HXS := n_HXS
                    clear n_HXS
                    have HRR := n_HRR
                    clear n_HRR
                    have HRS := n_HRS
                    clear n_HRS
                    refine hK.out _ _ ⟨HXR.out.cell.1, HXR.out.cell.2.1, HXR.out.cell.2.2.1, HXR.out.cell.2.2.2.1, HXR.out.cell.2.2.2.2, HXS.out.cell.1, HXS.out.cell.2.1, HXS.out.cell.2.2.1, HXS.out.cell.2.2.2.1, HXS.out.cell.2.2.2.2⟩ (fun hHeld => ?_)
                    clear hK K
                    refine norm_ (a' := ?_) ?_ ?_
                    rotate_left
                    · show Act.put _ (some 171) _ = _
                      simp only [Act.put, List.setIfInBounds_toArray, List.set_cons_zero, List.set_cons_succ, i64_w, i32_w]
                      rfl
                    refine pure_ (i := 13) (N := some 172) (v := ?_) (a' := ?_) #[true, true, true, true, true, true, true, true, true, true, true, true, true, true, false, false, false, false, false, false, false, false, false, false, false, false] rfl rfl (any_of HT_.out (by kernel_rfl)) (fun _ _ _ h => h) (Or.inl ⟨by rfl, ?_⟩) ?_ ?_
                    rotate_left
                    · intro w'
                      go_simp
                      with_reducible rfl
                    rotate_left
                    · simp only [Act.put, List.setIfInBounds_toArray, List.set_cons_zero, List.set_cons_succ, i64_w, i32_w]
                      rfl
                    refine pure_ (i := 14) (N := some 173) (v := ?_) (a' := ?_) #[true, true, true, true, true, true, true, true, true, true, true, true, true, true, true, false, false, false, false, false, false, false, false, false, false, false] rfl rfl (any_of HT_.out (by kernel_rfl)) (fun _ _ _ h => h) (Or.inl ⟨by rfl, ?_⟩) ?_ ?_
                    rotate_left
                    · intro w'
                      go_simp
                      with_reducible rfl
                    rotate_left
                    · simp only [Act.put, List.setIfInBounds_toArray, List.set_cons_zero, List.set_cons_succ, i64_w, i32_w]
                      rfl
                    refine pure_ (i := 16) (N := some 175) (v := ?_) (a' := ?_) #[true, true, true, true, true, true, true, true, true, true, true, true, true, true, true, false, true, false, false, false, false, false, false, false, false, false] rfl rfl (any_of HT_.out (by kernel_rfl)) (fun _ _ _ h => h) (Or.inl ⟨by rfl, ?_⟩) ?_ ?_
                    rotate_left
                    · intro w'
                      go_simp
                      with_reducible rfl
                    rotate_left
                    · simp only [Act.put, List.setIfInBounds_toArray, List.set_cons_zero, List.set_cons_succ, i64_w, i32_w]
                      rfl
                    refine pure_ (i := 20) (N := some 179) (v := ?_) (a' := ?_) #[true, true, true, true, true, true, true, true, true, true, true, true, true, true, true, false, true, false, false, false, true, false, false, false, false, false] rfl rfl (any_of HT_.out (by kernel_rfl)) (fun _ _ _ h => h) (Or.inl ⟨by rfl, ?_⟩) ?_ ?_
                    rotate_left
                    · intro w'
                      go_simp
                      with_reducible rfl
                    rotate_left
                    · simp only [Act.put, List.setIfInBounds_toArray, List.set_cons_zero, List.set_cons_succ, i64_w, i32_w]
                      rfl
                    refine take_ (i := 15) (N := some 174) (v := ?_) (a' := ?_) #[true, true, true, true, true, true, true, true, true, true, true, true, true, true, true, true, true, false, false, false, true, false, false, false, false, false] rfl rfl (take_ofW HT_.out HW_.out (by kernel_rfl)) (fun _ _ _ h => h) (Or.inl ⟨by rfl, ?_⟩) hHeld ?_ ?_
                    rotate_left
                    · rintro w' ⟨s0, s1, s2, s3, s4, s5, s6, s7, s8, s9⟩
                      go_simp
                      with_reducible rfl
                    rotate_left
                    · simp only [Act.put, List.setIfInBounds_toArray, List.set_cons_zero, List.set_cons_succ, i64_w, i32_w]
                      rfl
                    refine take_ (i := 19) (N := some 178) (v := ?_) (a' := ?_) #[true, true, true, true, true, true, true, true, true, true, true, true, true, true, true, true, true, false, false, true, true, false, false, false, false, false] rfl rfl (take_ofW HT_.out HW_.out (by kernel_rfl)) (fun _ _ _ h => h) (Or.inl ⟨by rfl, ?_⟩) hHeld ?_ ?_
                    rotate_left
                    · rintro w' ⟨s0, s1, s2, s3, s4, s5, s6, s7, s8, s9⟩
                      go_simp
                      with_reducible rfl
                    rotate_left
                    · simp only [Act.put, List.setIfInBounds_toArray, List.set_cons_zero, List.set_cons_succ, i64_w, i32_w]
                      rfl
                    refine one_ (i := 17) (N := some 176) #[true, true, true, true, true, true, true, true, true, true, true, true, true, true, true, true, true, true, false, true, true, false, false, false, false, false] rfl rfl (one_of HT_.out (by kernel_rfl)) (by decide) (fun K hK => ?_)
                    refine goes_ Tryd.func12 (by kernel_rfl) rfl #[.int .i64 (j : Int)] (by rfl) rfl rfl (by simp only [List.map_toArray, List.map_cons, List.map_nil]; rfl) ?_
                    with_reducible refine (HW.out _).mono ?_
                    rintro e w9 ⟨rfl, hb⟩
                    refine ⟨_, rfl, ?_⟩
                    have n_HB := Lib.hid (below_step HB.out hb)
                    have n_HXR := Lib.hid (HXR.out.below hb)
                    have n_HXS := Lib.hid (HXS.out.below hb)
                    have n_HRR := Lib.hid (HRR.out.below hb)
                    have n_HRS := Lib.hid (HRS.out.below hb)
                    clear hb HB HXR HXS HRR HRS
                    have HB := n_HB
                    clear n_HB
                    have HXR := n_HXR
                    clear n_HXR
                    have HXS := n_HXS
                    clear n_HXS
                    have HRR := n_HRR
                    clear n_HRR
                    have HRS := n_HRS
                    clear n_HRS
                    refine hK.out _ _ ⟨HXR.out.cell.1, HXR.out.cell.2.1, HXR.out.cell.2.2.1, HXR.out.cell.2.2.2.1, HXR.out.cell.2.2.2.2, HXS.out.cell.1, HXS.out.cell.2.1, HXS.out.cell.2.2.1, HXS.out.cell.2.2.2.1, HXS.out.cell.2.2.2.2⟩ (fun hHeld => ?_)
                    clear hK K
                    refine norm_ (a' := ?_) ?_ ?_
                    rotate_left
                    · show Act.put _ (some 176) _ = _
                      simp only [Act.put, List.setIfInBounds_toArray, List.set_cons_zero, List.set_cons_succ, i64_w, i32_w]
                      rfl
                    refine one_ (i := 18) (N := some 177) #[true, true, true, true, true, true, true, true, true, true, true, true, true, true, true, true, true, true, true, true, true, false, false, false, false, false] rfl rfl (one_of HT_.out (by kernel_rfl)) (by decide) (fun K hK => ?_)
                    refine goes_ Tryd.func16 (by kernel_rfl) rfl #[.agg #[.string R.o, .string R.f, .int .i64 R.e, .slice A3 R.rs.length c3, .slice A4 R.ws.length c4], .string v, .bool true] (by rfl) rfl rfl (by simp only [List.map_toArray, List.map_cons, List.map_nil]; rfl) ?_
                    with_reducible refine (HCst.out _ HB.out HRS.out).mono ?_
                    rintro e w9 ⟨rfl, hb⟩
                    refine ⟨_, rfl, ?_⟩
                    have n_HB := Lib.hid (below_step HB.out hb)
                    have n_HXR := Lib.hid (HXR.out.below hb)
                    have n_HXS := Lib.hid (HXS.out.below hb)
                    have n_HRR := Lib.hid (HRR.out.below hb)
                    have n_HRS := Lib.hid (HRS.out.below hb)
                    clear hb HB HXR HXS HRR HRS
                    have HB := n_HB
                    clear n_HB
                    have HXR := n_HXR
                    clear n_HXR
                    have HXS := n_HXS
                    clear n_HXS
                    have HRR := n_HRR
                    clear n_HRR
                    have HRS := n_HRS
                    clear n_HRS
                    refine hK.out _ _ ⟨HXR.out.cell.1, HXR.out.cell.2.1, HXR.out.cell.2.2.1, HXR.out.cell.2.2.2.1, HXR.out.cell.2.2.2.2, HXS.out.cell.1, HXS.out.cell.2.1, HXS.out.cell.2.2.1, HXS.out.cell.2.2.2.1, HXS.out.cell.2.2.2.2⟩ (fun hHeld => ?_)
                    clear hK K
                    refine norm_ (a' := ?_) ?_ ?_
                    rotate_left
                    · show Act.put _ (some 177) _ = _
                      simp only [Act.put, List.setIfInBounds_toArray, List.set_cons_zero, List.set_cons_succ, i64_w, i32_w]
                      rfl
                    refine one_ (i := 21) (N := some 180) #[true, true, true, true, true, true, true, true, true, true, true, true, true, true, true, true, true, true, true, true, true, true, false, false, false, false] rfl rfl (one_of HT_.out (by kernel_rfl)) (by decide) (fun K hK => ?_)
                    refine goes_ Tryd.func12 (by kernel_rfl) rfl #[.int .i64 (j : Int)] (by rfl) rfl rfl (by simp only [List.map_toArray, List.map_cons, List.map_nil]; rfl) ?_
                    with_reducible refine (HW.out _).mono ?_
                    rintro e w9 ⟨rfl, hb⟩
                    refine ⟨_, rfl, ?_⟩
                    have n_HB := Lib.hid (below_step HB.out hb)
                    have n_HXR := Lib.hid (HXR.out.below hb)
                    have n_HXS := Lib.hid (HXS.out.below hb)
                    have n_HRR := Lib.hid (HRR.out.below hb)
                    have n_HRS := Lib.hid (HRS.out.below hb)
                    clear hb HB HXR HXS HRR HRS
                    have HB := n_HB
                    clear n_HB
                    have HXR := n_HXR
                    clear n_HXR
                    have HXS := n_HXS
                    clear n_HXS
                    have HRR := n_HRR
                    clear n_HRR
                    have HRS := n_HRS
                    clear n_HRS
                    refine hK.out _ _ ⟨HXR.out.cell.1, HXR.out.cell.2.1, HXR.out.cell.2.2.1, HXR.out.cell.2.2.2.1, HXR.out.cell.2.2.2.2, HXS.out.cell.1, HXS.out.cell.2.1, HXS.out.cell.2.2.1, HXS.out.cell.2.2.2.1, HXS.out.cell.2.2.2.2⟩ (fun hHeld => ?_)
                    clear hK K
                    refine norm_ (a' := ?_) ?_ ?_
                    rotate_left
                    · show Act.put _ (some 180) _ = _
                      simp only [Act.put, List.setIfInBounds_toArray, List.set_cons_zero, List.set_cons_succ, i64_w, i32_w]
                      rfl
                    refine one_ (i := 22) (N := some 181) #[true, true, true, true, true, true, true, true, true, true, true, true, true, true, true, true, true, true, true, true, true, true, true, false, false, false] rfl rfl (one_of HT_.out (by kernel_rfl)) (by decide) (fun K hK => ?_)
                    refine goes_ Tryd.func16 (by kernel_rfl) rfl #[.agg #[.string r.o, .string r.f, .int .i64 r.e, .slice A1 r.rs.length c1, .slice A2 r.ws.length c2], .string v, .bool true] (by rfl) rfl rfl (by simp only [List.map_toArray, List.map_cons, List.map_nil]; rfl) ?_
                    with_reducible refine (HCrt.out _ HB.out HRR.out).mono ?_
                    rintro e w9 ⟨rfl, hb⟩
                    refine ⟨_, rfl, ?_⟩
                    have n_HB := Lib.hid (below_step HB.out hb)
                    have n_HXR := Lib.hid (HXR.out.below hb)
                    have n_HXS := Lib.hid (HXS.out.below hb)
                    have n_HRR := Lib.hid (HRR.out.below hb)
                    have n_HRS := Lib.hid (HRS.out.below hb)
                    clear hb HB HXR HXS HRR HRS
                    have HB := n_HB
                    clear n_HB
                    have HXR := n_HXR
                    clear n_HXR
                    have HXS := n_HXS
                    clear n_HXS
                    have HRR := n_HRR
                    clear n_HRR
                    have HRS := n_HRS
                    clear n_HRS
                    refine hK.out _ _ ⟨HXR.out.cell.1, HXR.out.cell.2.1, HXR.out.cell.2.2.1, HXR.out.cell.2.2.2.1, HXR.out.cell.2.2.2.2, HXS.out.cell.1, HXS.out.cell.2.1, HXS.out.cell.2.2.1, HXS.out.cell.2.2.2.1, HXS.out.cell.2.2.2.2⟩ (fun hHeld => ?_)
                    clear hK K
                    refine norm_ (a' := ?_) ?_ ?_
                    rotate_left
                    · show Act.put _ (some 181) _ = _
                      simp only [Act.put, List.setIfInBounds_toArray, List.set_cons_zero, List.set_cons_succ, i64_w, i32_w]
                      rfl
                    refine pure_ (i := 23) (N := some 182) (v := ?_) (a' := ?_) #[true, true, true, true, true, true, true, true, true, true, true, true, true, true, true, true, true, true, true, true, true, true, true, true, false, false] rfl rfl (any_of HT_.out (by kernel_rfl)) (fun _ _ _ h => h) (Or.inl ⟨by rfl, ?_⟩) ?_ ?_
                    rotate_left
                    · intro w'
                      go_simp
                      with_reducible rfl
                    rotate_left
                    · simp only [Act.put, List.setIfInBounds_toArray, List.set_cons_zero, List.set_cons_succ, i64_w, i32_w]
                      rfl
                    refine pure_ (i := 24) (N := some 183) (v := ?_) (a' := ?_) #[true, true, true, true, true, true, true, true, true, true, true, true, true, true, true, true, true, true, true, true, true, true, true, true, true, false] rfl rfl (any_of HT_.out (by kernel_rfl)) (fun _ _ _ h => h) (Or.inl ⟨by rfl, ?_⟩) ?_ ?_
                    rotate_left
                    · intro w'
                      go_simp
                      with_reducible rfl
                    rotate_left
                    · simp only [Act.put, List.setIfInBounds_toArray, List.set_cons_zero, List.set_cons_succ, i64_w, i32_w]
                      rfl
                    refine pure_ (i := 25) (N := some 184) (v := ?_) (a' := ?_) #[true, true, true, true, true, true, true, true, true, true, true, true, true, true, true, true, true, true, true, true, true, true, true, true, true, true] rfl rfl (any_of HT_.out (by kernel_rfl)) (fun _ _ _ h => h) (Or.inl ⟨by rfl, ?_⟩) ?_ ?_
                    rotate_left
                    · intro w'
                      go_simp
                      with_reducible rfl
                    rotate_left
                    · simp only [Act.put, List.setIfInBounds_toArray, List.set_cons_zero, List.set_cons_succ, i64_w, i32_w]
                      rfl
                    refine done_ (done_of HT_.out (by kernel_rfl)) ?_
                    go_wp2
                    go_roundw
                    case rel => exact ⟨j + 1, by omega, by go_num, HB.out, HXR.out, HXS.out, HRR.out, HRS.out⟩
                    case measure => simp [intOf]; omega
                · obtain rfl : j = 8 := by omega
                  obtain ⟨x0, x1, x2, x3, x4⟩ := HXR.out.cell
                  have z0 := HXR.out.free 0
                  have z1 := HXR.out.free 1
                  have z2 := HXR.out.free 2
                  have z3 := HXR.out.free 3
                  have z4 := HXR.out.free 4
                  obtain ⟨y0, y1, y2, y3, y4⟩ := HXS.out.cell
                  go_wp2
                  go_roundw
                  case rel => exact ⟨k + 1, by omega, by go_num, BoxAt.put_below HB.out HRB.out R _ _, HRB.out, R, A3, c3, A4, c4, HXR.out.put R _ _, (RowsAt.put HRS.out (Nat.lt_succ_of_lt HRS2.out) _ _ _ _ _).lower (Nat.zero_le _), HGD.out⟩
                  case measure => simp [intOf]; omega
        · obtain rfl : q = 2 := by omega
          clear hq0 hq3 hq2
          have h0_ := revoke_call r u A1 c1 A2 c2 _ ⟨HTB.out.below HB5.out⟩ (right_small HGR.out.1) (name_small HU.out) HR5.out
          rw [revoke_cases HGR.out.1 HU.out] at h0_
          have hlen5 : r.rs.length + r.ws.length ≤ 5 := (right_parts HGR.out.1).2.2.2.1
          have he0 : 0 ≤ r.e := (right_parts HGR.out.1).2.2.1.1
          have he7 : r.e ≤ 7 := (right_parts HGR.out.1).2.2.1.2
          cases hcan : canF r u false with
          | false =>
            rw [if_neg (by rw [hcan]; simp)] at h0_
            have HCALL := Lib.hid h0_
            have HCV := Lib.hid hcan
            clear hcan h0_
            go_wp2_with fail
            refine HCALL.out.mono ?_
            rintro e w5 ⟨A3, c3, A4, c4, rfl, hr5, hb5⟩
            have hb45 := below_step (below_alloc (Below.refl w4.heap.size w4) (Obj.cells #[Value.string r.o, Value.string r.f, Value.int IntKind.i64 r.e, .slice A1 r.rs.length c1, .slice A2 r.ws.length c2] 26)) hb5
            have hput := BoxAt.put_below (b := w4.heap.size) hb45 (Nat.le_refl _) noRt (.slice A3 (noRt).rs.length c3) (.slice A4 (noRt).ws.length c4)
            have HS6 := HS5.out.below hb5
            have HX6 := HX5.out.below hb5
            have HB7 := Lib.hid (below_step HB4.out hput)
            have HX7 := Lib.hid (HX4.out.below hput)
            have HR7 := Lib.hid (HR4.out.below hput)
            have HS7 := Lib.hid (HS6.put noRt (.slice A3 (noRt).rs.length c3) (.slice A4 (noRt).ws.length c4))
            have HT7 := Lib.hid (RowsAt.put hr5 (b := w4.heap.size) (by rw [World.size_alloc]; omega) (.string (noRt).o) (.string (noRt).f) (.int .i64 (noRt).e) (.slice A3 (noRt).rs.length c3) (.slice A4 (noRt).ws.length c4))
            clear x0 x1 x2 x3 x4
            obtain ⟨x0, x1, x2, x3, x4⟩ := HX6.cell
            obtain ⟨y0, y1, y2, y3, y4⟩ := HS6.cell
            have z0 := HS6.free 0
            have z1 := HS6.free 1
            have z2 := HS6.free 2
            have z3 := HS6.free 3
            have z4 := HS6.free 4
            have hne1 : ¬ RB = w4.heap.size := by omega
            have hne2 : ¬ w4.heap.size = RB := by omega
            have HSB2 := Lib.hid (show w4.heap.size < (w4.alloc (Obj.cells #[Value.string r.o, Value.string r.f, Value.int IntKind.i64 r.e, .slice A1 r.rs.length c1, .slice A2 r.ws.length c2] 26)).heap.size by rw [World.size_alloc]; omega)
            clear hb45 hput HS6 HX6 hr5 hb5 HCALL HB5 HX5 HR5 HS5
            have hcan0 := can_call r u false A1 c1 A2 c2 _ ⟨HTB.out.below HB7.out⟩ (right_small HGR.out.1) HR7.out
            rw [HCV.out] at hcan0
            have HCAN := Lib.hid hcan0
            clear hcan0
            go_wp2_with fail
            refine HCAN.out.mono ?_
            rintro e w7 ⟨rfl, hb⟩
            have HB8 := Lib.hid (below_step HB7.out hb)
            have HX8 := Lib.hid (HX7.out.below hb)
            have HR8 := Lib.hid (HR7.out.below hb)
            have HS8 := Lib.hid (HS7.out.below hb)
            have HT8 := Lib.hid (HT7.out.below hb)
            clear hb HCAN HB7 HX7 HR7 HS7 HT7 x0 x1 x2 x3 x4 y0 y1 y2 y3 y4 z0 z1 z2 z3 z4
            obtain ⟨x0, x1, x2, x3, x4⟩ := HX8.out.cell
            go_wp2
            go_roundw
            case rel => exact ⟨k + 1, by omega, by go_num, HB8.out, HRB.out, r, A1, c1, A2, c2, HX8.out, HR8.out, HGR.out⟩
            case measure => simp [intOf]; omega
          | true =>
            by_cases hanna : u = r.o
            · rw [if_neg (fun h => h.2 hanna)] at h0_
              have HCALL := Lib.hid h0_
              have HCV := Lib.hid hcan
              have hua : u = anna := hanna.trans HGR.out.2
              have hu1 : (u.toList == [97, 110, 110, 97]) = true := by rw [hua, anna_list]; exact beq_self_eq_true _
              have hu2 : (u.toList != [97, 110, 110, 97]) = false := by rw [hua, anna_list]; exact bne_self_eq_false _
              clear hcan h0_ hua hanna
              go_wp2_with fail
              refine HCALL.out.mono ?_
              rintro e w5 ⟨A3, c3, A4, c4, rfl, hr5, hb5⟩
              have hb45 := below_step (below_alloc (Below.refl w4.heap.size w4) (Obj.cells #[Value.string r.o, Value.string r.f, Value.int IntKind.i64 r.e, .slice A1 r.rs.length c1, .slice A2 r.ws.length c2] 26)) hb5
              have hput := BoxAt.put_below (b := w4.heap.size) hb45 (Nat.le_refl _) noRt (.slice A3 (noRt).rs.length c3) (.slice A4 (noRt).ws.length c4)
              have HS6 := HS5.out.below hb5
              have HX6 := HX5.out.below hb5
              have HB7 := Lib.hid (below_step HB4.out hput)
              have HX7 := Lib.hid (HX4.out.below hput)
              have HR7 := Lib.hid (HR4.out.below hput)
              have HS7 := Lib.hid (HS6.put noRt (.slice A3 (noRt).rs.length c3) (.slice A4 (noRt).ws.length c4))
              have HT7 := Lib.hid (RowsAt.put hr5 (b := w4.heap.size) (by rw [World.size_alloc]; omega) (.string (noRt).o) (.string (noRt).f) (.int .i64 (noRt).e) (.slice A3 (noRt).rs.length c3) (.slice A4 (noRt).ws.length c4))
              clear x0 x1 x2 x3 x4
              obtain ⟨x0, x1, x2, x3, x4⟩ := HX6.cell
              obtain ⟨y0, y1, y2, y3, y4⟩ := HS6.cell
              have z0 := HS6.free 0
              have z1 := HS6.free 1
              have z2 := HS6.free 2
              have z3 := HS6.free 3
              have z4 := HS6.free 4
              have hne1 : ¬ RB = w4.heap.size := by omega
              have hne2 : ¬ w4.heap.size = RB := by omega
              have HSB2 := Lib.hid (show w4.heap.size < (w4.alloc (Obj.cells #[Value.string r.o, Value.string r.f, Value.int IntKind.i64 r.e, .slice A1 r.rs.length c1, .slice A2 r.ws.length c2] 26)).heap.size by rw [World.size_alloc]; omega)
              clear hb45 hput HS6 HX6 hr5 hb5 HCALL HB5 HX5 HR5 HS5
              have hcan0 := can_call r u false A1 c1 A2 c2 _ ⟨HTB.out.below HB7.out⟩ (right_small HGR.out.1) HR7.out
              rw [HCV.out] at hcan0
              have HCAN := Lib.hid hcan0
              clear hcan0
              go_wp2_with fail
              refine HCAN.out.mono ?_
              rintro e w7 ⟨rfl, hb⟩
              have HB8 := Lib.hid (below_step HB7.out hb)
              have HX8 := Lib.hid (HX7.out.below hb)
              have HR8 := Lib.hid (HR7.out.below hb)
              have HS8 := Lib.hid (HS7.out.below hb)
              have HT8 := Lib.hid (HT7.out.below hb)
              clear hb HCAN HB7 HX7 HR7 HS7 HT7 x0 x1 x2 x3 x4 y0 y1 y2 y3 y4 z0 z1 z2 z3 z4
              obtain ⟨x0, x1, x2, x3, x4⟩ := HX8.out.cell
              go_wp2
              go_roundw
              case rel => exact ⟨k + 1, by omega, by go_num, HB8.out, HRB.out, r, A1, c1, A2, c2, HX8.out, HR8.out, HGR.out⟩
              case measure => simp [intOf]; omega
            · rw [if_pos ⟨hcan, hanna⟩] at h0_
              have HCV := Lib.hid hcan
              have hua : u ≠ anna := fun e => hanna (e.trans HGR.out.2.symm)
              have hu1 : (u.toList == [97, 110, 110, 97]) = false := by rw [beq_eq_false_iff_ne]; exact fun e => hua ((list_eq u anna).1 (e.trans anna_list.symm))
              have hu2 : (u.toList != [97, 110, 110, 97]) = true := by rw [bne_iff_ne]; exact fun e => hua ((list_eq u anna).1 (e.trans anna_list.symm))
              clear hcan hua
              by_cases h7 : r.e = 7
              · rw [if_pos h7] at h0_
                have HCALL := Lib.hid h0_
                have h7b : ¬ r.e < 7 := by omega
                clear h7 h0_ hanna
                go_wp2_with fail
                refine HCALL.out.mono ?_
                rintro e w5 ⟨A3, c3, A4, c4, rfl, hr5, hb5⟩
                have hb45 := below_step (below_alloc (Below.refl w4.heap.size w4) (Obj.cells #[Value.string r.o, Value.string r.f, Value.int IntKind.i64 r.e, .slice A1 r.rs.length c1, .slice A2 r.ws.length c2] 26)) hb5
                have hput := BoxAt.put_below (b := w4.heap.size) hb45 (Nat.le_refl _) noRt (.slice A3 (noRt).rs.length c3) (.slice A4 (noRt).ws.length c4)
                have HS6 := HS5.out.below hb5
                have HX6 := HX5.out.below hb5
                have HB7 := Lib.hid (below_step HB4.out hput)
                have HX7 := Lib.hid (HX4.out.below hput)
                have HR7 := Lib.hid (HR4.out.below hput)
                have HS7 := Lib.hid (HS6.put noRt (.slice A3 (noRt).rs.length c3) (.slice A4 (noRt).ws.length c4))
                have HT7 := Lib.hid (RowsAt.put hr5 (b := w4.heap.size) (by rw [World.size_alloc]; omega) (.string (noRt).o) (.string (noRt).f) (.int .i64 (noRt).e) (.slice A3 (noRt).rs.length c3) (.slice A4 (noRt).ws.length c4))
                clear x0 x1 x2 x3 x4
                obtain ⟨x0, x1, x2, x3, x4⟩ := HX6.cell
                obtain ⟨y0, y1, y2, y3, y4⟩ := HS6.cell
                have z0 := HS6.free 0
                have z1 := HS6.free 1
                have z2 := HS6.free 2
                have z3 := HS6.free 3
                have z4 := HS6.free 4
                have hne1 : ¬ RB = w4.heap.size := by omega
                have hne2 : ¬ w4.heap.size = RB := by omega
                have HSB2 := Lib.hid (show w4.heap.size < (w4.alloc (Obj.cells #[Value.string r.o, Value.string r.f, Value.int IntKind.i64 r.e, .slice A1 r.rs.length c1, .slice A2 r.ws.length c2] 26)).heap.size by rw [World.size_alloc]; omega)
                clear hb45 hput HS6 HX6 hr5 hb5 HCALL HB5 HX5 HR5 HS5
                have hcan0 := can_call r u false A1 c1 A2 c2 _ ⟨HTB.out.below HB7.out⟩ (right_small HGR.out.1) HR7.out
                rw [HCV.out] at hcan0
                have HCAN := Lib.hid hcan0
                clear hcan0
                go_wp2_with fail
                refine HCAN.out.mono ?_
                rintro e w7 ⟨rfl, hb⟩
                have HB8 := Lib.hid (below_step HB7.out hb)
                have HX8 := Lib.hid (HX7.out.below hb)
                have HR8 := Lib.hid (HR7.out.below hb)
                have HS8 := Lib.hid (HS7.out.below hb)
                have HT8 := Lib.hid (HT7.out.below hb)
                clear hb HCAN HB7 HX7 HR7 HS7 HT7 x0 x1 x2 x3 x4 y0 y1 y2 y3 y4 z0 z1 z2 z3 z4
                obtain ⟨x0, x1, x2, x3, x4⟩ := HX8.out.cell
                go_wp2
                go_roundw
                case rel => exact ⟨k + 1, by omega, by go_num, HB8.out, HRB.out, r, A1, c1, A2, c2, HX8.out, HR8.out, HGR.out⟩
                case measure => simp [intOf]; omega
              · rw [if_neg h7] at h0_
                have HCALL := Lib.hid h0_
                have h7b : r.e < 7 := by omega
                clear h0_
                have hright := struck_right HGR.out.1 u h7
                have hcn := struck_can HGR.out.1 hright hanna
                have hso : (struck r u).o = r.o := rfl
                have hse : (struck r u).e = r.e + 1 := rfl
                clear h7 hanna
                generalize struck r u = R at HCALL hright hcn hso hse
                have HGD : Hid (GoodR R) := Lib.hid ⟨hright, hso.trans HGR.out.2⟩
                have HE := Lib.hid hse
                have hEb : (R.e != r.e + 1) = false := by rw [hse]; simp
                have HCF := Lib.hid hcn.1
                have HCT := Lib.hid hcn.2.1
                have HOT := Lib.hid hcn.2.2
                clear hright hcn hso hse
                go_wp2_with fail
                refine HCALL.out.mono ?_
                rintro e w5 ⟨A3, c3, A4, c4, rfl, hr5, hb5⟩
                have hb45 := below_step (below_alloc (Below.refl w4.heap.size w4) (Obj.cells #[Value.string r.o, Value.string r.f, Value.int IntKind.i64 r.e, .slice A1 r.rs.length c1, .slice A2 r.ws.length c2] 26)) hb5
                have hput := BoxAt.put_below (b := w4.heap.size) hb45 (Nat.le_refl _) R (.slice A3 (R).rs.length c3) (.slice A4 (R).ws.length c4)
                have HS6 := HS5.out.below hb5
                have HX6 := HX5.out.below hb5
                have HB7 := Lib.hid (below_step HB4.out hput)
                have HX7 := Lib.hid (HX4.out.below hput)
                have HR7 := Lib.hid (HR4.out.below hput)
                have HS7 := Lib.hid (HS6.put R (.slice A3 (R).rs.length c3) (.slice A4 (R).ws.length c4))
                have HT7 := Lib.hid (RowsAt.put hr5 (b := w4.heap.size) (by rw [World.size_alloc]; omega) (.string (R).o) (.string (R).f) (.int .i64 (R).e) (.slice A3 (R).rs.length c3) (.slice A4 (R).ws.length c4))
                clear x0 x1 x2 x3 x4
                obtain ⟨x0, x1, x2, x3, x4⟩ := HX6.cell
                obtain ⟨y0, y1, y2, y3, y4⟩ := HS6.cell
                have z0 := HS6.free 0
                have z1 := HS6.free 1
                have z2 := HS6.free 2
                have z3 := HS6.free 3
                have z4 := HS6.free 4
                have hne1 : ¬ RB = w4.heap.size := by omega
                have hne2 : ¬ w4.heap.size = RB := by omega
                have HSB2 := Lib.hid (show w4.heap.size < (w4.alloc (Obj.cells #[Value.string r.o, Value.string r.f, Value.int IntKind.i64 r.e, .slice A1 r.rs.length c1, .slice A2 r.ws.length c2] 26)).heap.size by rw [World.size_alloc]; omega)
                clear hb45 hput HS6 HX6 hr5 hb5 HCALL HB5 HX5 HR5 HS5
                have hcan0 := can_call r u false A1 c1 A2 c2 _ ⟨HTB.out.below HB7.out⟩ (right_small HGR.out.1) HR7.out
                rw [HCV.out] at hcan0
                have HCAN := Lib.hid hcan0
                clear hcan0
                go_wp2_with fail
                refine HCAN.out.mono ?_
                rintro e w7 ⟨rfl, hb⟩
                have HB8 := Lib.hid (below_step HB7.out hb)
                have HX8 := Lib.hid (HX7.out.below hb)
                have HR8 := Lib.hid (HR7.out.below hb)
                have HS8 := Lib.hid (HS7.out.below hb)
                have HT8 := Lib.hid (HT7.out.below hb)
                clear hb HCAN HB7 HX7 HR7 HS7 HT7 x0 x1 x2 x3 x4 y0 y1 y2 y3 y4 z0 z1 z2 z3 z4
                obtain ⟨x0, x1, x2, x3, x4⟩ := HX8.out.cell
                obtain ⟨y0, y1, y2, y3, y4⟩ := HS8.out.cell
                have h0_ := right_call R A3 c3 A4 c4 _ ⟨HTB.out.below HB8.out⟩ (right_small HGD.out.1) HT8.out
                rw [HGD.out.1] at h0_
                have HRI := Lib.hid h0_
                clear h0_
                go_wp2_with fail
                refine (HRI.out).mono ?_
                rintro e w9 ⟨rfl, hb⟩
                have HB9 := Lib.hid (below_step HB8.out hb)
                have HX9 := Lib.hid (HX8.out.below hb)
                have HR9 := Lib.hid (HR8.out.below hb)
                have HS9 := Lib.hid (HS8.out.below hb)
                have HT9 := Lib.hid (HT8.out.below hb)
                clear hb HB8 HX8 HR8 HS8 HT8 x0 x1 x2 x3 x4 y0 y1 y2 y3 y4
                obtain ⟨x0, x1, x2, x3, x4⟩ := HX9.out.cell
                obtain ⟨y0, y1, y2, y3, y4⟩ := HS9.out.cell
                clear HRI
                have h0_ := can_call R u false A3 c3 A4 c4 _ ⟨HTB.out.below HB9.out⟩ (right_small HGD.out.1) HT9.out
                rw [HCF.out] at h0_
                have HCA := Lib.hid h0_
                clear h0_
                go_wp2_with fail
                refine (HCA.out).mono ?_
                rintro e w10 ⟨rfl, hb⟩
                have HB10 := Lib.hid (below_step HB9.out hb)
                have HX10 := Lib.hid (HX9.out.below hb)
                have HR10 := Lib.hid (HR9.out.below hb)
                have HS10 := Lib.hid (HS9.out.below hb)
                have HT10 := Lib.hid (HT9.out.below hb)
                clear hb HB9 HX9 HR9 HS9 HT9 x0 x1 x2 x3 x4 y0 y1 y2 y3 y4
                obtain ⟨x0, x1, x2, x3, x4⟩ := HX10.out.cell
                obtain ⟨y0, y1, y2, y3, y4⟩ := HS10.out.cell
                clear HCA
                have h0_ := can_call R u true A3 c3 A4 c4 _ ⟨HTB.out.below HB10.out⟩ (right_small HGD.out.1) HT10.out
                rw [HCT.out] at h0_
                have HCB := Lib.hid h0_
                clear h0_
                go_wp2_with fail
                refine (HCB.out).mono ?_
                rintro e w11 ⟨rfl, hb⟩
                have HB11 := Lib.hid (below_step HB10.out hb)
                have HX11 := Lib.hid (HX10.out.below hb)
                have HR11 := Lib.hid (HR10.out.below hb)
                have HS11 := Lib.hid (HS10.out.below hb)
                have HT11 := Lib.hid (HT10.out.below hb)
                clear hb HB10 HX10 HR10 HS10 HT10 x0 x1 x2 x3 x4 y0 y1 y2 y3 y4
                obtain ⟨x0, x1, x2, x3, x4⟩ := HX11.out.cell
                obtain ⟨y0, y1, y2, y3, y4⟩ := HS11.out.cell
                clear HCB
                have HT12 := Lib.hid (HT11.out.lower (show w4.heap.size + 1 ≤ _ from HSB2.out))
                have hwSB : w.heap.size ≤ w4.heap.size := HB4.out.size
                have HWS := Lib.hid hwSB
                have HRS2 := Lib.hid hSB
                clear hne1 hne2 HSB2 HT11 hwSB hSB HB4 HX4 HR4 HLT5
                go_wp2_with fail
                clear x0 x1 x2 x3 x4 y0 y1 y2 y3 y4
                generalize w4.heap.size = SB at HS11 HT12 HWS HRS2 ⊢
                go_loopw [14] (fun i wr => ∃ j : Nat, j ≤ 8 ∧ i = .int .i64 j ∧ InRel w RB SB r R A1 c1 A2 c2 A3 c3 A4 c4 wr) (fun i _ => 8 - (intOf i).toNat)
                case atStart => exact ⟨0, Nat.zero_le _, rfl, HB11.out, HX11.out, HS11.out, HR11.out, HT12.out⟩
                case round =>
                  clear HB11 HX11 HS11 HR11 HT12
                  obtain ⟨j, hj, rfl, hB, hX, hS, hR, hT⟩ := hrel
                  have HB := Lib.hid hB
                  have HXR := Lib.hid hX
                  have HXS := Lib.hid hS
                  have HRR := Lib.hid hR
                  have HRS := Lib.hid hT
                  clear hB hX hS hR hT
                  by_cases hj8 : j < 8
                  · obtain ⟨v, hv⟩ : ∃ v, whoF (j : Int) = v := ⟨_, rfl⟩
                    have HW := Lib.hid (fun W => who_call (j : Int) W ⟨by omega, by omega⟩)
                    rw [hv] at HW
                    clear hv
                    by_cases hvu : v = u
                    · have hne : (v.toList != u.toList) = false := by rw [hvu]; simp
                      have heq : (v.toList == u.toList) = true := by rw [hvu]; simp
                      clear hvu
                      go_wp2_with fail
                      have hb : Below wr.heap.size wr wr.drew := below_drew (Below.refl _ _)
                      have n_HB := Lib.hid (below_step HB.out hb)
                      have n_HXR := Lib.hid (HXR.out.below hb)
                      have n_HXS := Lib.hid (HXS.out.below hb)
                      have n_HRR := Lib.hid (HRR.out.below hb)
                      have n_HRS := Lib.hid (HRS.out.below hb)
                      clear hb HB HXR HXS HRR HRS
                      have HB := n_HB
                      clear n_HB
                      have HXR := n_HXR
                      clear n_HXR
                      have HXS := n_HXS
                      clear n_HXS
                      have HRR := n_HRR
                      clear n_HRR
                      have HRS := n_HRS
                      clear n_HRS
                      refine start_ (n := 26) (S := fun w' => w'.cell? ⟨RB, 0, none⟩ = some (.string r.o) ∧ w'.cell? ⟨RB, 1, none⟩ = some (.string r.f) ∧ w'.cell? ⟨RB, 2, none⟩ = some (.int .i64 r.e) ∧ w'.cell? ⟨RB, 3, none⟩ = some (.slice A1 r.rs.length c1) ∧ w'.cell? ⟨RB, 4, none⟩ = some (.slice A2 r.ws.length c2) ∧ w'.cell? ⟨SB, 0, none⟩ = some (.string R.o) ∧ w'.cell? ⟨SB, 1, none⟩ = some (.string R.f) ∧ w'.cell? ⟨SB, 2, none⟩ = some (.int .i64 R.e) ∧ w'.cell? ⟨SB, 3, none⟩ = some (.slice A3 R.rs.length c3) ∧ w'.cell? ⟨SB, 4, none⟩ = some (.slice A4 R.ws.length c4)) (ds := []) #[false, false, false, false, false, false, false, false, false, false, false, false, false, false, false, false, false, false, false, false, false, false, false, false, false, false] (by kernel_rfl) rfl rfl ⟨HXR.out.cell.1, HXR.out.cell.2.1, HXR.out.cell.2.2.1, HXR.out.cell.2.2.2.1, HXR.out.cell.2.2.2.2, HXS.out.cell.1, HXS.out.cell.2.1, HXS.out.cell.2.2.1, HXS.out.cell.2.2.2.1, HXS.out.cell.2.2.2.2⟩ (fun hHeld => ?_)
                      refine with_tabW rgDo.tab26 rgDo.bits26 (fun HT_ HW_ => ?_)
                      refine pure_ (i := 0) (N := some 159) (v := ?_) (a' := ?_) #[true, false, false, false, false, false, false, false, false, false, false, false, false, false, false, false, false, false, false, false, false, false, false, false, false, false] rfl rfl (any_of HT_.out (by kernel_rfl)) (fun _ _ _ h => h) (Or.inl ⟨by rfl, ?_⟩) ?_ ?_
                      rotate_left
                      · intro w'
                        go_simp
                        with_reducible rfl
                      rotate_left
                      · simp only [Act.put, List.setIfInBounds_toArray, List.set_cons_zero, List.set_cons_succ, i64_w, i32_w]
                        rfl
                      refine pure_ (i := 2) (N := some 161) (v := ?_) (a' := ?_) #[true, false, true, false, false, false, false, false, false, false, false, false, false, false, false, false, false, false, false, false, false, false, false, false, false, false] rfl rfl (any_of HT_.out (by kernel_rfl)) (fun _ _ _ h => h) (Or.inl ⟨by rfl, ?_⟩) ?_ ?_
                      rotate_left
                      · intro w'
                        go_simp
                        with_reducible rfl
                      rotate_left
                      · simp only [Act.put, List.setIfInBounds_toArray, List.set_cons_zero, List.set_cons_succ, i64_w, i32_w]
                        rfl
                      refine one_ (i := 1) (N := some 160) #[true, true, true, false, false, false, false, false, false, false, false, false, false, false, false, false, false, false, false, false, false, false, false, false, false, false] rfl rfl (one_of HT_.out (by kernel_rfl)) (by decide) (fun K hK => ?_)
                      refine goes_ Tryd.func12 (by kernel_rfl) rfl #[.int .i64 (j : Int)] (by rfl) rfl rfl (by simp only [List.map_toArray, List.map_cons, List.map_nil]; rfl) ?_
                      with_reducible refine (HW.out _).mono ?_
                      rintro e w9 ⟨rfl, hb⟩
                      refine ⟨_, rfl, ?_⟩
                      have n_HB := Lib.hid (below_step HB.out hb)
                      have n_HXR := Lib.hid (HXR.out.below hb)
                      have n_HXS := Lib.hid (HXS.out.below hb)
                      have n_HRR := Lib.hid (HRR.out.below hb)
                      have n_HRS := Lib.hid (HRS.out.below hb)
                      clear hb HB HXR HXS HRR HRS
                      have HB := n_HB
                      clear n_HB
                      have HXR := n_HXR
                      clear n_HXR
                      have HXS := n_HXS
                      clear n_HXS
                      have HRR := n_HRR
                      clear n_HRR
                      have HRS := n_HRS
                      clear n_HRS
                      refine hK.out _ _ ⟨HXR.out.cell.1, HXR.out.cell.2.1, HXR.out.cell.2.2.1, HXR.out.cell.2.2.2.1, HXR.out.cell.2.2.2.2, HXS.out.cell.1, HXS.out.cell.2.1, HXS.out.cell.2.2.1, HXS.out.cell.2.2.2.1, HXS.out.cell.2.2.2.2⟩ (fun hHeld => ?_)
                      clear hK K
                      refine norm_ (a' := ?_) ?_ ?_
                      rotate_left
                      · show Act.put _ (some 160) _ = _
                        simp only [Act.put, List.setIfInBounds_toArray, List.set_cons_zero, List.set_cons_succ, i64_w, i32_w]
                        rfl
                      refine pure_ (i := 3) (N := some 162) (v := ?_) (a' := ?_) #[true, true, true, true, false, false, false, false, false, false, false, false, false, false, false, false, false, false, false, false, false, false, false, false, false, false] rfl rfl (any_of HT_.out (by kernel_rfl)) (fun _ _ _ h => h) (Or.inl ⟨by rfl, ?_⟩) ?_ ?_
                      rotate_left
                      · intro w'
                        go_simp
                        with_reducible rfl
                      rotate_left
                      · simp only [Act.put, List.setIfInBounds_toArray, List.set_cons_zero, List.set_cons_succ, i64_w, i32_w]
                        rfl
                      refine pure_ (i := 4) (N := some 163) (v := ?_) (a' := ?_) #[true, true, true, true, true, false, false, false, false, false, false, false, false, false, false, false, false, false, false, false, false, false, false, false, false, false] rfl rfl (any_of HT_.out (by kernel_rfl)) (fun _ _ _ h => h) (Or.inl ⟨by rfl, ?_⟩) ?_ ?_
                      rotate_left
                      · intro w'
                        go_simp
                        with_reducible rfl
                      rotate_left
                      · simp only [Act.put, List.setIfInBounds_toArray, List.set_cons_zero, List.set_cons_succ, i64_w, i32_w]
                        rfl
                      refine pure_ (i := 5) (N := some 164) (v := undef) (a' := ?_) #[true, true, true, true, true, true, false, false, false, false, false, false, false, false, false, false, false, false, false, false, false, false, false, false, false, false] rfl rfl (any_of HT_.out (by kernel_rfl)) (fun _ _ _ h => h) (Or.inr ⟨by rfl, rfl⟩) ?_ ?_
                      rotate_left
                      · simp only [Act.put, List.setIfInBounds_toArray, List.set_cons_zero, List.set_cons_succ, i64_w, i32_w]
                        rfl
                      refine pure_ (i := 6) (N := some 165) (v := undef) (a' := ?_) #[true, true, true, true, true, true, true, false, false, false, false, false, false, false, false, false, false, false, false, false, false, false, false, false, false, false] rfl rfl (any_of HT_.out (by kernel_rfl)) (fun _ _ _ h => h) (Or.inr ⟨by rfl, rfl⟩) ?_ ?_
                      rotate_left
                      · simp only [Act.put, List.setIfInBounds_toArray, List.set_cons_zero, List.set_cons_succ, i64_w, i32_w]
                        rfl
                      refine pure_ (i := 7) (N := some 166) (v := undef) (a' := ?_) #[true, true, true, true, true, true, true, true, false, false, false, false, false, false, false, false, false, false, false, false, false, false, false, false, false, false] rfl rfl (any_of HT_.out (by kernel_rfl)) (fun _ _ _ h => h) (Or.inr ⟨by rfl, rfl⟩) ?_ ?_
                      rotate_left
                      · simp only [Act.put, List.setIfInBounds_toArray, List.set_cons_zero, List.set_cons_succ, i64_w, i32_w]
                        rfl
                      refine pure_ (i := 8) (N := some 167) (v := undef) (a' := ?_) #[true, true, true, true, true, true, true, true, true, false, false, false, false, false, false, false, false, false, false, false, false, false, false, false, false, false] rfl rfl (any_of HT_.out (by kernel_rfl)) (fun _ _ _ h => h) (Or.inr ⟨by rfl, rfl⟩) ?_ ?_
                      rotate_left
                      · simp only [Act.put, List.setIfInBounds_toArray, List.set_cons_zero, List.set_cons_succ, i64_w, i32_w]
                        rfl
                      refine pure_ (i := 9) (N := some 168) (v := undef) (a' := ?_) #[true, true, true, true, true, true, true, true, true, true, false, false, false, false, false, false, false, false, false, false, false, false, false, false, false, false] rfl rfl (any_of HT_.out (by kernel_rfl)) (fun _ _ _ h => h) (Or.inr ⟨by rfl, rfl⟩) ?_ ?_
                      rotate_left
                      · simp only [Act.put, List.setIfInBounds_toArray, List.set_cons_zero, List.set_cons_succ, i64_w, i32_w]
                        rfl
                      refine pure_ (i := 10) (N := some 169) (v := undef) (a' := ?_) #[true, true, true, true, true, true, true, true, true, true, true, false, false, false, false, false, false, false, false, false, false, false, false, false, false, false] rfl rfl (any_of HT_.out (by kernel_rfl)) (fun _ _ _ h => h) (Or.inr ⟨by rfl, rfl⟩) ?_ ?_
                      rotate_left
                      · simp only [Act.put, List.setIfInBounds_toArray, List.set_cons_zero, List.set_cons_succ, i64_w, i32_w]
                        rfl
                      refine pure_ (i := 11) (N := some 170) (v := undef) (a' := ?_) #[true, true, true, true, true, true, true, true, true, true, true, true, false, false, false, false, false, false, false, false, false, false, false, false, false, false] rfl rfl (any_of HT_.out (by kernel_rfl)) (fun _ _ _ h => h) (Or.inr ⟨by rfl, rfl⟩) ?_ ?_
                      rotate_left
                      · simp only [Act.put, List.setIfInBounds_toArray, List.set_cons_zero, List.set_cons_succ, i64_w, i32_w]
                        rfl
                      refine pure_ (i := 12) (N := some 171) (v := undef) (a' := ?_) #[true, true, true, true, true, true, true, true, true, true, true, true, true, false, false, false, false, false, false, false, false, false, false, false, false, false] rfl rfl (any_of HT_.out (by kernel_rfl)) (fun _ _ _ h => h) (Or.inr ⟨by rfl, rfl⟩) ?_ ?_
                      rotate_left
                      · simp only [Act.put, List.setIfInBounds_toArray, List.set_cons_zero, List.set_cons_succ, i64_w, i32_w]
                        rfl
                      refine pure_ (i := 13) (N := some 172) (v := undef) (a' := ?_) #[true, true, true, true, true, true, true, true, true, true, true, true, true, true, false, false, false, false, false, false, false, false, false, false, false, false] rfl rfl (any_of HT_.out (by kernel_rfl)) (fun _ _ _ h => h) (Or.inr ⟨by rfl, rfl⟩) ?_ ?_
                      rotate_left
                      · simp only [Act.put, List.setIfInBounds_toArray, List.set_cons_zero, List.set_cons_succ, i64_w, i32_w]
                        rfl
                      refine pure_ (i := 14) (N := some 173) (v := undef) (a' := ?_) #[true, true, true, true, true, true, true, true, true, true, true, true, true, true, true, false, false, false, false, false, false, false, false, false, false, false] rfl rfl (any_of HT_.out (by kernel_rfl)) (fun _ _ _ h => h) (Or.inr ⟨by rfl, rfl⟩) ?_ ?_
                      rotate_left
                      · simp only [Act.put, List.setIfInBounds_toArray, List.set_cons_zero, List.set_cons_succ, i64_w, i32_w]
                        rfl
                      refine pure_ (i := 15) (N := some 174) (v := undef) (a' := ?_) #[true, true, true, true, true, true, true, true, true, true, true, true, true, true, true, true, false, false, false, false, false, false, false, false, false, false] rfl rfl (any_of HT_.out (by kernel_rfl)) (fun _ _ _ h => h) (Or.inr ⟨by rfl, rfl⟩) ?_ ?_
                      rotate_left
                      · simp only [Act.put, List.setIfInBounds_toArray, List.set_cons_zero, List.set_cons_succ, i64_w, i32_w]
                        rfl
                      refine pure_ (i := 16) (N := some 175) (v := undef) (a' := ?_) #[true, true, true, true, true, true, true, true, true, true, true, true, true, true, true, true, true, false, false, false, false, false, false, false, false, false] rfl rfl (any_of HT_.out (by kernel_rfl)) (fun _ _ _ h => h) (Or.inr ⟨by rfl, rfl⟩) ?_ ?_
                      rotate_left
                      · simp only [Act.put, List.setIfInBounds_toArray, List.set_cons_zero, List.set_cons_succ, i64_w, i32_w]
                        rfl
                      refine pure_ (i := 17) (N := some 176) (v := undef) (a' := ?_) #[true, true, true, true, true, true, true, true, true, true, true, true, true, true, true, true, true, true, false, false, false, false, false, false, false, false] rfl rfl (any_of HT_.out (by kernel_rfl)) (fun _ _ _ h => h) (Or.inr ⟨by rfl, rfl⟩) ?_ ?_
                      rotate_left
                      · simp only [Act.put, List.setIfInBounds_toArray, List.set_cons_zero, List.set_cons_succ, i64_w, i32_w]
                        rfl
                      refine pure_ (i := 18) (N := some 177) (v := undef) (a' := ?_) #[true, true, true, true, true, true, true, true, true, true, true, true, true, true, true, true, true, true, true, false, false, false, false, false, false, false] rfl rfl (any_of HT_.out (by kernel_rfl)) (fun _ _ _ h => h) (Or.inr ⟨by rfl, rfl⟩) ?_ ?_
                      rotate_left
                      · simp only [Act.put, List.setIfInBounds_toArray, List.set_cons_zero, List.set_cons_succ, i64_w, i32_w]
                        rfl
                      refine pure_ (i := 19) (N := some 178) (v := undef) (a' := ?_) #[true, true, true, true, true, true, true, true, true, true, true, true, true, true, true, true, true, true, true, true, false, false, false, false, false, false] rfl rfl (any_of HT_.out (by kernel_rfl)) (fun _ _ _ h => h) (Or.inr ⟨by rfl, rfl⟩) ?_ ?_
                      rotate_left
                      · simp only [Act.put, List.setIfInBounds_toArray, List.set_cons_zero, List.set_cons_succ, i64_w, i32_w]
                        rfl
                      refine pure_ (i := 20) (N := some 179) (v := undef) (a' := ?_) #[true, true, true, true, true, true, true, true, true, true, true, true, true, true, true, true, true, true, true, true, true, false, false, false, false, false] rfl rfl (any_of HT_.out (by kernel_rfl)) (fun _ _ _ h => h) (Or.inr ⟨by rfl, rfl⟩) ?_ ?_
                      rotate_left
                      · simp only [Act.put, List.setIfInBounds_toArray, List.set_cons_zero, List.set_cons_succ, i64_w, i32_w]
                        rfl
                      refine pure_ (i := 21) (N := some 180) (v := undef) (a' := ?_) #[true, true, true, true, true, true, true, true, true, true, true, true, true, true, true, true, true, true, true, true, true, true, false, false, false, false] rfl rfl (any_of HT_.out (by kernel_rfl)) (fun _ _ _ h => h) (Or.inr ⟨by rfl, rfl⟩) ?_ ?_
                      rotate_left
                      · simp only [Act.put, List.setIfInBounds_toArray, List.set_cons_zero, List.set_cons_succ, i64_w, i32_w]
                        rfl
                      refine pure_ (i := 22) (N := some 181) (v := undef) (a' := ?_) #[true, true, true, true, true, true, true, true, true, true, true, true, true, true, true, true, true, true, true, true, true, true, true, false, false, false] rfl rfl (any_of HT_.out (by kernel_rfl)) (fun _ _ _ h => h) (Or.inr ⟨by rfl, rfl⟩) ?_ ?_
                      rotate_left
                      · simp only [Act.put, List.setIfInBounds_toArray, List.set_cons_zero, List.set_cons_succ, i64_w, i32_w]
                        rfl
                      refine pure_ (i := 23) (N := some 182) (v := undef) (a' := ?_) #[true, true, true, true, true, true, true, true, true, true, true, true, true, true, true, true, true, true, true, true, true, true, true, true, false, false] rfl rfl (any_of HT_.out (by kernel_rfl)) (fun _ _ _ h => h) (Or.inr ⟨by rfl, rfl⟩) ?_ ?_
                      rotate_left
                      · simp only [Act.put, List.setIfInBounds_toArray, List.set_cons_zero, List.set_cons_succ, i64_w, i32_w]
                        rfl
                      refine pure_ (i := 24) (N := some 183) (v := undef) (a' := ?_) #[true, true, true, true, true, true, true, true, true, true, true, true, true, true, true, true, true, true, true, true, true, true, true, true, true, false] rfl rfl (any_of HT_.out (by kernel_rfl)) (fun _ _ _ h => h) (Or.inr ⟨by rfl, rfl⟩) ?_ ?_
                      rotate_left
                      · simp only [Act.put, List.setIfInBounds_toArray, List.set_cons_zero, List.set_cons_succ, i64_w, i32_w]
                        rfl
                      refine pure_ (i := 25) (N := some 184) (v := ?_) (a' := ?_) #[true, true, true, true, true, true, true, true, true, true, true, true, true, true, true, true, true, true, true, true, true, true, true, true, true, true] rfl rfl (any_of HT_.out (by kernel_rfl)) (fun _ _ _ h => h) (Or.inl ⟨by rfl, ?_⟩) ?_ ?_
                      rotate_left
                      · intro w'
                        go_simp
                        with_reducible rfl
                      rotate_left
                      · simp only [Act.put, List.setIfInBounds_toArray, List.set_cons_zero, List.set_cons_succ, i64_w, i32_w]
                        rfl
                      refine done_ (done_of HT_.out (by kernel_rfl)) ?_
                      go_wp2
                      go_roundw
                      case rel => exact ⟨j + 1, by omega, by go_num, HB.out, HXR.out, HXS.out, HRR.out, HRS.out⟩
                      case measure => simp [intOf]; omega
                    · have hne : (v.toList != u.toList) = true := by rw [bne_iff_ne]; exact fun e => hvu ((list_eq _ _).1 e)
                      have heq : (v.toList == u.toList) = false := by rw [beq_eq_false_iff_ne]; exact fun e => hvu ((list_eq _ _).1 e)
                      obtain ⟨b1, hb1⟩ : ∃ b, canF r v false = b := ⟨_, rfl⟩
                      obtain ⟨b2, hb2⟩ : ∃ b, canF r v true = b := ⟨_, rfl⟩
                      have HCrf := Lib.hid (fun (W : World) (hb : Below w.heap.size w W) (h : RowsAt W 0 r A1 c1 A2 c2) => can_call r v false A1 c1 A2 c2 W ⟨HTB.out.below hb⟩ (right_small HGR.out.1) h)
                      have HCrt := Lib.hid (fun (W : World) (hb : Below w.heap.size w W) (h : RowsAt W 0 r A1 c1 A2 c2) => can_call r v true A1 c1 A2 c2 W ⟨HTB.out.below hb⟩ (right_small HGR.out.1) h)
                      have HCsf := Lib.hid (fun (W : World) (hb : Below w.heap.size w W) (h : RowsAt W (SB + 1) R A3 c3 A4 c4) => can_call R v false A3 c3 A4 c4 W ⟨HTB.out.below hb⟩ (right_small HGD.out.1) h)
                      have HCst := Lib.hid (fun (W : World) (hb : Below w.heap.size w W) (h : RowsAt W (SB + 1) R A3 c3 A4 c4) => can_call R v true A3 c3 A4 c4 W ⟨HTB.out.below hb⟩ (right_small HGD.out.1) h)
                      rw [HOT.out v hvu] at HCsf HCst
                      rw [hb1] at HCsf HCrf
                      rw [hb2] at HCst HCrt
                      clear hb1 hb2 hvu
                      go_wp2_with fail
                      have hb : Below wr.heap.size wr wr.drew := below_drew (Below.refl _ _)
                      have n_HB := Lib.hid (below_step HB.out hb)
                      have n_HXR := Lib.hid (HXR.out.below hb)
                      have n_HXS := Lib.hid (HXS.out.below hb)
                      have n_HRR := Lib.hid (HRR.out.below hb)
                      have n_HRS := Lib.hid (HRS.out.below hb)
                      clear hb HB HXR HXS HRR HRS
                      have HB := n_HB
                      clear n_HB
                      have HXR := n_HXR
                      clear n_HXR
                      have HXS := n_HXS
                      clear n_HXS
                      have HRR := n_HRR
                      clear n_HRR
                      have HRS := n_HRS
                      clear n_HRS
                      refine start_ (n := 26) (S := fun w' => w'.cell? ⟨RB, 0, none⟩ = some (.string r.o) ∧ w'.cell? ⟨RB, 1, none⟩ = some (.string r.f) ∧ w'.cell? ⟨RB, 2, none⟩ = some (.int .i64 r.e) ∧ w'.cell? ⟨RB, 3, none⟩ = some (.slice A1 r.rs.length c1) ∧ w'.cell? ⟨RB, 4, none⟩ = some (.slice A2 r.ws.length c2) ∧ w'.cell? ⟨SB, 0, none⟩ = some (.string R.o) ∧ w'.cell? ⟨SB, 1, none⟩ = some (.string R.f) ∧ w'.cell? ⟨SB, 2, none⟩ = some (.int .i64 R.e) ∧ w'.cell? ⟨SB, 3, none⟩ = some (.slice A3 R.rs.length c3) ∧ w'.cell? ⟨SB, 4, none⟩ = some (.slice A4 R.ws.length c4)) (ds := []) #[false, false, false, false, false, false, false, false, false, false, false, false, false, false, false, false, false, false, false, false, false, false, false, false, false, false] (by kernel_rfl) rfl rfl ⟨HXR.out.cell.1, HXR.out.cell.2.1, HXR.out.cell.2.2.1, HXR.out.cell.2.2.2.1, HXR.out.cell.2.2.2.2, HXS.out.cell.1, HXS.out.cell.2.1, HXS.out.cell.2.2.1, HXS.out.cell.2.2.2.1, HXS.out.cell.2.2.2.2⟩ (fun hHeld => ?_)
                      refine with_tabW rgDo.tab26 rgDo.bits26 (fun HT_ HW_ => ?_)
                      refine pure_ (i := 0) (N := some 159) (v := ?_) (a' := ?_) #[true, false, false, false, false, false, false, false, false, false, false, false, false, false, false, false, false, false, false, false, false, false, false, false, false, false] rfl rfl (any_of HT_.out (by kernel_rfl)) (fun _ _ _ h => h) (Or.inl ⟨by rfl, ?_⟩) ?_ ?_
                      rotate_left
                      · intro w'
                        go_simp
                        with_reducible rfl
                      rotate_left
                      · simp only [Act.put, List.setIfInBounds_toArray, List.set_cons_zero, List.set_cons_succ, i64_w, i32_w]
                        rfl
                      refine pure_ (i := 2) (N := some 161) (v := ?_) (a' := ?_) #[true, false, true, false, false, false, false, false, false, false, false, false, false, false, false, false, false, false, false, false, false, false, false, false, false, false] rfl rfl (any_of HT_.out (by kernel_rfl)) (fun _ _ _ h => h) (Or.inl ⟨by rfl, ?_⟩) ?_ ?_
                      rotate_left
                      · intro w'
                        go_simp
                        with_reducible rfl
                      rotate_left
                      · simp only [Act.put, List.setIfInBounds_toArray, List.set_cons_zero, List.set_cons_succ, i64_w, i32_w]
                        rfl
                      refine one_ (i := 1) (N := some 160) #[true, true, true, false, false, false, false, false, false, false, false, false, false, false, false, false, false, false, false, false, false, false, false, false, false, false] rfl rfl (one_of HT_.out (by kernel_rfl)) (by decide) (fun K hK => ?_)
                      refine goes_ Tryd.func12 (by kernel_rfl) rfl #[.int .i64 (j : Int)] (by rfl) rfl rfl (by simp only [List.map_toArray, List.map_cons, List.map_nil]; rfl) ?_
                      with_reducible refine (HW.out _).mono ?_
                      rintro e w9 ⟨rfl, hb⟩
                      refine ⟨_, rfl, ?_⟩
                      have n_HB := Lib.hid (below_step HB.out hb)
                      have n_HXR := Lib.hid (HXR.out.below hb)
                      have n_HXS := Lib.hid (HXS.out.below hb)
                      have n_HRR := Lib.hid (HRR.out.below hb)
                      have n_HRS := Lib.hid (HRS.out.below hb)
                      clear hb HB HXR HXS HRR HRS
                      have HB := n_HB
                      clear n_HB
                      have HXR := n_HXR
                      clear n_HXR
                      have HXS := n_HXS
                      clear n_HXS
                      have HRR := n_HRR
                      clear n_HRR
                      have HRS := n_HRS
                      clear n_HRS
                      refine hK.out _ _ ⟨HXR.out.cell.1, HXR.out.cell.2.1, HXR.out.cell.2.2.1, HXR.out.cell.2.2.2.1, HXR.out.cell.2.2.2.2, HXS.out.cell.1, HXS.out.cell.2.1, HXS.out.cell.2.2.1, HXS.out.cell.2.2.2.1, HXS.out.cell.2.2.2.2⟩ (fun hHeld => ?_)
                      clear hK K
                      refine norm_ (a' := ?_) ?_ ?_
                      rotate_left
                      · show Act.put _ (some 160) _ = _
                        simp only [Act.put, List.setIfInBounds_toArray, List.set_cons_zero, List.set_cons_succ, i64_w, i32_w]
                        rfl
                      refine pure_ (i := 3) (N := some 162) (v := ?_) (a' := ?_) #[true, true, true, true, false, false, false, false, false, false, false, false, false, false, false, false, false, false, false, false, false, false, false, false, false, false] rfl rfl (any_of HT_.out (by kernel_rfl)) (fun _ _ _ h => h) (Or.inl ⟨by rfl, ?_⟩) ?_ ?_
                      rotate_left
                      · intro w'
                        go_simp
                        with_reducible rfl
                      rotate_left
                      · simp only [Act.put, List.setIfInBounds_toArray, List.set_cons_zero, List.set_cons_succ, i64_w, i32_w]
                        rfl
                      refine pure_ (i := 4) (N := some 163) (v := ?_) (a' := ?_) #[true, true, true, true, true, false, false, false, false, false, false, false, false, false, false, false, false, false, false, false, false, false, false, false, false, false] rfl rfl (any_of HT_.out (by kernel_rfl)) (fun _ _ _ h => h) (Or.inl ⟨by rfl, ?_⟩) ?_ ?_
                      rotate_left
                      · intro w'
                        go_simp
                        with_reducible rfl
                      rotate_left
                      · simp only [Act.put, List.setIfInBounds_toArray, List.set_cons_zero, List.set_cons_succ, i64_w, i32_w]
                        rfl
                      refine pure_ (i := 6) (N := some 165) (v := ?_) (a' := ?_) #[true, true, true, true, true, false, true, false, false, false, false, false, false, false, false, false, false, false, false, false, false, false, false, false, false, false] rfl rfl (any_of HT_.out (by kernel_rfl)) (fun _ _ _ h => h) (Or.inl ⟨by rfl, ?_⟩) ?_ ?_
                      rotate_left
                      · intro w'
                        go_simp
                        with_reducible rfl
                      rotate_left
                      · simp only [Act.put, List.setIfInBounds_toArray, List.set_cons_zero, List.set_cons_succ, i64_w, i32_w]
                        rfl
                      refine pure_ (i := 10) (N := some 169) (v := ?_) (a' := ?_) #[true, true, true, true, true, false, true, false, false, false, true, false, false, false, false, false, false, false, false, false, false, false, false, false, false, false] rfl rfl (any_of HT_.out (by kernel_rfl)) (fun _ _ _ h => h) (Or.inl ⟨by rfl, ?_⟩) ?_ ?_
                      rotate_left
                      · intro w'
                        go_simp
                        with_reducible rfl
                      rotate_left
                      · simp only [Act.put, List.setIfInBounds_toArray, List.set_cons_zero, List.set_cons_succ, i64_w, i32_w]
                        rfl
                      refine take_ (i := 5) (N := some 164) (v := ?_) (a' := ?_) #[true, true, true, true, true, true, true, false, false, false, true, false, false, false, false, false, false, false, false, false, false, false, false, false, false, false] rfl rfl (take_ofW HT_.out HW_.out (by kernel_rfl)) (fun _ _ _ h => h) (Or.inl ⟨by rfl, ?_⟩) hHeld ?_ ?_
                      rotate_left
                      · rintro w' ⟨s0, s1, s2, s3, s4, s5, s6, s7, s8, s9⟩
                        go_simp
                        with_reducible rfl
                      rotate_left
                      · simp only [Act.put, List.setIfInBounds_toArray, List.set_cons_zero, List.set_cons_succ, i64_w, i32_w]
                        rfl
                      refine take_ (i := 9) (N := some 168) (v := ?_) (a' := ?_) #[true, true, true, true, true, true, true, false, false, true, true, false, false, false, false, false, false, false, false, false, false, false, false, false, false, false] rfl rfl (take_ofW HT_.out HW_.out (by kernel_rfl)) (fun _ _ _ h => h) (Or.inl ⟨by rfl, ?_⟩) hHeld ?_ ?_
                      rotate_left
                      · rintro w' ⟨s0, s1, s2, s3, s4, s5, s6, s7, s8, s9⟩
                        go_simp
                        with_reducible rfl
                      rotate_left
                      · simp only [Act.put, List.setIfInBounds_toArray, List.set_cons_zero, List.set_cons_succ, i64_w, i32_w]
                        rfl
                      refine one_ (i := 7) (N := some 166) #[true, true, true, true, true, true, true, true, false, true, true, false, false, false, false, false, false, false, false, false, false, false, false, false, false, false] rfl rfl (one_of HT_.out (by kernel_rfl)) (by decide) (fun K hK => ?_)
                      refine goes_ Tryd.func12 (by kernel_rfl) rfl #[.int .i64 (j : Int)] (by rfl) rfl rfl (by simp only [List.map_toArray, List.map_cons, List.map_nil]; rfl) ?_
                      with_reducible refine (HW.out _).mono ?_
                      rintro e w9 ⟨rfl, hb⟩
                      refine ⟨_, rfl, ?_⟩
                      have n_HB := Lib.hid (below_step HB.out hb)
                      have n_HXR := Lib.hid (HXR.out.below hb)
                      have n_HXS := Lib.hid (HXS.out.below hb)
                      have n_HRR := Lib.hid (HRR.out.below hb)
                      have n_HRS := Lib.hid (HRS.out.below hb)
                      clear hb HB HXR HXS HRR HRS
                      have HB := n_HB
                      clear n_HB
                      have HXR := n_HXR
                      clear n_HXR
                      have HXS := n_HXS
                      clear n_HXS
                      have HRR := n_HRR
                      clear n_HRR
                      have HRS := n_HRS
                      clear n_HRS
                      refine hK.out _ _ ⟨HXR.out.cell.1, HXR.out.cell.2.1, HXR.out.cell.2.2.1, HXR.out.cell.2.2.2.1, HXR.out.cell.2.2.2.2, HXS.out.cell.1, HXS.out.cell.2.1, HXS.out.cell.2.2.1, HXS.out.cell.2.2.2.1, HXS.out.cell.2.2.2.2⟩ (fun hHeld => ?_)
                      clear hK K
                      refine norm_ (a' := ?_) ?_ ?_
                      rotate_left
                      · show Act.put _ (some 166) _ = _
                        simp only [Act.put, List.setIfInBounds_toArray, List.set_cons_zero, List.set_cons_succ, i64_w, i32_w]
                        rfl
                      refine one_ (i := 8) (N := some 167) #[true, true, true, true, true, true, true, true, true, true, true, false, false, false, false, false, false, false, false, false, false, false, false, false, false, false] rfl rfl (one_of HT_.out (by kernel_rfl)) (by decide) (fun K hK => ?_)
                      refine goes_ Tryd.func16 (by kernel_rfl) rfl #[.agg #[.string R.o, .string R.f, .int .i64 R.e, .slice A3 R.rs.length c3, .slice A4 R.ws.length c4], .string v, .bool false] (by rfl) rfl rfl (by simp only [List.map_toArray, List.map_cons, List.map_nil]; rfl) ?_
                      with_reducible refine (HCsf.out _ HB.out HRS.out).mono ?_
                      rintro e w9 ⟨rfl, hb⟩
                      refine ⟨_, rfl, ?_⟩
                      have n_HB := Lib.hid (below_step HB.out hb)
                      have n_HXR := Lib.hid (HXR.out.below hb)
                      have n_HXS := Lib.hid (HXS.out.below hb)
                      have n_HRR := Lib.hid (HRR.out.below hb)
                      have n_HRS := Lib.hid (HRS.out.below hb)
                      clear hb HB HXR HXS HRR HRS
                      have HB := n_HB
                      clear n_HB
                      have HXR := n_HXR
                      clear n_HXR
                      have HXS := n_HXS
                      clear n_HXS
                      have HRR := n_HRR
                      clear n_HRR
                      have HRS := n_HRS
                      clear n_HRS
                      refine hK.out _ _ ⟨HXR.out.cell.1, HXR.out.cell.2.1, HXR.out.cell.2.2.1, HXR.out.cell.2.2.2.1, HXR.out.cell.2.2.2.2, HXS.out.cell.1, HXS.out.cell.2.1, HXS.out.cell.2.2.1, HXS.out.cell.2.2.2.1, HXS.out.cell.2.2.2.2⟩ (fun hHeld => ?_)
                      clear hK K
                      refine norm_ (a' := ?_) ?_ ?_
                      rotate_left
                      · show Act.put _ (some 167) _ = _
                        simp only [Act.put, List.setIfInBounds_toArray, List.set_cons_zero, List.set_cons_succ, i64_w, i32_w]
                        rfl
                      refine one_ (i := 11) (N := some 170) #[true, true, true, true, true, true, true, true, true, true, true, true, false, false, false, false, false, false, false, false, false, false, false, false, false, false] rfl rfl (one_of HT_.out (by kernel_rfl)) (by decide) (fun K hK => ?_)
                      refine goes_ Tryd.func12 (by kernel_rfl) rfl #[.int .i64 (j : Int)] (by rfl) rfl rfl (by simp only [List.map_toArray, List.map_cons, List.map_nil]; rfl) ?_
                      with_reducible refine (HW.out _).mono ?_
                      rintro e w9 ⟨rfl, hb⟩
                      refine ⟨_, rfl, ?_⟩
                      have n_HB := Lib.hid (below_step HB.out hb)
                      have n_HXR := Lib.hid (HXR.out.below hb)
                      have n_HXS := Lib.hid (HXS.out.below hb)
                      have n_HRR := Lib.hid (HRR.out.below hb)
                      have n_HRS := Lib.hid (HRS.out.below hb)
                      clear hb HB HXR HXS HRR HRS
                      have HB := n_HB
                      clear n_HB
                      have HXR := n_HXR
                      clear n_HXR
                      have HXS := n_HXS
                      clear n_HXS
                      have HRR := n_HRR
                      clear n_HRR
                      have HRS := n_HRS
                      clear n_HRS
                      refine hK.out _ _ ⟨HXR.out.cell.1, HXR.out.cell.2.1, HXR.out.cell.2.2.1, HXR.out.cell.2.2.2.1, HXR.out.cell.2.2.2.2, HXS.out.cell.1, HXS.out.cell.2.1, HXS.out.cell.2.2.1, HXS.out.cell.2.2.2.1, HXS.out.cell.2.2.2.2⟩ (fun hHeld => ?_)
                      clear hK K
                      refine norm_ (a' := ?_) ?_ ?_
                      rotate_left
                      · show Act.put _ (some 170) _ = _
                        simp only [Act.put, List.setIfInBounds_toArray, List.set_cons_zero, List.set_cons_succ, i64_w, i32_w]
                        rfl
                      refine one_ (i := 12) (N := some 171) #[true, true, true, true, true, true, true, true, true, true, true, true, true, false, false, false, false, false, false, false, false, false, false, false, false, false] rfl rfl (one_of HT_.out (by kernel_rfl)) (by decide) (fun K hK => ?_)
                      refine goes_ Tryd.func16 (by kernel_rfl) rfl #[.agg #[.string r.o, .string r.f, .int .i64 r.e, .slice A1 r.rs.length c1, .slice A2 r.ws.length c2], .string v, .bool false] (by rfl) rfl rfl (by simp only [List.map_toArray, List.map_cons, List.map_nil]; rfl) ?_
                      with_reducible refine (HCrf.out _ HB.out HRR.out).mono ?_
                      rintro e w9 ⟨rfl, hb⟩
                      refine ⟨_, rfl, ?_⟩
                      have n_HB := Lib.hid (below_step HB.out hb)
                      have n_HXR := Lib.hid (HXR.out.below hb)
                      have n_HXS := Lib.hid (HXS.out.below hb)
                      have n_HRR := Lib.hid (HRR.out.below hb)
                      have n_HRS := Lib.hid (HRS.out.below hb)
                      clear hb HB HXR HXS HRR HRS
                      have HB := n_HB
                      clear n_HB
                      have HXR := n_HXR
                      clear n_HXR
                      have HXS := n_HXS
                      clear n_HXS
                      have HRR := n_HRR
                      clear n_HRR
                      have HRS := n_HRS
                      clear n_HRS
                      refine hK.out _ _ ⟨HXR.out.cell.1, HXR.out.cell.2.1, HXR.out.cell.2.2.1, HXR.out.cell.2.2.2.1, HXR.out.cell.2.2.2.2, HXS.out.cell.1, HXS.out.cell.2.1, HXS.out.cell.2.2.1, HXS.out.cell.2.2.2.1, HXS.out.cell.2.2.2.2⟩ (fun hHeld => ?_)
                      clear hK K
                      refine norm_ (a' := ?_) ?_ ?_
                      rotate_left
                      · show Act.put _ (some 171) _ = _
                        simp only [Act.put, List.setIfInBounds_toArray, List.set_cons_zero, List.set_cons_succ, i64_w, i32_w]
                        rfl
                      refine pure_ (i := 13) (N := some 172) (v := ?_) (a' := ?_) #[true, true, true, true, true, true, true, true, true, true, true, true, true, true, false, false, false, false, false, false, false, false, false, false, false, false] rfl rfl (any_of HT_.out (by kernel_rfl)) (fun _ _ _ h => h) (Or.inl ⟨by rfl, ?_⟩) ?_ ?_
                      rotate_left
                      · intro w'
                        go_simp
                        with_reducible rfl
                      rotate_left
                      · simp only [Act.put, List.setIfInBounds_toArray, List.set_cons_zero, List.set_cons_succ, i64_w, i32_w]
                        rfl
                      refine pure_ (i := 14) (N := some 173) (v := ?_) (a' := ?_) #[true, true, true, true, true, true, true, true, true, true, true, true, true, true, true, false, false, false, false, false, false, false, false, false, false, false] rfl rfl (any_of HT_.out (by kernel_rfl)) (fun _ _ _ h => h) (Or.inl ⟨by rfl, ?_⟩) ?_ ?_
                      rotate_left
                      · intro w'
                        go_simp
                        with_reducible rfl
                      rotate_left
                      · simp only [Act.put, List.setIfInBounds_toArray, List.set_cons_zero, List.set_cons_succ, i64_w, i32_w]
                        rfl
                      refine pure_ (i := 16) (N := some 175) (v := ?_) (a' := ?_) #[true, true, true, true, true, true, true, true, true, true, true, true, true, true, true, false, true, false, false, false, false, false, false, false, false, false] rfl rfl (any_of HT_.out (by kernel_rfl)) (fun _ _ _ h => h) (Or.inl ⟨by rfl, ?_⟩) ?_ ?_
                      rotate_left
                      · intro w'
                        go_simp
                        with_reducible rfl
                      rotate_left
                      · simp only [Act.put, List.setIfInBounds_toArray, List.set_cons_zero, List.set_cons_succ, i64_w, i32_w]
                        rfl
                      refine pure_ (i := 20) (N := some 179) (v := ?_) (a' := ?_) #[true, true, true, true, true, true, true, true, true, true, true, true, true, true, true, false, true, false, false, false, true, false, false, false, false, false] rfl rfl (any_of HT_.out (by kernel_rfl)) (fun _ _ _ h => h) (Or.inl ⟨by rfl, ?_⟩) ?_ ?_
                      rotate_left
                      · intro w'
                        go_simp
                        with_reducible rfl
                      rotate_left
                      · simp only [Act.put, List.setIfInBounds_toArray, List.set_cons_zero, List.set_cons_succ, i64_w, i32_w]
                        rfl
                      refine take_ (i := 15) (N := some 174) (v := ?_) (a' := ?_) #[true, true, true, true, true, true, true, true, true, true, true, true, true, true, true, true, true, false, false, false, true, false, false, false, false, false] rfl rfl (take_ofW HT_.out HW_.out (by kernel_rfl)) (fun _ _ _ h => h) (Or.inl ⟨by rfl, ?_⟩) hHeld ?_ ?_
                      rotate_left
                      · rintro w' ⟨s0, s1, s2, s3, s4, s5, s6, s7, s8, s9⟩
                        go_simp
                        with_reducible rfl
                      rotate_left
                      · simp only [Act.put, List.setIfInBounds_toArray, List.set_cons_zero, List.set_cons_succ, i64_w, i32_w]
                        rfl
                      refine take_ (i := 19) (N := some 178) (v := ?_) (a' := ?_) #[true, true, true, true, true, true, true, true, true, true, true, true, true, true, true, true, true, false, false, true, true, false, false, false, false, false] rfl rfl (take_ofW HT_.out HW_.out (by kernel_rfl)) (fun _ _ _ h => h) (Or.inl ⟨by rfl, ?_⟩) hHeld ?_ ?_
                      rotate_left
                      · rintro w' ⟨s0, s1, s2, s3, s4, s5, s6, s7, s8, s9⟩
                        go_simp
                        with_reducible rfl
                      rotate_left
                      · simp only [Act.put, List.setIfInBounds_toArray, List.set_cons_zero, List.set_cons_succ, i64_w, i32_w]
                        rfl
                      refine one_ (i := 17) (N := some 176) #[true, true, true, true, true, true, true, true, true, true, true, true, true, true, true, true, true, true, false, true, true, false, false, false, false, false] rfl rfl (one_of HT_.out (by kernel_rfl)) (by decide) (fun K hK => ?_)
                      refine goes_ Tryd.func12 (by kernel_rfl) rfl #[.int .i64 (j : Int)] (by rfl) rfl rfl (by simp only [List.map_toArray, List.map_cons, List.map_nil]; rfl) ?_
                      with_reducible refine (HW.out _).mono ?_
                      rintro e w9 ⟨rfl, hb⟩
                      refine ⟨_, rfl, ?_⟩
                      have n_HB := Lib.hid (below_step HB.out hb)
                      have n_HXR := Lib.hid (HXR.out.below hb)
                      have n_HXS := Lib.hid (HXS.out.below hb)
                      have n_HRR := Lib.hid (HRR.out.below hb)
                      have n_HRS := Lib.hid (HRS.out.below hb)
                      clear hb HB HXR HXS HRR HRS
                      have HB := n_HB
                      clear n_HB
                      have HXR := n_HXR
                      clear n_HXR
                      have HXS := n_HXS
                      clear n_HXS
                      have HRR := n_HRR
                      clear n_HRR
                      have HRS := n_HRS
                      clear n_HRS
                      refine hK.out _ _ ⟨HXR.out.cell.1, HXR.out.cell.2.1, HXR.out.cell.2.2.1, HXR.out.cell.2.2.2.1, HXR.out.cell.2.2.2.2, HXS.out.cell.1, HXS.out.cell.2.1, HXS.out.cell.2.2.1, HXS.out.cell.2.2.2.1, HXS.out.cell.2.2.2.2⟩ (fun hHeld => ?_)
                      clear hK K
                      refine norm_ (a' := ?_) ?_ ?_
                      rotate_left
                      · show Act.put _ (some 176) _ = _
                        simp only [Act.put, List.setIfInBounds_toArray, List.set_cons_zero, List.set_cons_succ, i64_w, i32_w]
                        rfl
                      refine one_ (i := 18) (N := some 177) #[true, true, true, true, true, true, true, true, true, true, true, true, true, true, true, true, true, true, true, true, true, false, false, false, false, false] rfl rfl (one_of HT_.out (by kernel_rfl)) (by decide) (fun K hK => ?_)
                      refine goes_ Tryd.func16 (by kernel_rfl) rfl #[.agg #[.string R.o, .string R.f, .int .i64 R.e, .slice A3 R.rs.length c3, .slice A4 R.ws.length c4], .string v, .bool true] (by rfl) rfl rfl (by simp only [List.map_toArray, List.map_cons, List.map_nil]; rfl) ?_
                      with_reducible refine (HCst.out _ HB.out HRS.out).mono ?_
                      rintro e w9 ⟨rfl, hb⟩
                      refine ⟨_, rfl, ?_⟩
                      have n_HB := Lib.hid (below_step HB.out hb)
                      have n_HXR := Lib.hid (HXR.out.below hb)
                      have n_HXS := Lib.hid (HXS.out.below hb)
                      have n_HRR := Lib.hid (HRR.out.below hb)
                      have n_HRS := Lib.hid (HRS.out.below hb)
                      clear hb HB HXR HXS HRR HRS
                      have HB := n_HB
                      clear n_HB
                      have HXR := n_HXR
                      clear n_HXR
                      have HXS := n_HXS
                      clear n_HXS
                      have HRR := n_HRR
                      clear n_HRR
                      have HRS := n_HRS
                      clear n_HRS
                      refine hK.out _ _ ⟨HXR.out.cell.1, HXR.out.cell.2.1, HXR.out.cell.2.2.1, HXR.out.cell.2.2.2.1, HXR.out.cell.2.2.2.2, HXS.out.cell.1, HXS.out.cell.2.1, HXS.out.cell.2.2.1, HXS.out.cell.2.2.2.1, HXS.out.cell.2.2.2.2⟩ (fun hHeld => ?_)
                      clear hK K
                      refine norm_ (a' := ?_) ?_ ?_
                      rotate_left
                      · show Act.put _ (some 177) _ = _
                        simp only [Act.put, List.setIfInBounds_toArray, List.set_cons_zero, List.set_cons_succ, i64_w, i32_w]
                        rfl
                      refine one_ (i := 21) (N := some 180) #[true, true, true, true, true, true, true, true, true, true, true, true, true, true, true, true, true, true, true, true, true, true, false, false, false, false] rfl rfl (one_of HT_.out (by kernel_rfl)) (by decide) (fun K hK => ?_)
                      refine goes_ Tryd.func12 (by kernel_rfl) rfl #[.int .i64 (j : Int)] (by rfl) rfl rfl (by simp only [List.map_toArray, List.map_cons, List.map_nil]; rfl) ?_
                      with_reducible refine (HW.out _).mono ?_
                      rintro e w9 ⟨rfl, hb⟩
                      refine ⟨_, rfl, ?_⟩
                      have n_HB := Lib.hid (below_step HB.out hb)
                      have n_HXR := Lib.hid (HXR.out.below hb)
                      have n_HXS := Lib.hid (HXS.out.below hb)
                      have n_HRR := Lib.hid (HRR.out.below hb)
                      have n_HRS := Lib.hid (HRS.out.below hb)
                      clear hb HB HXR HXS HRR HRS
                      have HB := n_HB
                      clear n_HB
                      have HXR := n_HXR
                      clear n_HXR
                      have HXS := n_HXS
                      clear n_HXS
                      have HRR := n_HRR
                      clear n_HRR
                      have HRS := n_HRS
                      clear n_HRS
                      refine hK.out _ _ ⟨HXR.out.cell.1, HXR.out.cell.2.1, HXR.out.cell.2.2.1, HXR.out.cell.2.2.2.1, HXR.out.cell.2.2.2.2, HXS.out.cell.1, HXS.out.cell.2.1, HXS.out.cell.2.2.1, HXS.out.cell.2.2.2.1, HXS.out.cell.2.2.2.2⟩ (fun hHeld => ?_)
                      clear hK K
                      refine norm_ (a' := ?_) ?_ ?_
                      rotate_left
                      · show Act.put _ (some 180) _ = _
                        simp only [Act.put, List.setIfInBounds_toArray, List.set_cons_zero, List.set_cons_succ, i64_w, i32_w]
                        rfl
                      refine one_ (i := 22) (N := some 181) #[true, true, true, true, true, true, true, true, true, true, true, true, true, true, true, true, true, true, true, true, true, true, true, false, false, false] rfl rfl (one_of HT_.out (by kernel_rfl)) (by decide) (fun K hK => ?_)
                      refine goes_ Tryd.func16 (by kernel_rfl) rfl #[.agg #[.string r.o, .string r.f, .int .i64 r.e, .slice A1 r.rs.length c1, .slice A2 r.ws.length c2], .string v, .bool true] (by rfl) rfl rfl (by simp only [List.map_toArray, List.map_cons, List.map_nil]; rfl) ?_
                      with_reducible refine (HCrt.out _ HB.out HRR.out).mono ?_
                      rintro e w9 ⟨rfl, hb⟩
                      refine ⟨_, rfl, ?_⟩
                      have n_HB := Lib.hid (below_step HB.out hb)
                      have n_HXR := Lib.hid (HXR.out.below hb)
                      have n_HXS := Lib.hid (HXS.out.below hb)
                      have n_HRR := Lib.hid (HRR.out.below hb)
                      have n_HRS := Lib.hid (HRS.out.below hb)
                      clear hb HB HXR HXS HRR HRS
                      have HB := n_HB
                      clear n_HB
                      have HXR := n_HXR
                      clear n_HXR
                      have HXS := n_HXS
                      clear n_HXS
                      have HRR := n_HRR
                      clear n_HRR
                      have HRS := n_HRS
                      clear n_HRS
                      refine hK.out _ _ ⟨HXR.out.cell.1, HXR.out.cell.2.1, HXR.out.cell.2.2.1, HXR.out.cell.2.2.2.1, HXR.out.cell.2.2.2.2, HXS.out.cell.1, HXS.out.cell.2.1, HXS.out.cell.2.2.1, HXS.out.cell.2.2.2.1, HXS.out.cell.2.2.2.2⟩ (fun hHeld => ?_)
                      clear hK K
                      refine norm_ (a' := ?_) ?_ ?_
                      rotate_left
                      · show Act.put _ (some 181) _ = _
                        simp only [Act.put, List.setIfInBounds_toArray, List.set_cons_zero, List.set_cons_succ, i64_w, i32_w]
                        rfl
                      refine pure_ (i := 23) (N := some 182) (v := ?_) (a' := ?_) #[true, true, true, true, true, true, true, true, true, true, true, true, true, true, true, true, true, true, true, true, true, true, true, true, false, false] rfl rfl (any_of HT_.out (by kernel_rfl)) (fun _ _ _ h => h) (Or.inl ⟨by rfl, ?_⟩) ?_ ?_
                      rotate_left
                      · intro w'
                        go_simp
                        with_reducible rfl
                      rotate_left
                      · simp only [Act.put, List.setIfInBounds_toArray, List.set_cons_zero, List.set_cons_succ, i64_w, i32_w]
                        rfl
                      refine pure_ (i := 24) (N := some 183) (v := ?_) (a' := ?_) #[true, true, true, true, true, true, true, true, true, true, true, true, true, true, true, true, true, true, true, true, true, true, true, true, true, false] rfl rfl (any_of HT_.out (by kernel_rfl)) (fun _ _ _ h => h) (Or.inl ⟨by rfl, ?_⟩) ?_ ?_
                      rotate_left
                      · intro w'
                        go_simp
                        with_reducible rfl
                      rotate_left
                      · simp only [Act.put, List.setIfInBounds_toArray, List.set_cons_zero, List.set_cons_succ, i64_w, i32_w]
                        rfl
                      refine pure_ (i := 25) (N := some 184) (v := ?_) (a' := ?_) #[true, true, true, true, true, true, true, true, true, true, true, true, true, true, true, true, true, true, true, true, true, true, true, true, true, true] rfl rfl (any_of HT_.out (by kernel_rfl)) (fun _ _ _ h => h) (Or.inl ⟨by rfl, ?_⟩) ?_ ?_
                      rotate_left
                      · intro w'
                        go_simp
                        with_reducible rfl
                      rotate_left
                      · simp only [Act.put, List.setIfInBounds_toArray, List.set_cons_zero, List.set_cons_succ, i64_w, i32_w]
                        rfl
                      refine done_ (done_of HT_.out (by kernel_rfl)) ?_
                      go_wp2
                      go_roundw
                      case rel => exact ⟨j + 1, by omega, by go_num, HB.out, HXR.out, HXS.out, HRR.out, HRS.out⟩
                      case measure => simp [intOf]; omega
                  · obtain rfl : j = 8 := by omega
                    obtain ⟨x0, x1, x2, x3, x4⟩ := HXR.out.cell
                    have z0 := HXR.out.free 0
                    have z1 := HXR.out.free 1
                    have z2 := HXR.out.free 2
                    have z3 := HXR.out.free 3
                    have z4 := HXR.out.free 4
                    obtain ⟨y0, y1, y2, y3, y4⟩ := HXS.out.cell
                    go_wp2
                    go_roundw
                    case rel => exact ⟨k + 1, by omega, by go_num, BoxAt.put_below HB.out HRB.out R _ _, HRB.out, R, A3, c3, A4, c4, HXR.out.put R _ _, (RowsAt.put HRS.out (Nat.lt_succ_of_lt HRS2.out) _ _ _ _ _).lower (Nat.zero_le _), HGD.out⟩
                    case measure => simp [intOf]; omega
      · go_wp2
        go_ret
        exact ⟨rfl, HB.out⟩

theorem do_law (A : Option Addr) (c : Nat) (l : List (Int × Int)) (w : World) (HTB : Aside0 (Tabs w)) (hr : Kd.C actK w A l.length l) (g : l.length ≤ 9223372036854775807 ∧ ∀ a ∈ l, (Lit.int .i64 a.1).wf = true ∧ (Lit.int .i64 a.2).wf = true) :
    Calls Tryd.prog 3 #[.slice A l.length c] w fun e w' => e = .returned (.bool true) ∧ Below w.heap.size w w' := do_any A c l w HTB hr g.1 (acts_ok g.2)

end Go.Proofs.YtfhanoloaejmkaaDoor
