/- RightsEnd: the walk. -/
import Derived.Test.YtfhanoloaejmkaaDoorActs
import Derived.LoopTactic
namespace Go.Proofs.YtfhanoloaejmkaaDoor
open Go.RowKit Go.Proofs.YtfhanoloaejmkaaDoorW.PrintWords Go.Proofs.YtfhanoloaejmkaaDoorW.PrintLast Go.Proofs.YtfhanoloaejmkaaDoor.Ref
set_option linter.unusedVariables false
set_option linter.unusedSimpArgs false

/-- Rights that nobody but the owner has, in the epoch i. -/
def rE (i : Int) : Rt := ⟨anna, notes, i, [], []⟩
theorem rE_right {i : Int} (h : 0 ≤ i ∧ i ≤ 7) : rightR (rE i) = true :=
  right_mk (r := rE i) (show rightN (bytes anna) = true by decide +kernel) (show rightN (bytes notes) = true by decide +kernel) h (by simp [rE]) rfl rfl (by simp [rE]) (by simp [rE]) (by simp [rE])
theorem rE_can {i : Int} (h : 0 ≤ i ∧ i ≤ 7) {u : ByteArray} (hn : u ≠ anna) : canF (rE i) u false = false := by
  rw [can_read (rE_right h), decide_eq_false_iff_not]
  rintro (h | h | h)
  · exact hn h
  · exact absurd h (by simp [rE])
  · exact absurd h (by simp [rE])
theorem end_right {i : Int} (h : 0 ≤ i ∧ i ≤ 7) {u : ByteArray} (hu : rightN (bytes u) = true) (hn : u ≠ anna) (b : Bool) : rightR (putIn (rE i) u b) = true :=
  put_right (rE_right h) hu (rE_can h hn) (by simp [rE]) b
theorem end_struck {i : Int} (h : 0 ≤ i ∧ i ≤ 7) {u : ByteArray} (b : Bool) : struck (putIn (rE i) u b) u = rE (i + 1) := by
  cases b
  · show (⟨anna, notes, i + 1, dropL (insL [] u) u, []⟩ : Rt) = _
    rw [drop_ins (by simp)]; rfl
  · show (⟨anna, notes, i + 1, [], dropL (insL [] u) u⟩ : Rt) = _
    rw [drop_ins (by simp)]; rfl
theorem end_grantF {i : Int} (h : 0 ≤ i ∧ i ≤ 7) {u : ByteArray} (hu : rightN (bytes u) = true) (hn : u ≠ anna) (b : Bool) : grantF (rE i) u b = (putIn (rE i) u b, 0) := by
  rw [grant_cases (rE_right h) hu, if_neg (by rw [rE_can h hn]; simp), if_neg (by simp [rE])]
theorem end_e {i : Int} (u : ByteArray) (b : Bool) : (putIn (rE i) u b).e = i := by cases b <;> rfl
theorem end_o {i : Int} (u : ByteArray) (b : Bool) : (putIn (rE i) u b).o = anna := by cases b <;> rfl
theorem end_revokeF {i : Int} (h : 0 ≤ i ∧ i < 7) {u : ByteArray} (hu : rightN (bytes u) = true) (hn : u ≠ anna) (b : Bool) : revokeF (putIn (rE i) u b) u = (rE (i + 1), 0) := by
  have h' : 0 ≤ i ∧ i ≤ 7 := by omega
  have hc := put_can (rE_right h') (end_right h' hu hn b) (rE_can h' hn)
  rw [revoke_cases (end_right h' hu hn b) hu, if_pos ⟨hc.1, by rw [end_o]; exact hn⟩, end_e, if_neg (by omega), end_struck h']
theorem end_last {u : ByteArray} (hu : rightN (bytes u) = true) (hn : u ≠ anna) (b : Bool) : revokeF (putIn (rE 7) u b) u = (noRt, 9) := by
  have h' : 0 ≤ (7 : Int) ∧ (7 : Int) ≤ 7 := by omega
  have hc := put_can (rE_right h') (end_right h' hu hn b) (rE_can h' hn)
  rw [revoke_cases (end_right h' hu hn b) hu, if_pos ⟨hc.1, by rw [end_o]; exact hn⟩, end_e, if_pos rfl]
theorem end_none {u : ByteArray} (hu : rightN (bytes u) = true) (hn : u ≠ anna) : revokeF (rE 7) u = (noRt, 4) := by
  have h' : 0 ≤ (7 : Int) ∧ (7 : Int) ≤ 7 := by omega
  rw [revoke_cases (rE_right h') hu, if_neg (fun h => by rw [rE_can h' hn] at h; exact absurd h.1 (by simp))]
theorem end_can {u : ByteArray} (hu : rightN (bytes u) = true) (hn : u ≠ anna) : canF (putIn (rE 7) u true) u true = true := by
  have h' : 0 ≤ (7 : Int) ∧ (7 : Int) ≤ 7 := by omega
  exact (put_can (rE_right h') (end_right h' hu hn true) (rE_can h' hn)).2.1
theorem who_good (c : Int) : rightN (bytes (whoF c)) = true := by
  have h := pick_lt c (n := 8) (by omega)
  unfold whoF
  generalize pickN c 8 = k at *
  match k, h with
  | 0, _ => decide +kernel
  | 1, _ => decide +kernel
  | 2, _ => decide +kernel
  | 3, _ => decide +kernel
  | 4, _ => decide +kernel
  | 5, _ => decide +kernel
  | 6, _ => decide +kernel
  | 7, _ => decide +kernel
  | k + 8, h => exact absurd h (by omega)
theorem end_who (p : Nat) (h : p < 7) : whoF (1 + (p : Int)) ≠ anna := by
  have : ∀ p : Fin 7, whoF (1 + ((p : Nat) : Int)) ≠ anna := by decide +kernel
  exact this ⟨p, h⟩

/-- Rights just told are put into a new box. -/
theorem told_box {w w2 : World} {B : Nat} {R : Rt} {A : Option Addr} {c : Nat} {A' : Option Addr} {c' : Nat} (hb : Below w.heap.size w w2) (h : RowsAt w2 B R A c A' c') :
    Below w.heap.size w (w2.alloc (Obj.cells #[Value.string R.o, Value.string R.f, Value.int IntKind.i64 R.e, .slice A R.rs.length c, .slice A' R.ws.length c'] 26)) ∧
    RowsAt (w2.alloc (Obj.cells #[Value.string R.o, Value.string R.f, Value.int IntKind.i64 R.e, .slice A R.rs.length c, .slice A' R.ws.length c'] 26)) B R A c A' c' :=
  ⟨below_alloc hb _, h.below (below_alloc (Below.refl _ _) _)⟩

theorem end_grant (i : Nat) (hi : i ≤ 7) {u : ByteArray} (hu : rightN (bytes u) = true) (hn : u ≠ anna) {r : Rt} (hr : r = rE i) (b : Bool) (A : Option Addr) (c : Nat) (A' : Option Addr) (c' : Nat) (w : World) (HTB : Aside0 (Tabs w)) {B : Nat} (h : RowsAt w B r A c A' c') :
    Calls Tryd.prog 14 #[.agg #[.string r.o, .string r.f, .int .i64 r.e, .slice A r.rs.length c, .slice A' r.ws.length c'], .string u, .bool b] w fun e w' => ∃ S, S = putIn (rE i) u b ∧ Told w (S, 0) e w' := by
  subst hr
  have h1 := grant_call (rE i) u b A c A' c' w HTB (right_small (rE_right (by omega))) (name_small hu) h
  rw [end_grantF (by omega) hu hn] at h1
  exact h1.mono fun e w' h => ⟨_, rfl, h⟩
theorem end_revoke (i : Nat) (hi : i < 7) {u : ByteArray} (hu : rightN (bytes u) = true) (hn : u ≠ anna) {S : Rt} (hS : ∃ b, S = putIn (rE i) u b) (A : Option Addr) (c : Nat) (A' : Option Addr) (c' : Nat) (w : World) (HTB : Aside0 (Tabs w)) {B : Nat} (h : RowsAt w B S A c A' c') :
    Calls Tryd.prog 15 #[.agg #[.string S.o, .string S.f, .int .i64 S.e, .slice A S.rs.length c, .slice A' S.ws.length c'], .string u] w fun e w' => ∃ T, T = rE ((i + 1 : Nat) : Int) ∧ Told w (T, 0) e w' := by
  obtain ⟨b, rfl⟩ := hS
  have h1 := revoke_call _ u A c A' c' w HTB (right_small (end_right (by omega) hu hn b)) (name_small hu) h
  rw [end_revokeF (by omega) hu hn] at h1
  exact h1.mono fun e w' h => ⟨_, rfl, h⟩
theorem end_revoke7 {u : ByteArray} (hu : rightN (bytes u) = true) (hn : u ≠ anna) {S : Rt} (hS : S = putIn (rE (7 : Nat)) u true) (A : Option Addr) (c : Nat) (A' : Option Addr) (c' : Nat) (w : World) (HTB : Aside0 (Tabs w)) {B : Nat} (h : RowsAt w B S A c A' c') :
    Calls Tryd.prog 15 #[.agg #[.string S.o, .string S.f, .int .i64 S.e, .slice A S.rs.length c, .slice A' S.ws.length c'], .string u] w (Told w (noRt, 9)) := by
  subst hS
  have h1 := revoke_call _ u A c A' c' w HTB (right_small (end_right (by omega) hu hn true)) (name_small hu) h
  rwa [show ((7 : Nat) : Int) = 7 from rfl, end_last hu hn] at h1
theorem end_revokeN {u : ByteArray} (hu : rightN (bytes u) = true) (hn : u ≠ anna) {r : Rt} (hr : r = rE (7 : Nat)) (A : Option Addr) (c : Nat) (A' : Option Addr) (c' : Nat) (w : World) (HTB : Aside0 (Tabs w)) {B : Nat} (h : RowsAt w B r A c A' c') :
    Calls Tryd.prog 15 #[.agg #[.string r.o, .string r.f, .int .i64 r.e, .slice A r.rs.length c, .slice A' r.ws.length c'], .string u] w (Told w (noRt, 4)) := by
  subst hr
  have h1 := revoke_call _ u A c A' c' w HTB (right_small (rE_right (by omega))) (name_small hu) h
  rwa [show ((7 : Nat) : Int) = 7 from rfl, end_none hu hn] at h1
theorem end_can7 {u : ByteArray} (hu : rightN (bytes u) = true) (hn : u ≠ anna) {S : Rt} (hS : S = putIn (rE (7 : Nat)) u true) (A : Option Addr) (c : Nat) (A' : Option Addr) (c' : Nat) (w : World) (HTB : Aside0 (Tabs w)) {B : Nat} (h : RowsAt w B S A c A' c') :
    Calls Tryd.prog 16 #[.agg #[.string S.o, .string S.f, .int .i64 S.e, .slice A S.rs.length c, .slice A' S.ws.length c'], .string u, .bool true] w fun e w' => e = .returned (.bool true) ∧ Below w.heap.size w w' := by
  subst hS
  have h1 := can_call _ u true A c A' c' w HTB (right_small (end_right (by omega) hu hn true)) h
  rwa [show ((7 : Nat) : Int) = 7 from rfl, end_can hu hn] at h1
def EndRel (w : World) (RB : Nat) (i : Nat) (wr : World) : Prop := Below w.heap.size w wr ∧ ∃ r A1 c1 A2 c2, r = rE i ∧ BoxAt wr RB r (.slice A1 r.rs.length c1) (.slice A2 r.ws.length c2) ∧ RowsAt wr 0 r A1 c1 A2 c2

set_option maxHeartbeats 4000000 in
set_option maxRecDepth 100000 in
theorem end_any (user : Int) (w : World) (HTB : Aside0 (Tabs w)) (hw : (Lit.int .i64 user).wf = true) :
    Calls Tryd.prog 5 #[.int .i64 user] w fun e w' => e = .returned (.bool true) ∧ Below w.heap.size w w' := by
  have H1 := Lib.hid (shown_call w HTB)
  have hur := i64_wf hw
  clear hw
  have HPK : Hid (∀ W : World, Calls Tryd.prog 13 #[.int .i64 user, .int .i64 7] W fun e w' => e = .returned (.int .i64 (pickN user 7 : Nat)) ∧ Below W.heap.size W w') := fun W => pick_call user 7 W (by omega) (by omega) hur
  have hp7 := pick_lt user (n := 7) (by omega)
  generalize pickN user 7 = p at HPK hp7
  have HWH := Lib.hid (fun W => who_call (1 + (p : Int)) W (by omega))
  have HN := Lib.hid (end_who p hp7)
  have HU := Lib.hid (who_good (1 + (p : Int)))
  generalize whoF (1 + (p : Int)) = u at HWH HN HU
  go_enter Tryd.func5, Tryd.ntmps5
  go_wp2_with fail
  refine H1.out.mono ?_
  rintro e w1 ⟨rfl, hb⟩
  have HB1 := Lib.hid hb
  have H2 := Lib.hid (new_call anna notes w1 ⟨HTB.out.below hb⟩ (by decide +kernel) (by decide +kernel))
  rw [new0] at H2
  clear hb H1
  go_wp2_with fail
  refine H2.out.mono ?_
  rintro e w2 ⟨A1, c1, A2, c2, rfl, hr2, hb2⟩
  obtain ⟨hb3, hr3⟩ := told_box hb2 hr2
  have HX3 := Lib.hid (box_new w2 r0 (.slice A1 r0.rs.length c1) (.slice A2 r0.ws.length c2))
  have HB3 := Lib.hid (below_step HB1.out hb3)
  have HR3 := Lib.hid hr3
  have HLT : Hid (w.heap.size ≤ w2.heap.size) := (below_step HB1.out hb2).size
  clear hb2 hr2 H2 HB1 hb3 hr3
  go_wp2_with fail
  refine (HPK.out _).mono ?_
  rintro e w4 ⟨rfl, hb⟩
  have HB4 := Lib.hid (below_step HB3.out hb)
  have HX4 := Lib.hid (HX3.out.below hb)
  have HR4 := Lib.hid (HR3.out.below hb)
  clear hb HB3 HX3 HR3 HPK
  go_wp2_with fail
  refine (HWH.out _).mono ?_
  rintro e w5 ⟨rfl, hb⟩
  have HB5 := Lib.hid (below_step HB4.out hb)
  have HX5 := Lib.hid (HX4.out.below hb)
  have HR5 := Lib.hid (HR4.out.below hb)
  clear hb HB4 HX4 HR4 HWH
  go_wp2_with fail
  generalize w2.heap.size = RB at HLT HX5 ⊢
  have HG := Lib.hid (show ∃ r A1 c1 A2 c2, r = rE ((0 : Nat) : Int) ∧ BoxAt w5 RB r (.slice A1 r.rs.length c1) (.slice A2 r.ws.length c2) ∧ RowsAt w5 0 r A1 c1 A2 c2 from ⟨r0, A1, c1, A2, c2, rfl, HX5.out, HR5.out.lower (Nat.zero_le _)⟩)
  clear HX5 HR5
  go_loopw [7] (fun j wr => ∃ i : Nat, i ≤ 7 ∧ j = .int .i64 i ∧ EndRel w RB i wr) (fun j _ => 7 - (intOf j).toNat)
  case atStart => exact ⟨0, Nat.zero_le _, rfl, HB5.out, HG.out⟩
  case round =>
    clear HB5 HG
    obtain ⟨i, hi, rfl, hB, r, A1, c1, A2, c2, hr, hX, hR⟩ := hrel
    have Hr := Lib.hid hr
    have HB := Lib.hid hB
    have HXR := Lib.hid hX
    have HRR := Lib.hid hR
    clear hr hB hX hR
    by_cases hi7 : i < 7
    · obtain ⟨x0, x1, x2, x3, x4⟩ := HXR.out.cell
      go_wp2_with fail
      refine (end_grant i (by omega) HU.out HN.out Hr.out _ A1 c1 A2 c2 _ ⟨HTB.out.below HB.out⟩ HRR.out).mono ?_
      rintro e w6 ⟨S, hS, A3, c3, A4, c4, rfl, hr6, hb6⟩
      clear x0 x1 x2 x3 x4
      obtain ⟨hb7, hr7⟩ := told_box hb6 hr6
      have HXS := Lib.hid (box_new w6 S (.slice A3 S.rs.length c3) (.slice A4 S.ws.length c4))
      have HB7 := Lib.hid (below_step HB.out hb7)
      have HXR7 := Lib.hid (HXR.out.below hb7)
      have HRS := Lib.hid hr7
      have HSS := Lib.hid (show ∃ b, S = putIn (rE i) u b from ⟨_, hS⟩)
      clear hr6 hb6 hb7 hr7 hS HB HXR HRR
      obtain ⟨y0, y1, y2, y3, y4⟩ := HXS.out.cell
      go_wp2_with fail
      refine (end_revoke i hi7 HU.out HN.out HSS.out A3 c3 A4 c4 _ ⟨HTB.out.below HB7.out⟩ HRS.out).mono ?_
      rintro e w8 ⟨T, hT, A5, c5, A6, c6, rfl, hr8, hb8⟩
      have HT := Lib.hid hT
      clear y0 y1 y2 y3 y4
      obtain ⟨hb9, hr9⟩ := told_box hb8 hr8
      have HXT := Lib.hid (box_new w8 T (.slice A5 T.rs.length c5) (.slice A6 T.ws.length c6))
      have HB9 := Lib.hid (below_step HB7.out hb9)
      have HXR9 := Lib.hid (HXR7.out.below hb9)
      have HRT := Lib.hid hr9
      have hlt := HXR7.out.lt
      have hlt8 := hb8.size
      have hne1 : ¬ RB = w8.heap.size := by omega
      have hne2 : ¬ w8.heap.size = RB := by omega
      have HLT9 := Lib.hid hlt
      clear hr8 hb8 hb9 hr9 HB7 HXR7 HRS hlt hlt8
      obtain ⟨y0, y1, y2, y3, y4⟩ := HXT.out.cell
      obtain ⟨x0, x1, x2, x3, x4⟩ := HXR9.out.cell
      have z0 := HXR9.out.free 0
      have z1 := HXR9.out.free 1
      have z2 := HXR9.out.free 2
      have z3 := HXR9.out.free 3
      have z4 := HXR9.out.free 4
      have hEb : (T.e != (i : Int) + 1) = false := by rw [hT]; simp [rE]
      clear hT
      go_wp2
      go_roundw
      case rel => exact ⟨i + 1, by omega, by go_num, BoxAt.put_below HB9.out HLT.out T _ _, T, A5, c5, A6, c6, HT.out, HXR9.out.put T _ _, (RowsAt.put HRT.out HLT9.out _ _ _ _ _).lower (Nat.zero_le _)⟩
      case measure => simp [intOf]; omega
    · obtain rfl : i = 7 := by omega
      clear hi hi7
      obtain ⟨x0, x1, x2, x3, x4⟩ := HXR.out.cell
      go_wp2_with fail
      refine (end_grant 7 (by omega) HU.out HN.out Hr.out _ A1 c1 A2 c2 _ ⟨HTB.out.below HB.out⟩ HRR.out).mono ?_
      rintro e w6 ⟨S, hS, A3, c3, A4, c4, rfl, hr6, hb6⟩
      clear x0 x1 x2 x3 x4
      obtain ⟨hb7, hr7⟩ := told_box hb6 hr6
      have HXS := Lib.hid (box_new w6 S (.slice A3 S.rs.length c3) (.slice A4 S.ws.length c4))
      have HB7 := Lib.hid (below_step HB.out hb7)
      have HXR7 := Lib.hid (HXR.out.below hb7)
      have HRS := Lib.hid hr7
      have HRR7 := Lib.hid (HRR.out.below hb7)
      have HSS := Lib.hid hS
      have HSe := Lib.hid (show (S.e == 7) = true by rw [hS, end_e]; rfl)
      clear hr6 hb6 hb7 hr7 hS HB HXR HRR
      obtain ⟨y0, y1, y2, y3, y4⟩ := HXS.out.cell
      go_wp2_with fail
      refine (end_revoke7 HU.out HN.out HSS.out A3 c3 A4 c4 _ ⟨HTB.out.below HB7.out⟩ HRS.out).mono ?_
      rintro e w8 ⟨A5, c5, A6, c6, rfl, hr8, hb8⟩
      clear y0 y1 y2 y3 y4
      obtain ⟨hb9, hr9⟩ := told_box hb8 hr8
      have HB9 := Lib.hid (below_step HB7.out hb9)
      have HXR9 := Lib.hid (HXR7.out.below hb9)
      have HXS9 := Lib.hid (HXS.out.below hb9)
      have HRS9 := Lib.hid (HRS.out.below hb9)
      have HRR9 := Lib.hid (HRR7.out.below hb9)
      clear hr8 hb8 hb9 hr9 HB7 HXR7 HXS HRS HRR7
      obtain ⟨x0, x1, x2, x3, x4⟩ := HXR9.out.cell
      go_wp2_with fail
      refine (end_revokeN HU.out HN.out Hr.out A1 c1 A2 c2 _ ⟨HTB.out.below HB9.out⟩ HRR9.out).mono ?_
      rintro e w10 ⟨A7, c7, A8, c8, rfl, hr10, hb10⟩
      clear x0 x1 x2 x3 x4
      obtain ⟨hb11, hr11⟩ := told_box hb10 hr10
      have HB11 := Lib.hid (below_step HB9.out hb11)
      have HXS11 := Lib.hid (HXS9.out.below hb11)
      have HRS11 := Lib.hid (HRS9.out.below hb11)
      clear hr10 hb10 hb11 hr11 HB9 HXR9 HXS9 HRS9 HRR9
      obtain ⟨y0, y1, y2, y3, y4⟩ := HXS11.out.cell
      have hSb := HSe.out
      go_wp2_with fail
      refine (end_can7 HU.out HN.out HSS.out A3 c3 A4 c4 _ ⟨HTB.out.below HB11.out⟩ HRS11.out).mono ?_
      rintro e w12 ⟨rfl, hb⟩
      have HB12 := Lib.hid (below_step HB11.out hb)
      clear hb HB11 HXS11 HRS11 y0 y1 y2 y3 y4
      go_wp2
      go_ret
      exact ⟨rfl, HB12.out⟩

end Go.Proofs.YtfhanoloaejmkaaDoor
