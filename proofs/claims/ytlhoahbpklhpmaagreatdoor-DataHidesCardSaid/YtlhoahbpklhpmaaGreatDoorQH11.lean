/- Contracts and laws that the statement of LawDataHides leans on (packed from this claim's own texts): part 11. -/
import Derived.Test.YtlhoahbpklhpmaaGreatDoorProg
import Derived.Below
import Derived.Deep.Draws
import Derived.Deep.AppendLies
import Derived.Maps.AppendAt
import Derived.OwnWalk
import Derived.Laws.BytesArg
import Derived.Laws.MakeOwn
import Derived.Laws.OwnMore
import Derived.Deep.OwnRows
import Derived.Tactics
import Derived.Lib.ConvBytes
import Derived.Laws.Slices
import Derived.WalkKit
import Derived.KernelRfl
import Derived.RowKit3
import Derived.Deep.LoopGhost
import Derived.Deep.QuietTactic
import Derived.BigQuiet
import Derived.WideLaws
import Derived.Deep.DeepCutAuto
import Derived.Deep.CutBlock
import Derived.Deep.RegionHeld3
import Derived.Laws.Rows
import Derived.Lib.AppendStr
import Derived.ArgAppend
import Derived.Laws.IdiomCopy
import Derived.OrdersHeld
import Derived.Laws.BitsLemmas
import Derived.RowKit
import Derived.Laws.StructEq
import Derived.Test.YtlhoahbpklhpmaaGreatDoorQH1
import Derived.Test.YtlhoahbpklhpmaaGreatDoorQH2
import Derived.Test.YtlhoahbpklhpmaaGreatDoorQH5
import Derived.Test.YtlhoahbpklhpmaaGreatDoorQH6
import Derived.Test.YtlhoahbpklhpmaaGreatDoorQH10
section

namespace Go.Proofs.YtlhoahbpklhpmaaGreatDoor
open Go.RowKit Go.Proofs.YtlhoahbpklhpmaaGreatDoorW.PrintWords Go.Proofs.YtlhoahbpklhpmaaGreatDoor.Ref
set_option linter.unusedVariables false
set_option linter.unusedSimpArgs false
theorem asw_parts (y : Value) (W : World) : Sem.run Tryz.prog (Instr.typeAssert (.iface 90 y) 75 94 true) W = .ok (.tuple #[.agg #[.string ⟨#[]⟩, .string ⟨#[]⟩], .bool false]) W := by kernel_rfl
theorem asw_number (y : Value) (W : World) : Sem.run Tryz.prog (Instr.typeAssert (.iface 118 y) 75 94 true) W = .ok (.tuple #[.agg #[.string ⟨#[]⟩, .string ⟨#[]⟩], .bool false]) W := by kernel_rfl
theorem asw_words (y : Value) (W : World) : Sem.run Tryz.prog (Instr.typeAssert (.iface 94 y) 75 94 true) W = .ok (.tuple #[y, .bool true]) W := by kernel_rfl
theorem asp_parts (y : Value) (W : World) : Sem.run Tryz.prog (Instr.typeAssert (.iface 90 y) 75 90 false) W = .ok y W := by kernel_rfl
set_option maxRecDepth 100000 in
theorem words_call (s : ByteArray) (hs : s.size ≤ 1000000) (w : World) :
  Calls Tryz.prog 48 #[.string s] w fun e w' => e = .returned (.tuple #[.string (wordsF s).1, .int .i64 (wordsF s).2]) ∧ Below w.heap.size w w' := by
 have HW := Lib.hid (whole_any s w (by omega))
 cases ht : termOf (bytes s) with
 | none =>
  rw [show wordsF s = (⟨#[]⟩, 1) from by unfold wordsF; rw [ht]]
  go_enter Tryz.func48, Tryz.ntmps48
  go_wp2_with fail
  refine HW.out.mono ?_
  rintro e w1 ⟨v, rfl, hv, hb⟩
  rw [ht] at hv
  obtain rfl : v = .nilIface := hv
  have HB := Lib.hid hb
  clear hb ht
  go_wp2
  go_ret2
  exact ⟨rfl, HB.out⟩
 | some t =>
  obtain ⟨R, hR⟩ : ∃ R, wordsF s = R := ⟨_, rfl⟩
  have HR : Hid (wordsF s = R) := hR
  rw [hR]
  clear hR
  go_enter Tryz.func48, Tryz.ntmps48
  go_wp2_with fail
  refine HW.out.mono ?_
  rintro e w1 ⟨v, rfl, hv, hb⟩
  rw [ht] at hv
  have hv : NodeAt w1 w.heap.size v t := hv
  have f1 := asw_parts
  have f2 := asw_number
  have f3 := asw_words
  have HB : Hid (∀ o, Below w.heap.size w (w1.alloc o)) := fun o => hb.alloc hb.size o
  clear hb
  cases t with
  | atom n =>
   obtain rfl := hv
   obtain rfl : R = (⟨#[]⟩, 2) := by rw [← HR.out]; unfold wordsF; rw [ht]
   clear ht
   simp only [leafVal]
   go_wp2
   go_ret2
   exact ⟨rfl, HB.out _⟩
  | text n =>
   obtain rfl := hv
   obtain rfl : R = (ofBytes n, 0) := by rw [← HR.out]; unfold wordsF; rw [ht]
   clear ht
   simp only [leafVal]
   go_wp2
   go_ret2
   exact ⟨rfl, HB.out _⟩
  | one k a =>
   obtain ⟨sv, rfl, ho⟩ := hv
   obtain rfl : R = (⟨#[]⟩, 2) := by rw [← HR.out]; unfold wordsF; rw [ht]
   clear ht
   generalize ofBytes (enc (T.one k a)) = qa at *
   go_wp2
   go_ret2
   exact ⟨rfl, HB.out _⟩
  | two k a b =>
   obtain ⟨sv, rfl, ho⟩ := hv
   obtain rfl : R = (⟨#[]⟩, 2) := by rw [← HR.out]; unfold wordsF; rw [ht]
   clear ht
   generalize ofBytes (enc (T.two k a b)) = qa at *
   go_wp2
   go_ret2
   exact ⟨rfl, HB.out _⟩
theorem nonempty_right {s : ByteArray} (h : right s = true) : 0 < s.size := by
 obtain ⟨t, h1, h2⟩ := right_inv h
 have := enc_pos t
 rw [← h2, bytes_length] at this
 exact this
theorem first_code {s : ByteArray} {t : T} (h : termOf (bytes s) = some t) : ∀ h : 0 < s.size, (s[0]'h).toNat = t.code.toNat := by
 obtain ⟨l, hl⟩ := enc_code t
 have hb0 : bytes s = t.code :: l := by rw [(termOf_inv h).1, hl]
 exact fun h => by rw [(bytes_cons hb0).2.2.1 h]
theorem toL (a b : ByteArray) : a.toList = b.toList ↔ a = b := ⟨fun h => bs_inj (by rwa [bytes_toList, bytes_toList] at h), fun h => by rw [h]⟩
theorem verify_seven {t : T} {a s : ByteArray} (h1 : right (tm t) = true) (h2 : right a = true) (h3 : right s = true) (hw : Wf t) (h : t.code.toNat ≠ 117) : verifyF (tm t) a s = 7 := by
 unfold verifyF
 rw [if_pos ⟨h1, h2, h3⟩, term_tm hw]
 cases t with
 | atom n => rfl
 | text n => rfl
 | two k x y => rfl
 | one k x =>
  cases k with
  | h => rfl
  | u => exact absurd rfl h
theorem verify_pub {t : T} {a s : ByteArray} (h1 : right (tm t) = true) (h2 : right a = true) (h3 : right s = true) (hw : Wf t) (h : t.code.toNat = 117) : verifyF (tm t) a s = if s = (⟨#[103]⟩ ++ (tm t).extract 1 (tm t).size) ++ a then 0 else 7 := by
 unfold verifyF
 rw [if_pos ⟨h1, h2, h3⟩, term_tm hw]
 cases t with
 | atom n => simp [T.code] at h
 | text n => simp [T.code] at h
 | two k x y => cases k <;> simp [T.code, K2.code] at h
 | one k x =>
  cases k with
  | h => simp [T.code, K1.code] at h
  | u =>
   have e : (bytes s = 103 :: (enc x ++ bytes a)) ↔ s = (⟨#[103]⟩ ++ (tm (.one .u x)).extract 1 (tm (.one .u x)).size) ++ a := by
    have hb : bytes ((⟨#[103]⟩ ++ (tm (.one .u x)).extract 1 (tm (.one .u x)).size) ++ a) = 103 :: (enc x ++ bytes a) := by
     rw [bytes_append, bytes_append, bytes_from, bytes_tm, bytes_one]
     rfl
    exact ⟨fun h => bs_inj (by rw [h, hb]), fun h => by rw [h, hb]⟩
   by_cases hs : bytes s = 103 :: (enc x ++ bytes a)
   ·rw [if_pos (e.1 hs)]
    simp only
    rw [if_pos hs]
   ·rw [if_neg (fun h => hs (e.2 h))]
    simp only
    rw [if_neg hs]
set_option maxRecDepth 100000 in
set_option maxHeartbeats 1000000 in
theorem verify_call (p a s : ByteArray) (hp : p.size ≤ 1000000) (ha : a.size ≤ 1000000) (hs : s.size ≤ 1000000) (w : World) :
  Calls Tryz.prog 43 #[.string p, .string a, .string s] w fun e w' => e = .returned (.int .i64 (verifyF p a s)) ∧ Below w.heap.size w w' := by
 cases hrp : right p with
 | false =>
  have HP := Lib.hid (whole_wrong p w (by omega) hrp)
  rw [show verifyF p a s = 1 from by unfold verifyF; rw [hrp, if_neg (by simp)]]
  clear hrp
  go_enter Tryz.func43, Tryz.ntmps43
  go_wp2_with fail
  refine HP.out.mono ?_
  rintro e w1 ⟨rfl, hb⟩
  have HB := Lib.hid hb
  clear hb
  go_wp2
  go_ret
  exact ⟨rfl, HB.out⟩
 | true =>
  have HP := Lib.hid (whole_right p w (by omega) hrp)
  cases hra : right a with
  | false =>
   have HA := Lib.hid (fun w => whole_wrong a w (by omega) hra)
   rw [show verifyF p a s = 1 from by unfold verifyF; rw [hra, if_neg (by simp)]]
   clear hrp hra
   go_enter Tryz.func43, Tryz.ntmps43
   go_wp2_with fail
   refine HP.out.mono ?_
   rintro e w1 ⟨ty, y, rfl, hb⟩
   have HB := Lib.hid hb
   clear hb
   go_wp2_with fail
   refine (HA.out _).mono ?_
   rintro e w2 ⟨rfl, hb⟩
   have HB := Lib.hid (below_step HB.out hb)
   clear hb
   go_wp2
   go_ret
   exact ⟨rfl, HB.out⟩
  | true =>
   have HA := Lib.hid (fun w => whole_right a w (by omega) hra)
   cases hrs : right s with
   | false =>
    have HS := Lib.hid (fun w => whole_wrong s w (by omega) hrs)
    rw [show verifyF p a s = 1 from by unfold verifyF; rw [hrs, if_neg (by simp)]]
    clear hrp hra hrs
    go_enter Tryz.func43, Tryz.ntmps43
    go_wp2_with fail
    refine HP.out.mono ?_
    rintro e w1 ⟨ty, y, rfl, hb⟩
    have HB := Lib.hid hb
    clear hb
    go_wp2_with fail
    refine (HA.out _).mono ?_
    rintro e w2 ⟨ty2, y2, rfl, hb⟩
    have HB := Lib.hid (below_step HB.out hb)
    clear hb
    go_wp2_with fail
    refine (HS.out _).mono ?_
    rintro e w3 ⟨rfl, hb⟩
    have HB := Lib.hid (below_step HB.out hb)
    clear hb
    go_wp2
    go_ret
    exact ⟨rfl, HB.out⟩
   | true =>
    have HS := Lib.hid (fun w => whole_right s w (by omega) hrs)
    obtain ⟨t, hw, rfl⟩ := right_tm_of hrp
    have hp0 := nonempty_right hrp
    have hc := first_code (term_tm hw)
    obtain ⟨R, hR⟩ : ∃ R, verifyF (tm t) a s = R := ⟨_, rfl⟩
    have hv7 := verify_seven hrp hra hrs hw
    have hv0 := verify_pub hrp hra hrs hw
    rw [hR] at hv7 hv0 ⊢
    clear hrp hra hrs hR
    generalize tm t = pp at *
    generalize t.code.toNat = cn at *
    clear hw
    have H7 := Lib.hid hv7
    have H0 := Lib.hid hv0
    clear hv7 hv0
    go_enter Tryz.func43, Tryz.ntmps43
    go_wp2_with fail
    refine HP.out.mono ?_
    rintro e w1 ⟨ty, y, rfl, hb⟩
    have HB := Lib.hid hb
    clear hb
    go_wp2_with fail
    refine (HA.out _).mono ?_
    rintro e w2 ⟨ty2, y2, rfl, hb⟩
    replace HB := Lib.hid (below_step HB.out hb)
    clear hb
    go_wp2_with fail
    refine (HS.out _).mono ?_
    rintro e w3 ⟨ty3, y3, rfl, hb⟩
    replace HB := Lib.hid (below_step HB.out hb)
    clear hb
    by_cases h117 : cn = 117
    ·subst h117
     have hv := H0.out rfl
     have HV := Lib.hid hv
     have hc1 : ∀ h : 0 < pp.size, ((pp[0]'h).toNat : Int) = 117 := fun h => by rw [hc h]; rfl
     clear hv H0 H7
     by_cases e : s = (⟨#[103]⟩ ++ pp.extract 1 pp.size) ++ a
     ·obtain rfl : R = 0 := by rw [HV.out, if_pos e]
      have hq : (s.toList == ((⟨#[103]⟩ ++ pp.extract 1 pp.size) ++ a).toList) = true := by rw [beq_iff_eq]; exact (toL _ _).2 e
      clear e
      go_wp2
      go_ret
      exact ⟨rfl, HB.out⟩
     ·obtain rfl : R = 7 := by rw [HV.out, if_neg e]
      have hq : (s.toList == ((⟨#[103]⟩ ++ pp.extract 1 pp.size) ++ a).toList) = false := by rw [beq_eq_false_iff_ne]; exact fun h => e ((toL _ _).1 h)
      clear e
      go_wp2
      go_ret
      exact ⟨rfl, HB.out⟩
    ·obtain rfl : R = 7 := H7.out h117
     have hne : ((cn : Int) == 117) = false := by rw [beq_eq_false_iff_ne]; omega
     have hne2 : ((cn : Int) != 117) = true := by rw [bne_iff_ne]; omega
     clear H0 H7
     go_wp2
     go_ret
     exact ⟨rfl, HB.out⟩
theorem node_parts {w : World} {base : Nat} {v : Value} {k : K2} {a b : T} (h : NodeAt w base v (.two k a b)) :
  ∃ g c, v = .iface 90 (.agg #[.string (tm (.two k a b)), .slice (some ⟨g, 0, none⟩) 2 c]) ∧ 2 ≤ c ∧ (∀ o, (w.alloc o).cell? ⟨g, 0, none⟩ = some (.string (tm a))) ∧ (∀ o, (w.alloc o).cell? ⟨g, 1, none⟩ = some (.string (tm b))) := by
 obtain ⟨sv, rfl, ho⟩ := h
 obtain ⟨g, c, rfl, _, _⟩ := ho.form (by omega)
 have hR : ∀ o, Kd.R Kd.string 9 (w.alloc o) base (fun _ => True) (.slice (some ⟨g, 0, none⟩) 2 c) [tm a, tm b] := fun o => R_of_own (n := 2) (ho.alloc o)
 have hc := fun o => (Kd.R_reads' (hR o)).2.2
 refine ⟨g, c, rfl, (Kd.R_reads' (hR (.cells #[] 0))).2.1, fun o => ?_, fun o => ?_⟩
 ·obtain ⟨ad, e, h0⟩ := readsC (hc o) (k := 0) (by simp)
  obtain rfl := Option.some.inj e
  have e0 : Addr.add ⟨g, 0, none⟩ 0 = ⟨g, 0, none⟩ := by simp [Addr.add]
  rw [e0] at h0
  exact h0
 ·obtain ⟨ad, e, h0⟩ := readsC (hc o) (k := 1) (by simp)
  obtain rfl := Option.some.inj e
  have e1 : Addr.add ⟨g, 0, none⟩ 1 = ⟨g, 1, none⟩ := by simp [Addr.add]
  rw [e1] at h0
  exact h0
def underF (k : ByteArray) (a b : T) : ByteArray × Int := if tm a = k then (tm b, 0) else (⟨#[]⟩, 6)
set_option maxRecDepth 100000 in
set_option maxHeartbeats 1000000 in
theorem under_call (k : ByteArray) {a b : T} (hw : Wf (.two .s a b)) (w : World) :
  Calls Tryz.prog 72 #[.int .u8 115, .string k, .string (tm (.two .s a b))] w fun e w' => e = .returned (.tuple #[.string (underF k a b).1, .int .i64 (underF k a b).2]) ∧ Below w.heap.size w w' := by
 have hs : (tm (.two .s a b)).size ≤ 4000 := right_size (right_tm hw)
 have HW := Lib.hid (whole_any (tm (.two .s a b)) w (by omega))
 have ht := term_tm hw
 have hc := first_code ht
 have hp0 := nonempty_right (right_tm hw)
 have f1 := asp_parts
 obtain ⟨R, hR⟩ : ∃ R, underF k a b = R := ⟨_, rfl⟩
 have HR := Lib.hid hR
 rw [hR]
 have hc1 : ∀ h : 0 < (tm (.two .s a b)).size, (((tm (.two .s a b))[0]'h).toNat : Int) = 115 := fun h => by rw [hc h]; rfl
 have HN : Hid (∀ (W : World) (v : Value), WholeRes W w.heap.size v (termOf (bytes (tm (.two .s a b)))) → NodeAt W w.heap.size v (.two .s a b)) := fun W v h => by rw [ht] at h; exact h
 clear hR ht hc
 go_enter Tryz.func72, Tryz.ntmps72
 go_wp2_with fail
 refine HW.out.mono ?_
 rintro e w1 ⟨v, rfl, hv, hb⟩
 obtain ⟨g, c, rfl, hc2, c0, c1⟩ := node_parts (HN.out _ _ hv)
 have HB : Hid (∀ o, Below w.heap.size w (w1.alloc o)) := fun o => hb.alloc hb.size o
 clear hb hv HN HW
 by_cases e : tm a = k
 ·obtain rfl : R = (tm b, 0) := by rw [← HR.out]; unfold underF; rw [if_pos e]
  have hq : ((tm a).toList == k.toList) = true := by rw [e]; simp
  generalize tm a = x at *
  generalize tm (.two .s a b) = z at *
  clear e HR
  go_wp2
  go_ret2
  exact ⟨rfl, HB.out _⟩
 ·obtain rfl : R = (⟨#[]⟩, 6) := by rw [← HR.out]; unfold underF; rw [if_neg e]
  have hq : ((tm a).toList == k.toList) = false := by rw [beq_eq_false_iff_ne]; exact fun h => e ((toL _ _).1 h)
  generalize tm a = x at *
  generalize tm (.two .s a b) = z at *
  clear e HR
  go_wp2
  go_ret2
  exact ⟨rfl, HB.out _⟩
theorem under_wrong (k : ByteArray) {t : T} (hw : Wf t) (h : t.code.toNat ≠ 115) (w : World) :
  Calls Tryz.prog 72 #[.int .u8 115, .string k, .string (tm t)] w fun e w' => e = .returned (.tuple #[.string ⟨#[]⟩, .int .i64 2]) ∧ Below w.heap.size w w' := by
 have hc := first_code (term_tm hw)
 have hp0 := nonempty_right (right_tm hw)
 have hne : ((t.code.toNat : Int) == 115) = false := by rw [beq_eq_false_iff_ne]; omega
 have hne2 : ((t.code.toNat : Int) != 115) = true := by rw [bne_iff_ne]; omega
 have HB := Lib.hid (Below.refl w.heap.size w)
 generalize tm t = z at *
 generalize t.code.toNat = cn at *
 clear hw h
 go_enter Tryz.func72, Tryz.ntmps72
 go_wp2
 go_ret2
 exact ⟨rfl, HB.out⟩
set_option maxRecDepth 100000 in
theorem open_call (k c : ByteArray) (hk : k.size ≤ 1000000) (hc : c.size ≤ 1000000) (w : World) :
  Calls Tryz.prog 47 #[.string k, .string c] w fun e w' => e = .returned (.tuple #[.string (unsealF k c).1, .int .i64 (unsealF k c).2]) ∧ Below w.heap.size w w' := by
 cases hrk : right k with
 | false =>
  have HK := Lib.hid (whole_wrong k w (by omega) hrk)
  rw [show unsealF k c = (⟨#[]⟩, 1) from by unfold unsealF; rw [hrk, if_neg (by simp)]]
  clear hrk
  go_enter Tryz.func47, Tryz.ntmps47
  go_wp2_with fail
  refine HK.out.mono ?_
  rintro e w1 ⟨rfl, hb⟩
  have HB := Lib.hid hb
  clear hb
  go_wp2
  go_ret2
  exact ⟨rfl, HB.out⟩
 | true =>
  have HK := Lib.hid (whole_right k w (by omega) hrk)
  cases hrc : right c with
  | false =>
   have HC := Lib.hid (fun w => whole_wrong c w (by omega) hrc)
   rw [show unsealF k c = (⟨#[]⟩, 1) from by
    unfold unsealF
    have : termOf (bytes c) = none := by unfold right at hrc; simpa using hrc
    rw [if_pos hrk, this]]
   clear hrk hrc
   go_enter Tryz.func47, Tryz.ntmps47
   go_wp2_with fail
   refine HK.out.mono ?_
   rintro e w1 ⟨ty, y, rfl, hb⟩
   have HB := Lib.hid hb
   clear hb
   go_wp2_with fail
   refine (HC.out _).mono ?_
   rintro e w2 ⟨rfl, hb⟩
   replace HB := Lib.hid (below_step HB.out hb)
   clear hb
   go_wp2
   go_ret2
   exact ⟨rfl, HB.out⟩
  | true =>
   have HC := Lib.hid (fun w => whole_right c w (by omega) hrc)
   obtain ⟨R, hR⟩ : ∃ R, unsealF k c = R := ⟨_, rfl⟩
   have HU : Hid (∀ W : World, Calls Tryz.prog 72 #[.int .u8 115, .string k, .string c] W fun e w' => e = .returned (.tuple #[.string R.1, .int .i64 R.2]) ∧ Below W.heap.size W w') := fun W => by
    obtain ⟨t, hw, rfl⟩ := right_tm_of hrc
    unfold unsealF at hR
    rw [if_pos hrk, term_tm hw] at hR
    by_cases h115 : t.code.toNat = 115
    ·obtain ⟨a, b, hab, rfl⟩ : ∃ a b, Wf (.two .s a b) ∧ t = .two .s a b := by
      cases t with
      | atom n => simp [T.code] at h115
      | text n => simp [T.code] at h115
      | one k x => cases k <;> simp [T.code, K1.code] at h115
      | two k x y =>
       cases k with
       | s => exact ⟨x, y, hw, rfl⟩
       | p => simp [T.code, K2.code] at h115
       | b => simp [T.code, K2.code] at h115
       | g => simp [T.code, K2.code] at h115
     rw [← hR]
     exact under_call k hw W
    ·have : R = (⟨#[]⟩, 2) := by
      rw [← hR]
      cases t with
      | atom n => rfl
      | text n => rfl
      | one k x => rfl
      | two k x y =>
       cases k with
       | s => exact absurd rfl h115
       | p => rfl
       | b => rfl
       | g => rfl
     rw [this]
     exact under_wrong k hw h115 W
   rw [hR]
   clear hrk hrc hR
   go_enter Tryz.func47, Tryz.ntmps47
   go_wp2_with fail
   refine HK.out.mono ?_
   rintro e w1 ⟨ty, y, rfl, hb⟩
   have HB := Lib.hid hb
   clear hb
   go_wp2_with fail
   refine (HC.out _).mono ?_
   rintro e w2 ⟨ty2, y2, rfl, hb⟩
   replace HB := Lib.hid (below_step HB.out hb)
   clear hb
   go_wp2_with fail
   refine (HU.out _).mono ?_
   rintro e w3 ⟨rfl, hb⟩
   replace HB := Lib.hid (below_step HB.out hb)
   clear hb
   go_wp2
   go_ret2
   exact ⟨rfl, HB.out⟩
end Go.Proofs.YtlhoahbpklhpmaaGreatDoor
end
section

namespace Go.Proofs.YtlhoahbpklhpmaaGreatDoor
open Go.RowKit Go.Proofs.YtlhoahbpklhpmaaGreatDoorW.PrintWords Go.Proofs.YtlhoahbpklhpmaaGreatDoorW.PrintLast Go.Proofs.YtlhoahbpklhpmaaGreatDoor.Ref
set_option linter.unusedVariables false
set_option linter.unusedSimpArgs false
theorem keep_cell {B : Nat} {w W : World} {a : Addr} {x : Value} (h : Moved (· = B) w W) (ha : w.cell? a = some x) (hn : a.block ≠ B) : W.cell? a = some x := by
 rw [World.cell?_of_block (h.block a.block (World.block_lt_of_cell? w a ha) hn)]; exact ha
theorem two_of {w : World} {n : Nat} {v : Value} {x y : ByteArray} (h : Kd.R Kd.string 9 w n (fun _ => True) v [x, y]) :
  ∃ g c, v = .slice (some ⟨g, 0, none⟩) 2 c ∧ 2 ≤ c ∧ w.cell? ⟨g, 0, none⟩ = some (.string x) ∧ w.cell? ⟨g, 1, none⟩ = some (.string y) := by
 obtain ⟨g, c, rfl⟩ : ∃ g c, v = .slice (some ⟨g, 0, none⟩) 2 c := by
  obtain ⟨_, xs, ho, _⟩ := h
  obtain ⟨g, c, e, _⟩ := ho.form (by simp)
  exact ⟨g, c, e⟩
 have hc := (Kd.R_reads' h).2.2
 obtain ⟨ad, e, h0⟩ := readsC hc (k := 0) (by simp)
 obtain rfl := Option.some.inj e
 obtain ⟨ad', e, h1⟩ := readsC hc (k := 1) (by simp)
 obtain rfl := Option.some.inj e
 exact ⟨g, c, rfl, (Kd.R_reads' h).2.1, by simpa [Addr.add] using h0, by simpa [Addr.add] using h1⟩
def afterF (l : List ByteArray) (pa : ByteArray) : ByteArray × Int :=
 match l with
 | [x, y] => if (wordsF x).2 = 0 then (if (wordsF x).1 = pa then (if (wordsF y).2 = 0 then ((wordsF y).1, 0) else (⟨#[]⟩, (wordsF y).2)) else (⟨#[]⟩, 7)) else (⟨#[]⟩, (wordsF x).2)
 | _ => (⟨#[]⟩, 7)
theorem after_ne {l : List ByteArray} (h : l.length ≠ 2) (pa : ByteArray) : afterF l pa = (⟨#[]⟩, 7) := by
 unfold afterF
 split
 ·simp at h
 ·rfl
def op1.T0 : Bool × List (List Nat × List Nat) := (true, [([], []), ([], []), ([1], [1]), ([0, 2], [0, 2]), ([3], [3]), ([], []), ([5], [5]), ([], []), ([7], [7]), ([6, 8], [6, 8]), ([], []), ([10], [10]), ([4, 9, 11, 9], [4, 9, 11]), ([12, 12], [12])])
def op1.B0 : List Nat := [0, 0, 2, 7, 15, 0, 32, 0, 128, 480, 0, 1024, 4095, 8191]
theorem op1.tab0 : rtab .any (opsOf Tryz.f41 0) = op1.T0 := by kernel_rfl
theorem op1.bits0 : waitsOk op1.T0.2 op1.B0 = true := by kernel_rfl
def op1.T3 : Bool × List (List Nat × List Nat) := (true, [([], []), ([0], [0]), ([1], [1]), ([2], [2]), ([3], [3]), ([4, 3], [3, 4]), ([5, 3], [3, 5]), ([6, 3, 3], [3, 6]), ([7, 3], [3, 7]), ([7, 3], [3, 7]), ([8, 9, 7, 3], [3, 8, 9]), ([3], [3]), ([10, 11, 3], [3, 10, 11]), ([3, 12], [3, 12])])
def op1.B3 : List Nat := [0, 1, 3, 7, 15, 31, 63, 127, 255, 255, 1023, 15, 4095, 8191]
theorem op1.tab3 : rtab .any (opsOf Tryz.f41 3) = op1.T3 := by kernel_rfl
theorem op1.bits3 : waitsOk op1.T3.2 op1.B3 = true := by kernel_rfl
def O1Post (w : World) (C : Nat) (R : ByteArray × Int) (e : Ending) (w' : World) : Prop :=
 (R.2 = 0 ∧ e = .returned (.tuple #[]) ∨ R.2 ≠ 0 ∧ e = .panicked (failed R.2)) ∧ (R.2 = 0 → w'.heap[C]? = some (.cells #[.string R.1] 9 (0, 0))) ∧ Moved (· = C) w w'
set_option maxRecDepth 100000 in
set_option maxHeartbeats 4000000 in
theorem open1_walk {V B St Ep P C n cap k : Nat} {ad : Addr} {bs bg st pa v : ByteArray} {en vc : Int} {Bk Ky Op M : ByteArray × Int} {l : List ByteArray} {R : ByteArray × Int} (w : World)
  (hV : w.heap[V]? = some (.cells #[.slice (some ad) n cap] 32 (0, 0))) (hB : w.heap[B]? = some (.cells #[.int .i64 k, .string bs, .string bg] 37 (0, 0))) (hS : w.heap[St]? = some (.cells #[.string st] 9 (0, 0)))
  (hE : w.heap[Ep]? = some (.cells #[.int .i64 en] 3 (0, 0))) (hP : w.heap[P]? = some (.cells #[.string pa] 9 (0, 0))) (hC : w.heap[C]? = some (.cells #[.string ⟨#[]⟩] 9 (0, 0)))
  (hv : w.cell? (ad.add k) = some (.string v)) (hk : k < n) (hk8 : k ≤ 7) (hcap : n ≤ cap)
  (nV : V ≠ C) (nB : B ≠ C) (nS : St ≠ C) (nE : Ep ≠ C) (nP : P ≠ C) (nad : (ad.add k).block ≠ C)
  (hSO : ∀ W : World, M.2 = 0 → Calls Tryz.prog 40 #[.int .i64 k, .string bs] W fun e w' => e = .returned (.string M.1) ∧ Below W.heap.size W w')
  (hSE : ∀ W : World, M.2 ≠ 0 → Calls Tryz.prog 40 #[.int .i64 k, .string bs] W fun e w' => e = .panicked (failed M.2) ∧ Below W.heap.size W w')
  (hVF : ∀ W : World, Calls Tryz.prog 43 #[.string v, .string M.1, .string bg] W fun e w' => e = .returned (.int .i64 vc) ∧ Below W.heap.size W w')
  (hBk : Tells 44 #[.string st, .int .i64 (wrap64 (en - (k : Int)))] Bk) (hKy : Tells 39 #[.string Bk.1] Ky) (hOp : Tells 47 #[.string Ky.1, .string bs] Op)
  (hPt : Op.2 = 0 → ∀ W : World, Calls Tryz.prog 46 #[.string Op.1] W fun e w' => ∃ v0 : Value, e = .returned (.tuple #[v0, .int .i64 0]) ∧ Kd.R Kd.string 9 w' W.heap.size (fun _ => True) v0 l ∧ Below W.heap.size W w')
  (hll : l.length ≤ 2) (hls : ∀ x ∈ l, x.size ≤ 4000)
  (hR : R = if M.2 = 0 then (if vc = 0 then (if Bk.2 = 0 then (if Ky.2 = 0 then (if Op.2 = 0 then afterF l pa else (⟨#[]⟩, Op.2)) else (⟨#[]⟩, Ky.2)) else (⟨#[]⟩, Bk.2)) else (⟨#[]⟩, vc)) else (⟨#[]⟩, M.2)) :
  Calls Tryz.prog 41 #[.pointer (some ⟨V, 0, none⟩), .pointer (some ⟨B, 0, none⟩), .pointer (some ⟨St, 0, none⟩), .pointer (some ⟨Ep, 0, none⟩), .pointer (some ⟨P, 0, none⟩), .pointer (some ⟨C, 0, none⟩)] w (O1Post w C R) := by
 have HV := Lib.hid hV
 have HB := Lib.hid hB
 have HS := Lib.hid hS
 have HE := Lib.hid hE
 have HP := Lib.hid hP
 have HC := Lib.hid hC
 have Hv := Lib.hid hv
 have HSO := Lib.hid hSO
 have HSE := Lib.hid hSE
 have HVF := Lib.hid hVF
 have HBk := Lib.hid hBk
 have HKy := Lib.hid hKy
 have HOp := Lib.hid hOp
 have HPt := Lib.hid hPt
 have Hls := Lib.hid hls
 have HR := Lib.hid hR
 have HM := Lib.hid (Moved.refl (· = C) w)
 clear hV hB hS hE hP hC hv hSO hSE hVF hBk hKy hOp hPt hls hR
 go_enter Tryz.func41, Tryz.ntmps41
 go_wp2_with fail
 have hb : Below w.heap.size w w.drew := below_drew (Below.refl _ _)
 replace HC := Lib.hid (blk_below HC.out hb)
 replace HM := Lib.hid (HM.out.trans (Moved.of_below hb))
 clear hb
 refine start_ (n := 14) (S := fun w' => w'.cell? ⟨V, 0, none⟩ = some (.slice (some ad) n cap) ∧ w'.cell? ⟨B, 0, none⟩ = some (.int .i64 k) ∧ w'.cell? ⟨B, 1, none⟩ = some (.string bs) ∧ w'.cell? ⟨B, 2, none⟩ = some (.string bg) ∧ w'.cell? (ad.add k) = some (.string v)) (ds := []) #[false, false, false, false, false, false, false, false, false, false, false, false, false, false] (by kernel_rfl) rfl rfl ⟨(cell_of_blk (keep HM.out HV.out nV) rfl), (cell_of_blk (keep HM.out HB.out nB) rfl), (cell_of_blk (keep HM.out HB.out nB) rfl), (cell_of_blk (keep HM.out HB.out nB) rfl), (keep_cell HM.out Hv.out nad)⟩ (fun hHeld => ?_)
 refine with_tabW op1.tab0 op1.bits0 (fun HT_ HW_ => ?_)
 refine pure_ (i := 1) (N := some 9) (v := ?_) (a' := ?_) #[false, true, false, false, false, false, false, false, false, false, false, false, false, false] rfl rfl (any_of HT_.out (by kernel_rfl)) (fun _ _ _ h => h) (Or.inl ⟨by rfl, ?_⟩) ?_ ?_
 rotate_left
 ·intro w'
  go_simp
  with_reducible rfl
 rotate_left
 ·simp only [Act.put, List.setIfInBounds_toArray, List.set_cons_zero, List.set_cons_succ, i64_w, i32_w]
  rfl
 refine pure_ (i := 5) (N := some 13) (v := ?_) (a' := ?_) #[false, true, false, false, false, true, false, false, false, false, false, false, false, false] rfl rfl (any_of HT_.out (by kernel_rfl)) (fun _ _ _ h => h) (Or.inl ⟨by rfl, ?_⟩) ?_ ?_
 rotate_left
 ·intro w'
  go_simp
  with_reducible rfl
 rotate_left
 ·simp only [Act.put, List.setIfInBounds_toArray, List.set_cons_zero, List.set_cons_succ, i64_w, i32_w]
  rfl
 refine pure_ (i := 7) (N := some 15) (v := ?_) (a' := ?_) #[false, true, false, false, false, true, false, true, false, false, false, false, false, false] rfl rfl (any_of HT_.out (by kernel_rfl)) (fun _ _ _ h => h) (Or.inl ⟨by rfl, ?_⟩) ?_ ?_
 rotate_left
 ·intro w'
  go_simp
  with_reducible rfl
 rotate_left
 ·simp only [Act.put, List.setIfInBounds_toArray, List.set_cons_zero, List.set_cons_succ, i64_w, i32_w]
  rfl
 refine pure_ (i := 10) (N := some 18) (v := ?_) (a' := ?_) #[false, true, false, false, false, true, false, true, false, false, true, false, false, false] rfl rfl (any_of HT_.out (by kernel_rfl)) (fun _ _ _ h => h) (Or.inl ⟨by rfl, ?_⟩) ?_ ?_
 rotate_left
 ·intro w'
  go_simp
  with_reducible rfl
 rotate_left
 ·simp only [Act.put, List.setIfInBounds_toArray, List.set_cons_zero, List.set_cons_succ, i64_w, i32_w]
  rfl
 refine take_ (i := 0) (N := some 8) (v := ?_) (a' := ?_) #[true, true, false, false, false, true, false, true, false, false, true, false, false, false] rfl rfl (take_ofW HT_.out HW_.out (by kernel_rfl)) (fun _ _ _ h => h) (Or.inl ⟨by rfl, ?_⟩) hHeld ?_ ?_
 rotate_left
 ·rintro w' ⟨s0, s1, s2, s3, s4⟩
  go_simp
  with_reducible rfl
 rotate_left
 ·simp only [Act.put, List.setIfInBounds_toArray, List.set_cons_zero, List.set_cons_succ, i64_w, i32_w]
  rfl
 refine take_ (i := 2) (N := some 10) (v := ?_) (a' := ?_) #[true, true, true, false, false, true, false, true, false, false, true, false, false, false] rfl rfl (take_ofW HT_.out HW_.out (by kernel_rfl)) (fun _ _ _ h => h) (Or.inl ⟨by rfl, ?_⟩) hHeld ?_ ?_
 rotate_left
 ·rintro w' ⟨s0, s1, s2, s3, s4⟩
  go_simp
  with_reducible rfl
 rotate_left
 ·simp only [Act.put, List.setIfInBounds_toArray, List.set_cons_zero, List.set_cons_succ, i64_w, i32_w]
  rfl
 refine pure_ (i := 3) (N := some 11) (v := ?_) (a' := ?_) #[true, true, true, true, false, true, false, true, false, false, true, false, false, false] rfl rfl (any_of HT_.out (by kernel_rfl)) (fun _ _ _ h => h) (Or.inl ⟨by rfl, ?_⟩) ?_ ?_
 rotate_left
 ·intro w'
  go_simp
  with_reducible rfl
 rotate_left
 ·simp only [Act.put, List.setIfInBounds_toArray, List.set_cons_zero, List.set_cons_succ, i64_w, i32_w]
  rfl
 refine take_ (i := 4) (N := some 12) (v := ?_) (a' := ?_) #[true, true, true, true, true, true, false, true, false, false, true, false, false, false] rfl rfl (take_ofW HT_.out HW_.out (by kernel_rfl)) (fun _ _ _ h => h) (Or.inl ⟨by rfl, ?_⟩) hHeld ?_ ?_
 rotate_left
 ·rintro w' ⟨s0, s1, s2, s3, s4⟩
  go_simp
  with_reducible rfl
 rotate_left
 ·simp only [Act.put, List.setIfInBounds_toArray, List.set_cons_zero, List.set_cons_succ, i64_w, i32_w]
  rfl
 refine take_ (i := 6) (N := some 14) (v := ?_) (a' := ?_) #[true, true, true, true, true, true, true, true, false, false, true, false, false, false] rfl rfl (take_ofW HT_.out HW_.out (by kernel_rfl)) (fun _ _ _ h => h) (Or.inl ⟨by rfl, ?_⟩) hHeld ?_ ?_
 rotate_left
 ·rintro w' ⟨s0, s1, s2, s3, s4⟩
  go_simp
  with_reducible rfl
 rotate_left
 ·simp only [Act.put, List.setIfInBounds_toArray, List.set_cons_zero, List.set_cons_succ, i64_w, i32_w]
  rfl
 refine take_ (i := 8) (N := some 16) (v := ?_) (a' := ?_) #[true, true, true, true, true, true, true, true, true, false, true, false, false, false] rfl rfl (take_ofW HT_.out HW_.out (by kernel_rfl)) (fun _ _ _ h => h) (Or.inl ⟨by rfl, ?_⟩) hHeld ?_ ?_
 rotate_left
 ·rintro w' ⟨s0, s1, s2, s3, s4⟩
  go_simp
  with_reducible rfl
 rotate_left
 ·simp only [Act.put, List.setIfInBounds_toArray, List.set_cons_zero, List.set_cons_succ, i64_w, i32_w]
  rfl
 refine take_ (i := 11) (N := some 19) (v := ?_) (a' := ?_) #[true, true, true, true, true, true, true, true, true, false, true, true, false, false] rfl rfl (take_ofW HT_.out HW_.out (by kernel_rfl)) (fun _ _ _ h => h) (Or.inl ⟨by rfl, ?_⟩) hHeld ?_ ?_
 rotate_left
 ·rintro w' ⟨s0, s1, s2, s3, s4⟩
  go_simp
  with_reducible rfl
 rotate_left
 ·simp only [Act.put, List.setIfInBounds_toArray, List.set_cons_zero, List.set_cons_succ, i64_w, i32_w]
  rfl
 refine one_ (i := 9) (N := some 17) #[true, true, true, true, true, true, true, true, true, true, true, true, false, false] rfl rfl (one_of HT_.out (by kernel_rfl)) (by decide) (fun K hK => ?_)
 by_cases qM : M.2 = 0
 rotate_left
 ·refine dies_ Tryz.func40 (by kernel_rfl) rfl #[.int .i64 k, .string bs] (by rfl) rfl rfl (by simp only [List.map_toArray, List.map_cons, List.map_nil]; rfl) ?_
  with_reducible refine (HSE.out _ qM).mono ?_
  rintro e v9 ⟨rfl, hb⟩
  refine ⟨_, rfl, ?_⟩
  replace HM := Lib.hid (HM.out.trans (Moved.of_below hb))
  obtain rfl : R = (⟨#[]⟩, M.2) := by rw [HR.out, if_neg qM]
  refine ⟨rfl, Or.inr ⟨qM, rfl⟩, fun h => absurd h qM, HM.out⟩
 refine goes_ Tryz.func40 (by kernel_rfl) rfl #[.int .i64 k, .string bs] (by rfl) rfl rfl (by simp only [List.map_toArray, List.map_cons, List.map_nil]; rfl) ?_
 with_reducible refine (HSO.out _ qM).mono ?_
 rintro e w1 ⟨rfl, hb⟩
 refine ⟨_, rfl, ?_⟩
 replace HC := Lib.hid (blk_below HC.out hb)
 replace HM := Lib.hid (HM.out.trans (Moved.of_below hb))
 clear hb
 refine hK.out _ _ ⟨(cell_of_blk (keep HM.out HV.out nV) rfl), (cell_of_blk (keep HM.out HB.out nB) rfl), (cell_of_blk (keep HM.out HB.out nB) rfl), (cell_of_blk (keep HM.out HB.out nB) rfl), (keep_cell HM.out Hv.out nad)⟩ (fun hHeld => ?_)
 clear hK K
 refine norm_ (a' := ?_) ?_ ?_
 rotate_left
 ·show Act.put _ (some 17) _ = _
  simp only [Act.put, List.setIfInBounds_toArray, List.set_cons_zero, List.set_cons_succ, i64_w, i32_w]
  rfl
 refine one_ (i := 12) (N := some 20) #[true, true, true, true, true, true, true, true, true, true, true, true, true, false] rfl rfl (one_of HT_.out (by kernel_rfl)) (by decide) (fun K hK => ?_)
 refine goes_ Tryz.func43 (by kernel_rfl) rfl #[.string v, .string M.1, .string bg] (by rfl) rfl rfl (by simp only [List.map_toArray, List.map_cons, List.map_nil]; rfl) ?_
 with_reducible refine (HVF.out _).mono ?_
 rintro e w2 ⟨rfl, hb⟩
 refine ⟨_, rfl, ?_⟩
 replace HC := Lib.hid (blk_below HC.out hb)
 replace HM := Lib.hid (HM.out.trans (Moved.of_below hb))
 clear hb
 refine hK.out _ _ ⟨(cell_of_blk (keep HM.out HV.out nV) rfl), (cell_of_blk (keep HM.out HB.out nB) rfl), (cell_of_blk (keep HM.out HB.out nB) rfl), (cell_of_blk (keep HM.out HB.out nB) rfl), (keep_cell HM.out Hv.out nad)⟩ (fun hHeld => ?_)
 clear hK K
 refine norm_ (a' := ?_) ?_ ?_
 rotate_left
 ·show Act.put _ (some 20) _ = _
  simp only [Act.put, List.setIfInBounds_toArray, List.set_cons_zero, List.set_cons_succ, i64_w, i32_w]
  rfl
 refine one_ (i := 13) (N := some 21) #[true, true, true, true, true, true, true, true, true, true, true, true, true, true] rfl rfl (one_of HT_.out (by kernel_rfl)) (by decide) (fun K hK => ?_)
 by_cases qV : vc = 0
 rotate_left
 ·refine dies_ Tryz.func42 (by kernel_rfl) rfl #[.int .i64 0, .int .i64 vc] (by rfl) rfl rfl (by simp only [List.map_toArray, List.map_cons, List.map_nil]; rfl) ?_
  with_reducible refine (mustI_err _ _ qV _).mono ?_
  rintro e v9 ⟨rfl, rfl⟩
  refine ⟨_, rfl, ?_⟩
  obtain rfl : R = (⟨#[]⟩, vc) := by rw [HR.out, if_pos qM, if_neg qV]
  refine ⟨rfl, Or.inr ⟨qV, rfl⟩, fun h => absurd h qV, HM.out⟩
 subst qV
 refine goes_ Tryz.func42 (by kernel_rfl) rfl #[.int .i64 0, .int .i64 0] (by rfl) rfl rfl (by simp only [List.map_toArray, List.map_cons, List.map_nil]; rfl) ?_
 with_reducible refine (mustI_ok _ _).mono ?_
 rintro e w3 ⟨rfl, rfl⟩
 refine ⟨_, rfl, ?_⟩
 refine hK.out _ _ ⟨(cell_of_blk (keep HM.out HV.out nV) rfl), (cell_of_blk (keep HM.out HB.out nB) rfl), (cell_of_blk (keep HM.out HB.out nB) rfl), (cell_of_blk (keep HM.out HB.out nB) rfl), (keep_cell HM.out Hv.out nad)⟩ (fun hHeld => ?_)
 clear hK K
 refine norm_ (a' := ?_) ?_ ?_
 rotate_left
 ·show Act.put _ (some 21) _ = _
  simp only [Act.put, List.setIfInBounds_toArray, List.set_cons_zero, List.set_cons_succ, i64_w, i32_w]
  rfl
 refine done_ (done_of HT_.out (by kernel_rfl)) ?_
 clear HT_ HSO HSE HVF
 have c0 : w3.cell? ⟨St, 0, none⟩ = some (.string st) := cell_of_blk (keep HM.out HS.out nS) rfl
 have c1 : w3.cell? ⟨Ep, 0, none⟩ = some (.int .i64 en) := cell_of_blk (keep HM.out HE.out nE) rfl
 have c2 : w3.cell? ⟨B, 0, none⟩ = some (.int .i64 k) := cell_of_blk (keep HM.out HB.out nB) rfl
 go_wp2_with fail
 refine (HBk.out _).mono ?_
 rintro e w4 ⟨rfl, hb⟩
 clear c0 c1 c2 HBk
 replace HC := Lib.hid (blk_below HC.out hb)
 replace HM := Lib.hid (HM.out.trans (Moved.of_below hb))
 clear hb
 by_cases qB : Bk.2 = 0
 rotate_left
 ·go_wp2_with fail
  refine (must_err _ _ qB _).mono ?_
  rintro e v1 ⟨rfl, rfl⟩
  obtain rfl : R = (⟨#[]⟩, Bk.2) := by rw [HR.out, if_pos qM, if_pos trivial, if_neg qB]
  go_wp2
  exact ⟨rfl, Or.inr ⟨qB, rfl⟩, fun h => absurd h qB, HM.out⟩
 go_wp2_with fail
 try rw [qB]
 refine (must_ok _ _).mono ?_
 rintro e v1 ⟨rfl, rfl⟩
 go_wp2_with fail
 refine (HKy.out _).mono ?_
 rintro e w5 ⟨rfl, hb⟩
 replace HC := Lib.hid (blk_below HC.out hb)
 replace HM := Lib.hid (HM.out.trans (Moved.of_below hb))
 clear hb
 by_cases qK : Ky.2 = 0
 rotate_left
 ·go_wp2_with fail
  refine (must_err _ _ qK _).mono ?_
  rintro e v2 ⟨rfl, rfl⟩
  obtain rfl : R = (⟨#[]⟩, Ky.2) := by rw [HR.out, if_pos qM, if_pos trivial, if_pos qB, if_neg qK]
  go_wp2
  exact ⟨rfl, Or.inr ⟨qK, rfl⟩, fun h => absurd h qK, HM.out⟩
 go_wp2_with fail
 try rw [qK]
 refine (must_ok _ _).mono ?_
 rintro e v2 ⟨rfl, rfl⟩
 have c3 : v2.cell? ⟨B, 1, none⟩ = some (.string bs) := cell_of_blk (keep HM.out HB.out nB) rfl
 go_wp2_with fail
 refine (HOp.out _).mono ?_
 rintro e w6 ⟨rfl, hb⟩
 clear c3 HOp
 replace HC := Lib.hid (blk_below HC.out hb)
 replace HM := Lib.hid (HM.out.trans (Moved.of_below hb))
 clear hb
 by_cases qO : Op.2 = 0
 rotate_left
 ·go_wp2_with fail
  refine (must_err _ _ qO _).mono ?_
  rintro e v3 ⟨rfl, rfl⟩
  obtain rfl : R = (⟨#[]⟩, Op.2) := by rw [HR.out, if_pos qM, if_pos trivial, if_pos qB, if_pos qK, if_neg qO]
  go_wp2
  exact ⟨rfl, Or.inr ⟨qO, rfl⟩, fun h => absurd h qO, HM.out⟩
 go_wp2_with fail
 try rw [qO]
 refine (must_ok _ _).mono ?_
 rintro e v3 ⟨rfl, rfl⟩
 replace HR : Hid (R = afterF l pa) := Lib.hid (by rw [HR.out, if_pos qM, if_pos trivial, if_pos qB, if_pos qK, if_pos qO])
 go_wp2_with fail
 refine (HPt.out qO _).mono ?_
 rintro e w7 ⟨v0, rfl, hl, hb⟩
 replace HC := Lib.hid (blk_below HC.out hb)
 replace HM := Lib.hid (HM.out.trans (Moved.of_below hb))
 clear hb
 have HL := Lib.hid hl
 obtain ⟨LA, lc, rfl⟩ := Kd.R_slice hl
 clear hl HPt
 go_wp2_with fail
 refine (mustL_ok _ _ _ _).mono ?_
 rintro e w8 ⟨rfl, rfl⟩
 go_wp2_with fail
 have hb : Below w8.heap.size w8 w8.drew := below_drew (Below.refl _ _)
 replace HC := Lib.hid (blk_below HC.out hb)
 replace HM := Lib.hid (HM.out.trans (Moved.of_below hb))
 clear hb
 by_cases q2 : l.length = 2
 rotate_left
 ·obtain rfl : R = (⟨#[]⟩, 7) := by rw [HR.out, after_ne q2]
  have t2 : ((l.length : Int) != 2) = true := by rw [bne_iff_ne]; omega
  refine start_ (n := 14) (S := fun w' => True) (ds := []) #[false, false, false, false, false, false, false, false, false, false, false, false, false, false] (by kernel_rfl) rfl rfl trivial (fun hHeld => ?_)
  refine with_tabW op1.tab3 op1.bits3 (fun HT_ HW_ => ?_)
  refine pure_ (i := 0) (N := some 46) (v := ?_) (a' := ?_) #[true, false, false, false, false, false, false, false, false, false, false, false, false, false] rfl rfl (any_of HT_.out (by kernel_rfl)) (fun _ _ _ h => h) (Or.inl ⟨by rfl, ?_⟩) ?_ ?_
  rotate_left
  ·intro w'
   go_simp
   with_reducible rfl
  rotate_left
  ·simp only [Act.put, List.setIfInBounds_toArray, List.set_cons_zero, List.set_cons_succ, i64_w, i32_w]
   rfl
  refine pure_ (i := 1) (N := some 47) (v := ?_) (a' := ?_) #[true, true, false, false, false, false, false, false, false, false, false, false, false, false] rfl rfl (any_of HT_.out (by kernel_rfl)) (fun _ _ _ h => h) (Or.inl ⟨by rfl, ?_⟩) ?_ ?_
  rotate_left
  ·intro w'
   go_simp
   with_reducible rfl
  rotate_left
  ·simp only [Act.put, List.setIfInBounds_toArray, List.set_cons_zero, List.set_cons_succ, i64_w, i32_w]
   rfl
  refine pure_ (i := 2) (N := some 48) (v := ?_) (a' := ?_) #[true, true, true, false, false, false, false, false, false, false, false, false, false, false] rfl rfl (any_of HT_.out (by kernel_rfl)) (fun _ _ _ h => h) (Or.inl ⟨by rfl, ?_⟩) ?_ ?_
  rotate_left
  ·intro w'
   go_simp
   with_reducible rfl
  rotate_left
  ·simp only [Act.put, List.setIfInBounds_toArray, List.set_cons_zero, List.set_cons_succ, i64_w, i32_w]
   rfl
  refine pure_ (i := 3) (N := some 49) (v := ?_) (a' := ?_) #[true, true, true, true, false, false, false, false, false, false, false, false, false, false] rfl rfl (any_of HT_.out (by kernel_rfl)) (fun _ _ _ h => h) (Or.inl ⟨by rfl, ?_⟩) ?_ ?_
  rotate_left
  ·intro w'
   go_simp
   with_reducible rfl
  rotate_left
  ·simp only [Act.put, List.setIfInBounds_toArray, List.set_cons_zero, List.set_cons_succ, i64_w, i32_w]
   rfl
  refine pure_ (i := 4) (N := some 50) (v := undef) (a' := ?_) #[true, true, true, true, true, false, false, false, false, false, false, false, false, false] rfl rfl (any_of HT_.out (by kernel_rfl)) (fun _ _ _ h => h) (Or.inr ⟨by rfl, rfl⟩) ?_ ?_
  rotate_left
  ·simp only [Act.put, List.setIfInBounds_toArray, List.set_cons_zero, List.set_cons_succ, i64_w, i32_w]
   rfl
  refine pure_ (i := 5) (N := some 51) (v := undef) (a' := ?_) #[true, true, true, true, true, true, false, false, false, false, false, false, false, false] rfl rfl (any_of HT_.out (by kernel_rfl)) (fun _ _ _ h => h) (Or.inr ⟨by rfl, rfl⟩) ?_ ?_
  rotate_left
  ·simp only [Act.put, List.setIfInBounds_toArray, List.set_cons_zero, List.set_cons_succ, i64_w, i32_w]
   rfl
  refine pure_ (i := 6) (N := some 52) (v := undef) (a' := ?_) #[true, true, true, true, true, true, true, false, false, false, false, false, false, false] rfl rfl (any_of HT_.out (by kernel_rfl)) (fun _ _ _ h => h) (Or.inr ⟨by rfl, rfl⟩) ?_ ?_
  rotate_left
  ·simp only [Act.put, List.setIfInBounds_toArray, List.set_cons_zero, List.set_cons_succ, i64_w, i32_w]
   rfl
  refine pure_ (i := 7) (N := some 53) (v := undef) (a' := ?_) #[true, true, true, true, true, true, true, true, false, false, false, false, false, false] rfl rfl (any_of HT_.out (by kernel_rfl)) (fun _ _ _ h => h) (Or.inr ⟨by rfl, rfl⟩) ?_ ?_
  rotate_left
  ·simp only [Act.put, List.setIfInBounds_toArray, List.set_cons_zero, List.set_cons_succ, i64_w, i32_w]
   rfl
  refine pure_ (i := 8) (N := some 54) (v := undef) (a' := ?_) #[true, true, true, true, true, true, true, true, true, false, false, false, false, false] rfl rfl (any_of HT_.out (by kernel_rfl)) (fun _ _ _ h => h) (Or.inr ⟨by rfl, rfl⟩) ?_ ?_
  rotate_left
  ·simp only [Act.put, List.setIfInBounds_toArray, List.set_cons_zero, List.set_cons_succ, i64_w, i32_w]
   rfl
  refine pure_ (i := 9) (N := some 55) (v := undef) (a' := ?_) #[true, true, true, true, true, true, true, true, true, true, false, false, false, false] rfl rfl (any_of HT_.out (by kernel_rfl)) (fun _ _ _ h => h) (Or.inr ⟨by rfl, rfl⟩) ?_ ?_
  rotate_left
  ·simp only [Act.put, List.setIfInBounds_toArray, List.set_cons_zero, List.set_cons_succ, i64_w, i32_w]
   rfl
  refine pure_ (i := 10) (N := some 56) (v := undef) (a' := ?_) #[true, true, true, true, true, true, true, true, true, true, true, false, false, false] rfl rfl (any_of HT_.out (by kernel_rfl)) (fun _ _ _ h => h) (Or.inr ⟨by rfl, rfl⟩) ?_ ?_
  rotate_left
  ·simp only [Act.put, List.setIfInBounds_toArray, List.set_cons_zero, List.set_cons_succ, i64_w, i32_w]
   rfl
  refine pure_ (i := 11) (N := some 57) (v := undef) (a' := ?_) #[true, true, true, true, true, true, true, true, true, true, true, true, false, false] rfl rfl (any_of HT_.out (by kernel_rfl)) (fun _ _ _ h => h) (Or.inr ⟨by rfl, rfl⟩) ?_ ?_
  rotate_left
  ·simp only [Act.put, List.setIfInBounds_toArray, List.set_cons_zero, List.set_cons_succ, i64_w, i32_w]
   rfl
  refine pure_ (i := 12) (N := some 58) (v := undef) (a' := ?_) #[true, true, true, true, true, true, true, true, true, true, true, true, true, false] rfl rfl (any_of HT_.out (by kernel_rfl)) (fun _ _ _ h => h) (Or.inr ⟨by rfl, rfl⟩) ?_ ?_
  rotate_left
  ·simp only [Act.put, List.setIfInBounds_toArray, List.set_cons_zero, List.set_cons_succ, i64_w, i32_w]
   rfl
  refine pure_ (i := 13) (N := some 59) (v := ?_) (a' := ?_) #[true, true, true, true, true, true, true, true, true, true, true, true, true, true] rfl rfl (any_of HT_.out (by kernel_rfl)) (fun _ _ _ h => h) (Or.inl ⟨by rfl, ?_⟩) ?_ ?_
  rotate_left
  ·intro w'
   go_simp
   with_reducible rfl
  rotate_left
  ·simp only [Act.put, List.setIfInBounds_toArray, List.set_cons_zero, List.set_cons_succ, i64_w, i32_w]
   rfl
  refine done_ (done_of HT_.out (by kernel_rfl)) ?_
  clear HT_
  go_wp2
  exact ⟨rfl, Or.inr ⟨by decide, rfl⟩, fun h => absurd h (by decide), HM.out⟩
 obtain ⟨x, y, rfl⟩ : ∃ x y, l = [x, y] := by
  match l, q2 with
  | [x, y], _ => exact ⟨x, y, rfl⟩
 clear q2 hll
 obtain ⟨la, lc2, hla, hlc, hx0, hx1⟩ := two_of HL.out
 obtain ⟨rfl, rfl⟩ : LA = some ⟨la, 0, none⟩ ∧ lc = lc2 := by simpa using hla
 clear hla HL
 have HX0 := Lib.hid (pw_cell_below (below_drew (Below.refl _ _)) hx0)
 have HX1 := Lib.hid (pw_cell_below (below_drew (Below.refl _ _)) hx1)
 have HWX := Lib.hid (fun W => words_call x (by have := Hls.out x (by simp); omega) W)
 have HWY := Lib.hid (fun W => words_call y (by have := Hls.out y (by simp); omega) W)
 replace HR : Hid (R = if (wordsF x).2 = 0 then (if (wordsF x).1 = pa then (if (wordsF y).2 = 0 then ((wordsF y).1, 0) else (⟨#[]⟩, (wordsF y).2)) else (⟨#[]⟩, 7)) else (⟨#[]⟩, (wordsF x).2)) := HR
 generalize wordsF x = X at HWX HR
 generalize wordsF y = Y at HWY HR
 clear hx0 hx1
 refine start_ (n := 14) (S := fun w' => w'.cell? ⟨la, 0, none⟩ = some (.string x) ∧ w'.cell? ⟨P, 0, none⟩ = some (.string pa)) (ds := []) #[false, false, false, false, false, false, false, false, false, false, false, false, false, false] (by kernel_rfl) rfl rfl ⟨HX0.out, (cell_of_blk (keep HM.out HP.out nP) rfl)⟩ (fun hHeld => ?_)
 refine with_tabW op1.tab3 op1.bits3 (fun HT_ HW_ => ?_)
 refine pure_ (i := 0) (N := some 46) (v := ?_) (a' := ?_) #[true, false, false, false, false, false, false, false, false, false, false, false, false, false] rfl rfl (any_of HT_.out (by kernel_rfl)) (fun _ _ _ h => h) (Or.inl ⟨by rfl, ?_⟩) ?_ ?_
 rotate_left
 ·intro w'
  go_simp
  with_reducible rfl
 rotate_left
 ·simp only [Act.put, List.setIfInBounds_toArray, List.set_cons_zero, List.set_cons_succ, i64_w, i32_w]
  rfl
 refine pure_ (i := 1) (N := some 47) (v := ?_) (a' := ?_) #[true, true, false, false, false, false, false, false, false, false, false, false, false, false] rfl rfl (any_of HT_.out (by kernel_rfl)) (fun _ _ _ h => h) (Or.inl ⟨by rfl, ?_⟩) ?_ ?_
 rotate_left
 ·intro w'
  go_simp
  with_reducible rfl
 rotate_left
 ·simp only [Act.put, List.setIfInBounds_toArray, List.set_cons_zero, List.set_cons_succ, i64_w, i32_w]
  rfl
 refine pure_ (i := 2) (N := some 48) (v := ?_) (a' := ?_) #[true, true, true, false, false, false, false, false, false, false, false, false, false, false] rfl rfl (any_of HT_.out (by kernel_rfl)) (fun _ _ _ h => h) (Or.inl ⟨by rfl, ?_⟩) ?_ ?_
 rotate_left
 ·intro w'
  go_simp
  with_reducible rfl
 rotate_left
 ·simp only [Act.put, List.setIfInBounds_toArray, List.set_cons_zero, List.set_cons_succ, i64_w, i32_w]
  rfl
 refine pure_ (i := 3) (N := some 49) (v := ?_) (a' := ?_) #[true, true, true, true, false, false, false, false, false, false, false, false, false, false] rfl rfl (any_of HT_.out (by kernel_rfl)) (fun _ _ _ h => h) (Or.inl ⟨by rfl, ?_⟩) ?_ ?_
 rotate_left
 ·intro w'
  go_simp
  with_reducible rfl
 rotate_left
 ·simp only [Act.put, List.setIfInBounds_toArray, List.set_cons_zero, List.set_cons_succ, i64_w, i32_w]
  rfl
 refine pure_ (i := 4) (N := some 50) (v := ?_) (a' := ?_) #[true, true, true, true, true, false, false, false, false, false, false, false, false, false] rfl rfl (any_of HT_.out (by kernel_rfl)) (fun _ _ _ h => h) (Or.inl ⟨by rfl, ?_⟩) ?_ ?_
 rotate_left
 ·intro w'
  go_simp
  with_reducible rfl
 rotate_left
 ·simp only [Act.put, List.setIfInBounds_toArray, List.set_cons_zero, List.set_cons_succ, i64_w, i32_w]
  rfl
 refine pure_ (i := 5) (N := some 51) (v := ?_) (a' := ?_) #[true, true, true, true, true, true, false, false, false, false, false, false, false, false] rfl rfl (any_of HT_.out (by kernel_rfl)) (fun _ _ _ h => h) (Or.inl ⟨by rfl, ?_⟩) ?_ ?_
 rotate_left
 ·intro w'
  go_simp
  with_reducible rfl
 rotate_left
 ·simp only [Act.put, List.setIfInBounds_toArray, List.set_cons_zero, List.set_cons_succ, i64_w, i32_w]
  rfl
 refine take_ (i := 6) (N := some 52) (v := ?_) (a' := ?_) #[true, true, true, true, true, true, true, false, false, false, false, false, false, false] rfl rfl (take_ofW HT_.out HW_.out (by kernel_rfl)) (fun _ _ _ h => h) (Or.inl ⟨by rfl, ?_⟩) hHeld ?_ ?_
 rotate_left
 ·rintro w' ⟨s0, s1⟩
  go_simp
  with_reducible rfl
 rotate_left
 ·simp only [Act.put, List.setIfInBounds_toArray, List.set_cons_zero, List.set_cons_succ, i64_w, i32_w]
  rfl
 refine take_ (i := 11) (N := some 57) (v := ?_) (a' := ?_) #[true, true, true, true, true, true, true, false, false, false, false, true, false, false] rfl rfl (take_ofW HT_.out HW_.out (by kernel_rfl)) (fun _ _ _ h => h) (Or.inl ⟨by rfl, ?_⟩) hHeld ?_ ?_
 rotate_left
 ·rintro w' ⟨s0, s1⟩
  go_simp
  with_reducible rfl
 rotate_left
 ·simp only [Act.put, List.setIfInBounds_toArray, List.set_cons_zero, List.set_cons_succ, i64_w, i32_w]
  rfl
 refine one_ (i := 7) (N := some 53) #[true, true, true, true, true, true, true, true, false, false, false, true, false, false] rfl rfl (one_of HT_.out (by kernel_rfl)) (by decide) (fun K hK => ?_)
 refine goes_ Tryz.func48 (by kernel_rfl) rfl #[.string x] (by rfl) rfl rfl (by simp only [List.map_toArray, List.map_cons, List.map_nil]; rfl) ?_
 with_reducible refine (HWX.out _).mono ?_
 rintro e w10 ⟨rfl, hb⟩
 refine ⟨_, rfl, ?_⟩
 replace HX0 := Lib.hid (pw_cell_below hb HX0.out)
 replace HX1 := Lib.hid (pw_cell_below hb HX1.out)
 replace HC := Lib.hid (blk_below HC.out hb)
 replace HM := Lib.hid (HM.out.trans (Moved.of_below hb))
 clear hb
 refine hK.out _ _ ⟨HX0.out, (cell_of_blk (keep HM.out HP.out nP) rfl)⟩ (fun hHeld => ?_)
 clear hK K
 refine norm_ (a' := ?_) ?_ ?_
 rotate_left
 ·show Act.put _ (some 53) _ = _
  simp only [Act.put, List.setIfInBounds_toArray, List.set_cons_zero, List.set_cons_succ, i64_w, i32_w]
  rfl
 refine pure_ (i := 8) (N := some 54) (v := ?_) (a' := ?_) #[true, true, true, true, true, true, true, true, true, false, false, true, false, false] rfl rfl (any_of HT_.out (by kernel_rfl)) (fun _ _ _ h => h) (Or.inl ⟨by rfl, ?_⟩) ?_ ?_
 rotate_left
 ·intro w'
  go_simp
  with_reducible rfl
 rotate_left
 ·simp only [Act.put, List.setIfInBounds_toArray, List.set_cons_zero, List.set_cons_succ, i64_w, i32_w]
  rfl
 refine pure_ (i := 9) (N := some 55) (v := ?_) (a' := ?_) #[true, true, true, true, true, true, true, true, true, true, false, true, false, false] rfl rfl (any_of HT_.out (by kernel_rfl)) (fun _ _ _ h => h) (Or.inl ⟨by rfl, ?_⟩) ?_ ?_
 rotate_left
 ·intro w'
  go_simp
  with_reducible rfl
 rotate_left
 ·simp only [Act.put, List.setIfInBounds_toArray, List.set_cons_zero, List.set_cons_succ, i64_w, i32_w]
  rfl
 refine one_ (i := 10) (N := some 56) #[true, true, true, true, true, true, true, true, true, true, true, true, false, false] rfl rfl (one_of HT_.out (by kernel_rfl)) (by decide) (fun K hK => ?_)
 by_cases qX : X.2 = 0
 rotate_left
 ·refine dies_ Tryz.func36 (by kernel_rfl) rfl #[.string X.1, .int .i64 X.2] (by rfl) rfl rfl (by simp only [List.map_toArray, List.map_cons, List.map_nil]; rfl) ?_
  with_reducible refine (must_err _ _ qX _).mono ?_
  rintro e v9 ⟨rfl, rfl⟩
  refine ⟨_, rfl, ?_⟩
  obtain rfl : R = (⟨#[]⟩, X.2) := by rw [HR.out, if_neg qX]
  refine ⟨rfl, Or.inr ⟨qX, rfl⟩, fun h => absurd h qX, HM.out⟩
 try rw [qX]
 refine goes_ Tryz.func36 (by kernel_rfl) rfl #[.string X.1, .int .i64 0] (by rfl) rfl rfl (by simp only [List.map_toArray, List.map_cons, List.map_nil]; rfl) ?_
 with_reducible refine (must_ok _ _).mono ?_
 rintro e w11 ⟨rfl, rfl⟩
 refine ⟨_, rfl, ?_⟩
 refine hK.out _ _ ⟨HX0.out, (cell_of_blk (keep HM.out HP.out nP) rfl)⟩ (fun hHeld => ?_)
 clear hK K
 refine norm_ (a' := ?_) ?_ ?_
 rotate_left
 ·show Act.put _ (some 56) _ = _
  simp only [Act.put, List.setIfInBounds_toArray, List.set_cons_zero, List.set_cons_succ, i64_w, i32_w]
  rfl
 refine pure_ (i := 12) (N := some 58) (v := ?_) (a' := ?_) #[true, true, true, true, true, true, true, true, true, true, true, true, true, false] rfl rfl (any_of HT_.out (by kernel_rfl)) (fun _ _ _ h => h) (Or.inl ⟨by rfl, ?_⟩) ?_ ?_
 rotate_left
 ·intro w'
  go_simp
  with_reducible rfl
 rotate_left
 ·simp only [Act.put, List.setIfInBounds_toArray, List.set_cons_zero, List.set_cons_succ, i64_w, i32_w]
  rfl
 refine pure_ (i := 13) (N := some 59) (v := ?_) (a' := ?_) #[true, true, true, true, true, true, true, true, true, true, true, true, true, true] rfl rfl (any_of HT_.out (by kernel_rfl)) (fun _ _ _ h => h) (Or.inl ⟨by rfl, ?_⟩) ?_ ?_
 rotate_left
 ·intro w'
  go_simp
  with_reducible rfl
 rotate_left
 ·simp only [Act.put, List.setIfInBounds_toArray, List.set_cons_zero, List.set_cons_succ, i64_w, i32_w]
  rfl
 refine done_ (done_of HT_.out (by kernel_rfl)) ?_
 clear HT_
 by_cases qP : X.1 = pa
 rotate_left
 ·have t3 : (X.1.toList == pa.toList) = false := by rw [beq_eq_false_iff_ne]; exact fun h => qP ((toL _ _).1 h)
  obtain rfl : R = (⟨#[]⟩, 7) := by rw [HR.out, if_pos qX, if_neg qP]
  clear qP HR HWY
  rw [t3, Bool.not_false]
  go_wp2
  exact ⟨rfl, Or.inr ⟨by decide, rfl⟩, fun h => absurd h (by decide), HM.out⟩
 have t3 : (X.1.toList == pa.toList) = true := by rw [qP]; simp
 replace HR : Hid (R = if Y.2 = 0 then (Y.1, 0) else (⟨#[]⟩, Y.2)) := Lib.hid (by rw [HR.out, if_pos qX, if_pos qP])
 clear qP
 rw [t3, Bool.not_true]
 have c5 := HX1.out
 go_wp2_with fail
 refine (HWY.out _).mono ?_
 rintro e w12 ⟨rfl, hb⟩
 clear c5
 replace HC := Lib.hid (blk_below HC.out hb)
 replace HM := Lib.hid (HM.out.trans (Moved.of_below hb))
 clear hb
 by_cases qY : Y.2 = 0
 rotate_left
 ·go_wp2_with fail
  refine (must_err _ _ qY _).mono ?_
  rintro e v4 ⟨rfl, rfl⟩
  obtain rfl : R = (⟨#[]⟩, Y.2) := by rw [HR.out, if_neg qY]
  go_wp2
  exact ⟨rfl, Or.inr ⟨qY, rfl⟩, fun h => absurd h qY, HM.out⟩
 go_wp2_with fail
 try rw [qY]
 refine (must_ok _ _).mono ?_
 rintro e v4 ⟨rfl, rfl⟩
 have c6 := cell_of_blk (j := 0) (v := .string ⟨#[]⟩) HC.out rfl
 have z6 := free_of_blk (j := 0) HC.out
 go_wp2
 have g1 := blk_setCell (j := 0) (u := .string Y.1) HC.out
 have g2 := HM.out.trans (Moved.setCell (S := (· = C)) v4 (a := ⟨C, 0, none⟩) rfl (.string Y.1))
 obtain rfl : R = (Y.1, 0) := by rw [HR.out, if_pos qY]
 clear c6 z6
 generalize v4.setCell ⟨C, 0, none⟩ (.string Y.1) = V2 at g1 g2 ⊢
 go_end0
 exact ⟨Or.inl ⟨rfl, rfl⟩, fun _ => g1, g2⟩
end Go.Proofs.YtlhoahbpklhpmaaGreatDoor
end
section

namespace Go.Proofs.YtlhoahbpklhpmaaGreatDoor
open Go.RowKit Go.Proofs.YtlhoahbpklhpmaaGreatDoorW.PrintWords Go.Proofs.YtlhoahbpklhpmaaGreatDoorW.PrintLast Go.Proofs.YtlhoahbpklhpmaaGreatDoor.Ref Go.Proofs.YtlhoahbpklhpmaaGreatDoor.PA Go.Proofs.YtlhoahbpklhpmaaGreatDoor.PB
set_option linter.unusedVariables false
set_option linter.unusedSimpArgs false
theorem ev_some {α : Type} {g : Nat → Option α} {r : α} (h : Ev g r) : ∃ k, g k = some r := by
 obtain ⟨k, hk⟩ := h
 exact ⟨k, hk k (Nat.le_refl _)⟩
theorem atom_call (n : Nat) (h : n < 18446744073709551616) (W : World) : Calls Tryz.prog 9 #[.int .u64 n] W fun e w' => e = .returned (.string (atomB n)) ∧ Below W.heap.size W w' := by
 obtain ⟨k, hk⟩ := ev_some (ofAtom_ev n h)
 exact term_OfAtom.calls k n _ W hk
theorem text_call {s : ByteArray} (h : s.size ≤ 3000) : Tells 38 #[.string s] (textB s, 0) := fun W => by
 have h1 : textF s = (textB s, 0) := by
  unfold textF
  rw [if_neg]
  have := size_numB (n := s.size) (by omega)
  unfold textB
  rw [ByteArray.size_append, ByteArray.size_append, size_one]; omega
 obtain ⟨k, hk⟩ := ev_some (ofText_ev s (by omega))
 rw [h1] at hk
 exact term_OfText.calls k s _ _ W hk
theorem pair_call {a b : ByteArray} (ha : a.size ≤ 1000000) (hb : b.size ≤ 1000000) : Tells 37 #[.string a, .string b] (pairF a b) := fun W => term_OfPair.calls a b _ _ W (pair_val a b (by omega) (by omega))
theorem seal_val {a b : ByteArray} (ha : a.size ≤ 1000000) (hb : b.size ≤ 1000000) : term_Seal.f a b = some (sealF a b) := by
 unfold term_Seal.f
 rw [of_val _ _ (by rw [size_one]; omega) (by simp) (by intro s hs; simp at hs; rcases hs with rfl | rfl <;> omega)]
 rfl
theorem seal_call {a b : ByteArray} (ha : a.size ≤ 1000000) (hb : b.size ≤ 1000000) : Tells 10 #[.string a, .string b] (sealF a b) := fun W => term_Seal.calls a b _ _ W (seal_val ha hb)
theorem sign_val {a b : ByteArray} (ha : a.size ≤ 1000000) (hb : b.size ≤ 1000000) : term_Sign.f a b = some (signF a b) := by
 unfold term_Sign.f
 rw [of_val _ _ (by rw [size_one]; omega) (by simp) (by intro s hs; simp at hs; rcases hs with rfl | rfl <;> omega)]
 rfl
theorem sign_call {a b : ByteArray} (ha : a.size ≤ 1000000) (hb : b.size ≤ 1000000) : Tells 11 #[.string a, .string b] (signF a b) := fun W => term_Sign.calls a b _ _ W (sign_val ha hb)
theorem key_call {s : ByteArray} (h : s.size ≤ 1000000) : Tells 39 #[.string s] (keyF s) := fun W => by
 obtain ⟨k, hk⟩ := ev_some (key_ev s (by omega))
 exact regress_Key.calls k s _ _ W hk
theorem back_call {s : ByteArray} (h : s.size ≤ 1000000) (n : Int) (hn : n ≤ 9223372036854775807) : Tells 44 #[.string s, .int .i64 n] (backF s n) := fun W => by
 obtain ⟨k, hk⟩ := ev_some (back_ev s n (by omega) hn)
 exact regress_Back.calls k s n _ _ W hk
theorem kind_call {s : ByteArray} (h : s.size ≤ 1000000) (W : World) : Calls Tryz.prog 27 #[.string s] W fun e w' => e = .returned (.int .u8 (kindF s)) ∧ Below W.heap.size W w' := term_Kind.calls s _ W (kind_val s (by omega))
theorem blk_new (w : World) (o : Obj) : (w.alloc o).heap[w.heap.size]? = some o := by
 show (w.heap.push o)[w.heap.size]? = some o
 exact Array.getElem?_push_size
theorem blk_at (w : World) (o : Obj) (b : Nat) (hb : b = w.heap.size) : (w.alloc o).heap[b]? = some o := by subst hb; exact blk_new w o
theorem blk_alloc {w : World} {b : Nat} {o : Obj} (h : w.heap[b]? = some o) (o' : Obj) : (w.alloc o').heap[b]? = some o := by
 rw [Below.heap_alloc _ _ _ (by rw [Array.getElem?_eq_some_iff] at h; exact h.1)]; exact h
theorem u64_small {k : Nat} (h : k ≤ 7) : IntKind.u64.wrap (k : Int) = (k : Int) := by
 rw [IntKind.wrap_u64]; omega
theorem signed_ok {k : Nat} (h : k ≤ 7) {s : ByteArray} (hs : s.size ≤ 1000000) (W : World) (h0 : (signedF k s).2 = 0) :
  Calls Tryz.prog 40 #[.int .i64 k, .string s] W fun e w' => e = .returned (.string (signedF k s).1) ∧ Below W.heap.size W w' := by
 have hA := atom_call k (by omega)
 have hP : Tells 37 #[.string (atomB k), .string s] (signedF k s) := pair_call (by have := size_atomB (n := k) (by omega); omega) hs
 generalize signedF k s = R at *
 generalize atomB k = a at *
 have HA := Lib.hid hA
 have HP := Lib.hid hP
 have hk := u64_small h
 clear hA hP
 go_enter Tryz.func40, Tryz.ntmps40
 go_wp2_with fail
 refine (HA.out _).mono ?_
 rintro e w1 ⟨rfl, hb⟩
 have HB := Lib.hid hb
 clear hb
 go_wp2_with fail
 refine (HP.out _).mono ?_
 rintro e w2 ⟨rfl, hb⟩
 replace HB := Lib.hid (below_step HB.out hb)
 clear hb
 go_wp2_with fail
 try rw [h0]
 refine (must_ok _ _).mono ?_
 rintro e w3 ⟨rfl, rfl⟩
 go_wp2
 go_ret
 exact ⟨rfl, HB.out⟩
theorem signed_err {k : Nat} (h : k ≤ 7) {s : ByteArray} (hs : s.size ≤ 1000000) (W : World) (h0 : (signedF k s).2 ≠ 0) :
  Calls Tryz.prog 40 #[.int .i64 k, .string s] W fun e w' => e = .panicked (failed (signedF k s).2) ∧ Below W.heap.size W w' := by
 have hA := atom_call k (by omega)
 have hP : Tells 37 #[.string (atomB k), .string s] (signedF k s) := pair_call (by have := size_atomB (n := k) (by omega); omega) hs
 generalize signedF k s = R at *
 generalize atomB k = a at *
 have HA := Lib.hid hA
 have HP := Lib.hid hP
 have hk := u64_small h
 clear hA hP
 go_enter Tryz.func40, Tryz.ntmps40
 go_wp2_with fail
 refine (HA.out _).mono ?_
 rintro e w1 ⟨rfl, hb⟩
 have HB := Lib.hid hb
 clear hb
 go_wp2_with fail
 refine (HP.out _).mono ?_
 rintro e w2 ⟨rfl, hb⟩
 replace HB := Lib.hid (below_step HB.out hb)
 clear hb
 go_wp2_with fail
 refine (must_err _ _ h0 _).mono ?_
 rintro e w3 ⟨rfl, rfl⟩
 go_wp2
 exact ⟨rfl, rfl, HB.out⟩
theorem epochs_call (n : Int) (W : World) : Calls Tryz.prog 33 #[.int .i64 n] W fun e w' => e = .returned (.bool (epochB n)) ∧ Below W.heap.size W w' := by
 have HB := Lib.hid (Below.refl W.heap.size W)
 by_cases h1 : 0 ≤ n
 ·by_cases h2 : n ≤ 7
  ·rw [show epochB n = true from decide_eq_true ⟨h1, h2⟩]
   have d1 : decide (0 ≤ n) = true := decide_eq_true h1
   have d2 : decide (n < 8) = true := decide_eq_true (by omega)
   clear h1 h2
   go_enter Tryz.func33, Tryz.ntmps33
   go_wp2
   go_ret
   exact ⟨rfl, HB.out⟩
  ·rw [show epochB n = false from decide_eq_false (fun h => h2 h.2)]
   have d1 : decide (0 ≤ n) = true := decide_eq_true h1
   have d2 : decide (n < 8) = false := decide_eq_false (by omega)
   clear h1 h2
   go_enter Tryz.func33, Tryz.ntmps33
   go_wp2
   go_ret
   exact ⟨rfl, HB.out⟩
 ·rw [show epochB n = false from decide_eq_false (fun h => h1 h.1)]
  have d1 : decide (0 ≤ n) = false := decide_eq_false h1
  clear h1
  go_enter Tryz.func33, Tryz.ntmps33
  go_wp2
  go_ret
  exact ⟨rfl, HB.out⟩
theorem rightBl_call (b : Bl) (hs : b.s.size ≤ 1000000) (hg : b.g.size ≤ 1000000) (W : World) :
  Calls Tryz.prog 31 #[.agg #[.int .i64 b.e, .string b.s, .string b.g]] W fun e w' => e = .returned (.bool (rightBl b)) ∧ Below W.heap.size W w' := by
 obtain ⟨e, s, g⟩ := b
 have HE := Lib.hid (epochs_call e)
 have HK1 := Lib.hid (fun W => kind_call (s := s) hs W)
 have HK2 := Lib.hid (fun W => kind_call (s := g) hg W)
 have HR : Hid (rightBl ⟨e, s, g⟩ = (epochB e && (decide (kindF s = 115) && decide (kindF g = 103)))) := Lib.hid rfl
 generalize rightBl ⟨e, s, g⟩ = R at *
 clear hs hg
 simp only
 generalize epochB e = E at *
 generalize kindF s = k1 at *
 generalize kindF g = k2 at *
 have HB0 : Hid (Below W.heap.size W (W.alloc (.cells #[.int .i64 e, .string s, .string g] 37))) := Lib.hid ((Below.refl _ _).alloc (Nat.le_refl _) _)
 go_enter Tryz.func31, Tryz.ntmps31
 go_wp2_with fail
 refine (HE.out _).mono ?_
 rintro e1 w1 ⟨rfl, hb⟩
 have HN : Hid (w1.heap[W.heap.size]? = some (.cells #[.int .i64 e, .string s, .string g] 37 (0, 0))) := Lib.hid (blk_below (blk_new _ _) hb)
 have HB := Lib.hid (below_step HB0.out hb)
 clear hb HB0
 cases E with
 | false =>
  obtain rfl : R = false := HR.out
  go_wp2
  go_ret
  exact ⟨rfl, HB.out⟩
 | true =>
  have c1 := cell_of_blk (j := 1) (v := .string s) HN.out rfl
  go_wp2_with fail
  refine (HK1.out _).mono ?_
  rintro e1 w2 ⟨rfl, hb⟩
  clear c1
  replace HN := Lib.hid (blk_below HN.out hb)
  replace HB := Lib.hid (below_step HB.out hb)
  clear hb
  by_cases q1 : k1 = 115
  ·subst q1
   have c2 := cell_of_blk (j := 2) (v := .string g) HN.out rfl
   go_wp2_with fail
   refine (HK2.out _).mono ?_
   rintro e1 w3 ⟨rfl, hb⟩
   clear c2
   replace HB := Lib.hid (below_step HB.out hb)
   clear hb
   by_cases q2 : k2 = 103
   ·subst q2
    obtain rfl : R = true := HR.out
    go_wp2
    go_ret
    exact ⟨rfl, HB.out⟩
   ·obtain rfl : R = false := by rw [HR.out]; simp [q2]
    have t : (k2 == 103) = false := by rw [beq_eq_false_iff_ne]; exact q2
    go_wp2
    go_ret
    exact ⟨rfl, HB.out⟩
  ·obtain rfl : R = false := by rw [HR.out]; simp [q1]
   have t : (k1 == 115) = false := by rw [beq_eq_false_iff_ne]; exact q1
   go_wp2
   go_ret
   exact ⟨rfl, HB.out⟩
theorem parts_two {k : K2} {a b : T} (hw : Wf (.two k a b)) (W : World) :
  Calls Tryz.prog 46 #[.string (tm (.two k a b))] W fun e w' => ∃ v0 : Value, e = .returned (.tuple #[v0, .int .i64 0]) ∧ Kd.R Kd.string 9 w' W.heap.size (fun _ => True) v0 [tm a, tm b] ∧ Below W.heap.size W w' := by
 have hs : (tm (.two k a b)).size ≤ 4000 := right_size (right_tm hw)
 refine term_Parts.calls _ _ _ W ?_
 unfold term_Parts.f partsF
 rw [if_pos (by omega), term_tm hw]
 rfl
theorem sealedPair_call {a b : T} (hw : Wf (.two .s a b)) (W : World) :
  Calls Tryz.prog 49 #[.string (tm (.two .s a b))] W fun e w' => e = .returned (.bool (decide (b.code.toNat = 112))) ∧ Below W.heap.size W w' := by
 have hP := parts_two hw
 have hK := fun W => kind_call (s := tm b) (by have := right_size (right_tm (wf_right hw)); omega) W
 rw [kind_tm (wf_right hw)] at hK
 generalize tm (.two .s a b) = z at *
 generalize tm a = x at *
 generalize tm b = y at *
 generalize b.code.toNat = n at *
 have HD : Hid (decide (n = 112) = decide (n = 112)) := Lib.hid rfl
 obtain ⟨D, hD⟩ : ∃ D, decide (n = 112) = D := ⟨_, rfl⟩
 rw [hD]
 replace HD := Lib.hid hD
 clear hD
 have HP := Lib.hid hP
 have HK := Lib.hid hK
 clear hP hK hw
 go_enter Tryz.func49, Tryz.ntmps49
 go_wp2_with fail
 refine (HP.out _).mono ?_
 rintro e w1 ⟨v0, rfl, hl, hb⟩
 obtain ⟨g, c, rfl, hc, h0, h1⟩ := two_of hl
 have HB := Lib.hid hb
 clear hb hl h0
 go_wp2_with fail
 refine (HK.out _).mono ?_
 rintro e w2 ⟨rfl, hb⟩
 replace HB := Lib.hid (below_step HB.out hb)
 clear hb h1
 by_cases q : n = 112
 ·obtain rfl : D = true := by rw [← HD.out, decide_eq_true q]
  subst q
  go_wp2
  go_ret
  exact ⟨rfl, HB.out⟩
 ·obtain rfl : D = false := by rw [← HD.out, decide_eq_false q]
  have t : ((n : Int) == 112) = false := by rw [beq_eq_false_iff_ne]; omega
  go_wp2
  go_ret
  exact ⟨rfl, HB.out⟩
theorem put3 {w W : World} (hb : Below w.heap.size w W) {b : Nat} {x y z : Value} {t : TypeId} (h : W.heap[b]? = some (.cells #[x, y, z] t (0, 0))) (hn : w.heap.size ≤ b) (x' y' z' : Value) :
  (((W.setCell ⟨b, 0, none⟩ x').setCell ⟨b, 1, none⟩ y').setCell ⟨b, 2, none⟩ z').heap[b]? = some (.cells #[x', y', z'] t (0, 0)) ∧ Below w.heap.size w (((W.setCell ⟨b, 0, none⟩ x').setCell ⟨b, 1, none⟩ y').setCell ⟨b, 2, none⟩ z') := by
 have m : Moved (· = b) W (((W.setCell ⟨b, 0, none⟩ x').setCell ⟨b, 1, none⟩ y').setCell ⟨b, 2, none⟩ z') :=
  ((Moved.setCell (S := (· = b)) W (a := ⟨b, 0, none⟩) rfl x').trans (Moved.setCell (S := (· = b)) _ (a := ⟨b, 1, none⟩) rfl y')).trans (Moved.setCell (S := (· = b)) _ (a := ⟨b, 2, none⟩) rfl z')
 exact ⟨blk_setCell (j := 2) (blk_setCell (j := 1) (blk_setCell (j := 0) h)), Moved.below hb m hb.size (fun k hk => by subst hk; exact hn)⟩
theorem key_size (s : ByteArray) : (keyF s).1.size ≤ 4000 := by
 unfold keyF
 split
 ·split
  ·exact hash_size _
  ·exact Nat.zero_le _
 ·exact Nat.zero_le _
theorem textB_small (s : ByteArray) (h : s.size ≤ 3000) : (textB s).size ≤ 1000000 := by
 have := size_numB (n := s.size) (by omega)
 unfold textB
 rw [ByteArray.size_append, ByteArray.size_append, size_one]; omega
theorem built_err {e : Int} {k : ByteArray × Int} {p sg : ByteArray} (h : (builtF e k p sg).2 ≠ 0) : builtF e k p sg = (noBl, (builtF e k p sg).2) := by
 unfold builtF at h ⊢
 repeat' split
 all_goals first | rfl | skip
 all_goals simp_all
theorem built_e {e : Int} {k : ByteArray × Int} {p sg : ByteArray} (h : (builtF e k p sg).2 = 0) : (builtF e k p sg).1.e = e := by
 unfold builtF at h ⊢
 repeat' split
 all_goals first | rfl | skip
 all_goals simp_all
theorem epoch_nat {e : Int} (h : epochB e = true) : ∃ k : Nat, e = (k : Int) ∧ k ≤ 7 := by
 have h' : 0 ≤ e ∧ e ≤ 7 := of_decide_eq_true h
 obtain ⟨k, rfl⟩ := Int.eq_ofNat_of_zero_le h'.1
 exact ⟨k, rfl, by omega⟩
def BlPost (w : World) (R : Bl × Int) (e : Ending) (w' : World) : Prop := e = .returned (.tuple #[.agg #[.int .i64 R.1.e, .string R.1.s, .string R.1.g], .int .i64 R.2]) ∧ Below w.heap.size w w'
set_option maxRecDepth 100000 in
set_option maxHeartbeats 4000000 in
theorem build_call {st sg pa ct : ByteArray} {e0 : Int} (hst : st.size ≤ 1000000) (hsg : sg.size ≤ 1000000) (hpa : pa.size ≤ 1000000) (w : World) (HTB : Aside0 (Tabs w)) :
  Calls Tryz.prog 15 #[.string st, .int .i64 e0, .string sg, .string pa, .string ct] w (BlPost w (buildF st e0 sg pa ct)) := by
 obtain ⟨R, hR⟩ : ∃ R, buildF st e0 sg pa ct = R := ⟨_, rfl⟩
 have HV : Hid (R = buildF st e0 sg pa ct) := Lib.hid hR.symm
 rw [hR]
 clear hR
 have HSP : Hid (∀ W : World, Below w.heap.size w W → Calls Tryz.prog 32 #[.string pa] W fun e w' => e = .returned (.tuple #[.string (splitF pa).1, .string (splitF pa).2.1, .int .i64 (splitF pa).2.2]) ∧ Below W.heap.size W w') :=
  Lib.hid (fun W hb => name_Split.calls pa _ _ _ W ⟨HTB.out.below hb⟩ (split_val pa (by omega)))
 have HEP := Lib.hid (epochs_call e0)
 have HK1 := Lib.hid (fun W => kind_call (s := st) hst W)
 have HK2 := Lib.hid (fun W => kind_call (s := sg) hsg W)
 have hmf : ∀ (fn : Fn) (first cap : Array Value) (w : World), (Instr.makeFunc fn first cap).run Tryz.prog w = .ok (.func fn first cap) w := fun _ _ _ _ => rfl
 go_enter Tryz.func15, Tryz.ntmps15
 go_wp2_with fail
 refine (HSP.out _ (by repeat' (first | exact Below.refl _ _ | apply below_alloc))).mono ?_
 rintro e w1 ⟨rfl, hb⟩
 have HS : Hid (w1.heap[w.heap.size]? = some (.cells #[.string st] 9 (0, 0))) := Lib.hid (blk_below (blk_alloc (blk_alloc (blk_alloc (blk_alloc (blk_alloc (blk_at _ _ _ (by simp)) _) _) _) _) _) hb)
 have HE : Hid (w1.heap[w.heap.size + 1]? = some (.cells #[.int .i64 e0] 3 (0, 0))) := Lib.hid (blk_below (blk_alloc (blk_alloc (blk_alloc (blk_alloc (blk_at _ _ _ (by simp)) _) _) _) _) hb)
 have HG : Hid (w1.heap[w.heap.size + 2]? = some (.cells #[.string sg] 9 (0, 0))) := Lib.hid (blk_below (blk_alloc (blk_alloc (blk_alloc (blk_at _ _ _ (by simp)) _) _) _) hb)
 have HP : Hid (w1.heap[w.heap.size + 3]? = some (.cells #[.string pa] 9 (0, 0))) := Lib.hid (blk_below (blk_alloc (blk_alloc (blk_at _ _ _ (by simp)) _) _) hb)
 have HC : Hid (w1.heap[w.heap.size + 4]? = some (.cells #[.string ct] 9 (0, 0))) := Lib.hid (blk_below (blk_alloc (blk_at _ _ _ (by simp)) _) hb)
 have HR : Hid (w1.heap[w.heap.size + 5]? = some (.cells #[.int .i64 0, .string ⟨#[]⟩, .string ⟨#[]⟩] 37 (0, 0))) := Lib.hid (blk_below (blk_at _ _ _ (by simp)) hb)
 have HB : Hid (Below w.heap.size w w1) := Lib.hid (below_step (w := w) (by repeat' (first | exact Below.refl _ _ | apply below_alloc)) hb)
 clear hb HSP HTB
 have cE0 : w1.cell? ⟨w.heap.size + 1, 0, none⟩ = some (.int .i64 e0) := cell_of_blk HE.out rfl
 go_wp2_with fail
 refine (HEP.out _).mono ?_
 rintro e w2 ⟨rfl, hb⟩
 clear cE0
 replace HS := Lib.hid (blk_below HS.out hb)
 replace HE := Lib.hid (blk_below HE.out hb)
 replace HG := Lib.hid (blk_below HG.out hb)
 replace HP := Lib.hid (blk_below HP.out hb)
 replace HC := Lib.hid (blk_below HC.out hb)
 replace HR := Lib.hid (blk_below HR.out hb)
 replace HB := Lib.hid (below_step HB.out hb)
 clear hb
 by_cases qE : epochB e0 = true
 rotate_left
 ·have qE' : epochB e0 = false := by simpa using qE
  rw [qE']
  have cR0 := cell_of_blk (j := 0) (v := .int .i64 0) HR.out rfl
  have cR1 := cell_of_blk (j := 1) (v := .string ⟨#[]⟩) HR.out rfl
  have cR2 := cell_of_blk (j := 2) (v := .string ⟨#[]⟩) HR.out rfl
  have zR0 := free_of_blk (j := 0) HR.out
  have zR1 := free_of_blk (j := 1) HR.out
  have zR2 := free_of_blk (j := 2) HR.out
  obtain ⟨hblk, hbe⟩ := put3 HB.out HR.out (by omega) (.int .i64 0) (.string ⟨#[]⟩) (.string ⟨#[]⟩)
  go_wp2
  refine bodyPost_ret (results_ct rfl _ _ (w.heap.size + 5) 37 _ (0, 0) _ rfl hblk Tryz.underlying37 rfl (by kernel_rfl)) rfl ?_
  obtain rfl : R = (noBl, 1) := by rw [HV.out]; exact build_bad (by unfold buildOk; rw [qE', Bool.false_and])
  exact ⟨rfl, hbe⟩
 rw [qE]
 have cS0 : w2.cell? ⟨w.heap.size, 0, none⟩ = some (.string st) := cell_of_blk HS.out rfl
 go_wp2_with fail
 refine (HK1.out _).mono ?_
 rintro e w3 ⟨rfl, hb⟩
 clear cS0
 replace HS := Lib.hid (blk_below HS.out hb)
 replace HE := Lib.hid (blk_below HE.out hb)
 replace HG := Lib.hid (blk_below HG.out hb)
 replace HP := Lib.hid (blk_below HP.out hb)
 replace HC := Lib.hid (blk_below HC.out hb)
 replace HR := Lib.hid (blk_below HR.out hb)
 replace HB := Lib.hid (below_step HB.out hb)
 clear hb
 by_cases q1 : kindF st = 0
 ·have t1 : (kindF st == 0) = true := by rw [q1]; rfl
  have cR0 := cell_of_blk (j := 0) (v := .int .i64 0) HR.out rfl
  have cR1 := cell_of_blk (j := 1) (v := .string ⟨#[]⟩) HR.out rfl
  have cR2 := cell_of_blk (j := 2) (v := .string ⟨#[]⟩) HR.out rfl
  have zR0 := free_of_blk (j := 0) HR.out
  have zR1 := free_of_blk (j := 1) HR.out
  have zR2 := free_of_blk (j := 2) HR.out
  obtain ⟨hblk, hbe⟩ := put3 HB.out HR.out (by omega) (.int .i64 0) (.string ⟨#[]⟩) (.string ⟨#[]⟩)
  go_wp2
  refine bodyPost_ret (results_ct rfl _ _ (w.heap.size + 5) 37 _ (0, 0) _ rfl hblk Tryz.underlying37 rfl (by kernel_rfl)) rfl ?_
  obtain rfl : R = (noBl, 1) := by rw [HV.out]; exact build_bad (by unfold buildOk; rw [(kindF_zero st).1 q1]; simp)
  exact ⟨rfl, hbe⟩
 have t1 : (kindF st == 0) = false := by rw [beq_eq_false_iff_ne]; exact q1
 have cG0 : w3.cell? ⟨w.heap.size + 2, 0, none⟩ = some (.string sg) := cell_of_blk HG.out rfl
 go_wp2_with fail
 refine (HK2.out _).mono ?_
 rintro e w4 ⟨rfl, hb⟩
 clear cG0
 replace HS := Lib.hid (blk_below HS.out hb)
 replace HE := Lib.hid (blk_below HE.out hb)
 replace HG := Lib.hid (blk_below HG.out hb)
 replace HP := Lib.hid (blk_below HP.out hb)
 replace HC := Lib.hid (blk_below HC.out hb)
 replace HR := Lib.hid (blk_below HR.out hb)
 replace HB := Lib.hid (below_step HB.out hb)
 clear hb
 by_cases q2 : kindF sg = 0
 ·have t2 : (kindF sg == 0) = true := by rw [q2]; rfl
  have cR0 := cell_of_blk (j := 0) (v := .int .i64 0) HR.out rfl
  have cR1 := cell_of_blk (j := 1) (v := .string ⟨#[]⟩) HR.out rfl
  have cR2 := cell_of_blk (j := 2) (v := .string ⟨#[]⟩) HR.out rfl
  have zR0 := free_of_blk (j := 0) HR.out
  have zR1 := free_of_blk (j := 1) HR.out
  have zR2 := free_of_blk (j := 2) HR.out
  obtain ⟨hblk, hbe⟩ := put3 HB.out HR.out (by omega) (.int .i64 0) (.string ⟨#[]⟩) (.string ⟨#[]⟩)
  go_wp2
  refine bodyPost_ret (results_ct rfl _ _ (w.heap.size + 5) 37 _ (0, 0) _ rfl hblk Tryz.underlying37 rfl (by kernel_rfl)) rfl ?_
  obtain rfl : R = (noBl, 1) := by rw [HV.out]; exact build_bad (by unfold buildOk; rw [(kindF_zero sg).1 q2]; simp)
  exact ⟨rfl, hbe⟩
 have t2 : (kindF sg == 0) = false := by rw [beq_eq_false_iff_ne]; exact q2
 by_cases q3 : (splitF pa).2.2 = 0
 rotate_left
 ·have t3 : ((splitF pa).2.2 != 0) = true := by rw [bne_iff_ne]; exact q3
  have cR0 := cell_of_blk (j := 0) (v := .int .i64 0) HR.out rfl
  have cR1 := cell_of_blk (j := 1) (v := .string ⟨#[]⟩) HR.out rfl
  have cR2 := cell_of_blk (j := 2) (v := .string ⟨#[]⟩) HR.out rfl
  have zR0 := free_of_blk (j := 0) HR.out
  have zR1 := free_of_blk (j := 1) HR.out
  have zR2 := free_of_blk (j := 2) HR.out
  obtain ⟨hblk, hbe⟩ := put3 HB.out HR.out (by omega) (.int .i64 0) (.string ⟨#[]⟩) (.string ⟨#[]⟩)
  go_wp2
  refine bodyPost_ret (results_ct rfl _ _ (w.heap.size + 5) 37 _ (0, 0) _ rfl hblk Tryz.underlying37 rfl (by kernel_rfl)) rfl ?_
  obtain rfl : R = (noBl, 1) := by rw [HV.out]; exact build_bad (by unfold buildOk; rw [decide_eq_false q3]; simp)
  exact ⟨rfl, hbe⟩
 have t3 : ((splitF pa).2.2 != 0) = false := by rw [q3]; rfl
 have hok : buildOk st e0 sg pa = true := by
  unfold buildOk
  have r1 : right st = true := by cases h : right st with | true => rfl | false => exact absurd ((kindF_zero st).2 h) q1
  have r2 : right sg = true := by cases h : right sg with | true => rfl | false => exact absurd ((kindF_zero sg).2 h) q2
  rw [qE, r1, r2, decide_eq_true q3]; rfl
 replace HV : Hid (R = if ct.size ≤ 64 then builtF e0 (keyF st) (bodyF pa ct) sg else (noBl, 10)) := Lib.hid (by rw [HV.out]; unfold buildF; rw [if_pos hok])
 have cC0 := cell_of_blk (j := 0) (v := .string ct) HC.out rfl
 by_cases q4 : ct.size ≤ 64
 rotate_left
 ·have t4 : decide (64 < (ct.size : Int)) = true := decide_eq_true (by omega)
  have cR0 := cell_of_blk (j := 0) (v := .int .i64 0) HR.out rfl
  have cR1 := cell_of_blk (j := 1) (v := .string ⟨#[]⟩) HR.out rfl
  have cR2 := cell_of_blk (j := 2) (v := .string ⟨#[]⟩) HR.out rfl
  have zR0 := free_of_blk (j := 0) HR.out
  have zR1 := free_of_blk (j := 1) HR.out
  have zR2 := free_of_blk (j := 2) HR.out
  obtain ⟨hblk, hbe⟩ := put3 HB.out HR.out (by omega) (.int .i64 0) (.string ⟨#[]⟩) (.string ⟨#[]⟩)
  go_wp2
  refine bodyPost_ret (results_ct rfl _ _ (w.heap.size + 5) 37 _ (0, 0) _ rfl hblk Tryz.underlying37 rfl (by kernel_rfl)) rfl ?_
  obtain rfl : R = (noBl, 10) := by rw [HV.out]; rw [if_neg q4]
  exact ⟨rfl, hbe⟩
 have t4 : decide (64 < (ct.size : Int)) = false := decide_eq_false (by omega)
 replace HV : Hid (R = builtF e0 (keyF st) (bodyF pa ct) sg) := Lib.hid (by rw [HV.out, if_pos q4])
 have cE0 := cell_of_blk (j := 0) (v := .int .i64 e0) HE.out rfl
 go_wp2_with fail
 clear cC0 cE0
 obtain ⟨k, rfl, hk⟩ := epoch_nat qE
 have hps := split_size q3
 have hbd := bodyF_tm (pa := pa) (ct := ct) (by omega) q4
 have HX : Hid (∀ B : Nat, B = w4.heap.size → ∀ Wc : World, Wc = w4.alloc (.cells #[.int .i64 (k : Int), .string ⟨#[]⟩, .string ⟨#[]⟩] 37) →
   Calls Tryz.prog 34 #[.func (Fn.func 35) #[] #[.pointer (some ⟨w.heap.size + 3, 0, none⟩), .pointer (some ⟨w.heap.size + 4, 0, none⟩), .pointer (some ⟨w.heap.size, 0, none⟩), .pointer (some ⟨B, 0, none⟩), .pointer (some ⟨w.heap.size + 2, 0, none⟩), .pointer (some ⟨w.heap.size + 1, 0, none⟩)]] Wc fun e w' =>
    e = .returned (.int .i64 R.2) ∧ ((R.2 = 0 → w'.heap[B]? = some (.cells #[.int .i64 (k : Int), .string R.1.s, .string R.1.g] 37 (0, 0))) ∧ w'.heap[w.heap.size + 5]? = some (.cells #[.int .i64 0, .string ⟨#[]⟩, .string ⟨#[]⟩] 37 (0, 0)) ∧ Below w.heap.size w w')) := by
  refine Lib.hid ?_
  rintro B rfl Wc rfl
  have lt := HB.out.size
  have ltR : w.heap.size + 5 < w4.heap.size := by have h := HR.out; rw [Array.getElem?_eq_some_iff] at h; exact h.1
  refine caught_build _ _ R.2 _ (fun a b ha hm => ⟨fun h => keep hm (ha.1 h) (by simp), keep hm ha.2.1 (by simp; omega), ?_⟩) ?_
  ·exact Moved.below ha.2.2 hm ha.2.2.size (fun j hj => by subst hj; simp; omega)
  ·refine (build1_walk (P := w.heap.size + 3) (C := w.heap.size + 4) (St := w.heap.size) (B := w4.heap.size) (G := w.heap.size + 2) (Ep := w.heap.size + 1) (tp := textB pa) (tc := textB ct) (bp := bodyF pa ct) (Ky := keyF st) (Se := sealF (keyF st).1 (bodyF pa ct)) (M := signedF k (sealF (keyF st).1 (bodyF pa ct)).1) (X := signF sg (signedF k (sealF (keyF st).1 (bodyF pa ct)).1).1) (R := R) _
    (blk_alloc (blk_alloc HP.out _) _) (blk_alloc (blk_alloc HC.out _) _) (blk_alloc (blk_alloc HS.out _) _) (blk_alloc (blk_new _ _) _) (blk_alloc (blk_alloc HG.out _) _) (blk_alloc (blk_alloc HE.out _) _)
    (by omega) (by omega) (by omega) (by omega) (by omega)
    (text_call (by omega)) (text_call (by omega)) (hbd.2 ▸ pair_call (textB_small _ (by omega)) (textB_small _ (by omega)))
    (key_call hst) (seal_call (by have := key_size st; omega) (by have := pair_size (textB pa) (textB ct); unfold bodyF; omega))
    (fun W h => signed_ok hk (by have := ofF_size (⟨#[115]⟩ : ByteArray) [(keyF st).1, bodyF pa ct]; unfold sealF; omega) W h)
    (fun W h => signed_err hk (by have := ofF_size (⟨#[115]⟩ : ByteArray) [(keyF st).1, bodyF pa ct]; unfold sealF; omega) W h)
    (sign_call hsg (by have := pair_size (atomB k) (sealF (keyF st).1 (bodyF pa ct)).1; unfold signedF; rw [Int.toNat_natCast]; omega)) (by rw [HV.out]; rfl)).mono ?_
   rintro e w' ⟨h1, h2, h3⟩
   refine ⟨h1, ?_, h2, ?_, ?_⟩
   ·exact keep h3 (blk_at _ _ _ (by simp)) (by simp)
   ·exact keep h3 (blk_alloc (blk_alloc HR.out _) _) (by omega)
   ·exact Moved.below (below_alloc (below_alloc HB.out _) _) h3 (by simp; omega) (fun j hj => by subst hj; omega)
 refine (HX.out _ rfl _ rfl).mono ?_
 rintro e w5 ⟨rfl, hB5, hR5, hb5⟩
 clear HX HS HG HP HC HE HR HB HEP HK1 HK2
 have HR := Lib.hid hR5
 have HB := Lib.hid hb5
 clear hR5 hb5
 have hsz := HB.out.size
 have cR0 := cell_of_blk (j := 0) (v := .int .i64 0) HR.out rfl
 have cR1 := cell_of_blk (j := 1) (v := .string ⟨#[]⟩) HR.out rfl
 have cR2 := cell_of_blk (j := 2) (v := .string ⟨#[]⟩) HR.out rfl
 have zR0 := free_of_blk (j := 0) HR.out
 have zR1 := free_of_blk (j := 1) HR.out
 have zR2 := free_of_blk (j := 2) HR.out
 by_cases q5 : R.2 = 0
 rotate_left
 ·have t5 : (R.2 != 0) = true := by rw [bne_iff_ne]; exact q5
  have hR1 : R = (noBl, R.2) := by rw [HV.out] at q5 ⊢; exact built_err q5
  have HR1 := Lib.hid hR1
  obtain ⟨hblk, hbe⟩ := put3 HB.out HR.out (by omega) (.int .i64 0) (.string ⟨#[]⟩) (.string ⟨#[]⟩)
  clear hR1 hB5
  go_wp2
  refine bodyPost_ret (results_ct rfl _ _ (w.heap.size + 5) 37 _ (0, 0) _ rfl hblk Tryz.underlying37 rfl (by kernel_rfl)) rfl ?_
  refine ⟨?_, hbe⟩
  rw [show R.1 = noBl from congrArg Prod.fst HR1.out]
  rfl
 have t5 : (R.2 != 0) = false := by rw [q5]; rfl
 have hB := hB5 q5
 have he : R.1.e = (k : Int) := by rw [HV.out] at q5 ⊢; exact built_e q5
 have HE := Lib.hid he
 have cB0 := cell_of_blk (j := 0) (v := .int .i64 (k : Int)) hB rfl
 have cB1 := cell_of_blk (j := 1) (v := .string R.1.s) hB rfl
 have cB2 := cell_of_blk (j := 2) (v := .string R.1.g) hB rfl
 obtain ⟨hblk, hbe⟩ := put3 HB.out HR.out (by omega) (.int .i64 (k : Int)) (.string R.1.s) (.string R.1.g)
 clear hB hB5 he
 go_wp2
 refine bodyPost_ret (results_ct rfl _ _ (w.heap.size + 5) 37 _ (0, 0) _ rfl hblk Tryz.underlying37 rfl (by kernel_rfl)) rfl ?_
 refine ⟨?_, hbe⟩
 rw [HE.out]
 first | rfl | (rw [q5]; rfl) | (rw [q5])
end Go.Proofs.YtlhoahbpklhpmaaGreatDoor
end
section

namespace Go.Proofs.YtlhoahbpklhpmaaGreatDoor
open Go.RowKit Go.Proofs.YtlhoahbpklhpmaaGreatDoorW.PrintWords Go.Proofs.YtlhoahbpklhpmaaGreatDoorW.PrintLast Go.Proofs.YtlhoahbpklhpmaaGreatDoor.Ref Go.Proofs.YtlhoahbpklhpmaaGreatDoor.PA Go.Proofs.YtlhoahbpklhpmaaGreatDoor.PB
set_option linter.unusedVariables false
set_option linter.unusedSimpArgs false
theorem parts_wf {t a : T} (h : Wf t) (ha : a ∈ t.parts) : Wf a := by
 cases t with
 | atom n => simp [T.parts] at ha
 | text s => simp [T.parts] at ha
 | one k x => simp only [T.parts, List.mem_singleton] at ha; subst ha; exact wf_one h
 | two k x y =>
  simp only [T.parts, List.mem_cons, List.not_mem_nil, or_false] at ha
  rcases ha with rfl | rfl
  ·exact wf_left h
  ·exact wf_right h
theorem words_tm {t : T} (h : Wf t) : wordsF (tm t) = match t with | .text s => (ofBytes s, 0) | _ => (⟨#[]⟩, 2) := by
 unfold wordsF
 rw [term_tm h]
 cases t <;> rfl
def stepsF (e : Int) (s g v st : ByteArray) (n : Int) (pa : ByteArray) (l : List ByteArray) : ByteArray × Int :=
 if (signedF e s).2 = 0 then (if verifyF v (signedF e s).1 g = 0 then (if (backF st n).2 = 0 then (if (keyF (backF st n).1).2 = 0 then (if (unsealF (keyF (backF st n).1).1 s).2 = 0 then afterF l pa else (⟨#[]⟩, (unsealF (keyF (backF st n).1).1 s).2)) else (⟨#[]⟩, (keyF (backF st n).1).2)) else (⟨#[]⟩, (backF st n).2)) else (⟨#[]⟩, verifyF v (signedF e s).1 g)) else (⟨#[]⟩, (signedF e s).2)
theorem inside_after {a b : T} (hw : Wf (.two .s a b)) {k : ByteArray} (h : tm a = k) (pa : ByteArray) :
  insideF k (tm (.two .s a b)) pa = if (afterF (b.parts.map tm) pa).2 = 0 ∧ (afterF (b.parts.map tm) pa).1.size ≤ 64 ∧ b.code.toNat = 112 then some (afterF (b.parts.map tm) pa).1 else none := by
 unfold insideF
 rw [term_tm hw]
 have hb := wf_right hw
 cases b with
 | atom n => simp [T.code]
 | text n => simp [T.code]
 | one kk x => cases kk <;> simp [T.code, K1.code]
 | two kk x y =>
  cases kk with
  | s => simp [T.code, K2.code]
  | b => simp [T.code, K2.code]
  | g => simp [T.code, K2.code]
  | p =>
   have hx := wf_left hb
   have hy := wf_right hb
   have hc : (T.two K2.p x y).code.toNat = 112 := rfl
   simp only [T.parts, List.map_cons, List.map_nil, afterF, hc, and_true]
   rw [words_tm hx, words_tm hy]
   cases x with
   | atom n => simp
   | one _ _ => simp
   | two _ _ _ => simp
   | text s =>
    simp only [if_true]
    by_cases hp : ofBytes s = pa
    ·simp only [if_pos hp]
     cases y with
     | atom n => simp
     | one _ _ => simp
     | two _ _ _ => simp
     | text s' => simp [h, hp, size_ofBytes]
    ·simp only [if_neg hp]
     cases y with
     | atom n => simp
     | one _ _ => simp
     | two _ _ _ => simp
     | text s' => simp [hp]
theorem inside_not {a b : T} (hw : Wf (.two .s a b)) {k : ByteArray} (h : tm a ≠ k) (pa : ByteArray) : insideF k (tm (.two .s a b)) pa = none := by
 unfold insideF
 rw [term_tm hw]
 split
 ·rename_i heq
  simp only [Option.some.injEq, T.two.injEq, true_and] at heq
  obtain ⟨rfl, rfl⟩ := heq
  rw [if_neg (fun hh => h hh.1)]
 ·rfl
theorem unseal_val {a b : T} (hw : Wf (.two .s a b)) {k : ByteArray} : (tm a = k ∧ unsealF k (tm (.two .s a b)) = (tm b, 0)) ∨ (tm a ≠ k ∧ (unsealF k (tm (.two .s a b))).2 ≠ 0) := by
 by_cases h : tm a = k
 ·refine Or.inl ⟨h, ?_⟩
  subst h
  unfold unsealF
  rw [if_pos (right_tm (wf_left hw)), term_tm hw]
  simp
 ·refine Or.inr ⟨h, ?_⟩
  unfold unsealF
  rw [term_tm hw]
  by_cases hr : right k = true
  ·rw [if_pos hr]; simp [h]
  ·rw [if_neg hr]; simp
theorem opened_steps {e n : Int} {g v st pa : ByteArray} {a b : T} (hw : Wf (.two .s a b)) :
  openedF ⟨e, tm (.two .s a b), g⟩ v st n pa = if (stepsF e (tm (.two .s a b)) g v st n pa (b.parts.map tm)).2 = 0 ∧ (stepsF e (tm (.two .s a b)) g v st n pa (b.parts.map tm)).1.size ≤ 64 ∧ b.code.toNat = 112 then some (stepsF e (tm (.two .s a b)) g v st n pa (b.parts.map tm)).1 else none := by
 unfold openedF stepsF
 simp only
 by_cases h1 : (signedF e (tm (.two .s a b))).2 = 0
 ·simp only [if_pos h1]
  by_cases h2 : verifyF v (signedF e (tm (.two .s a b))).1 g = 0
  ·simp only [if_pos h2]
   by_cases h3 : (backF st n).2 = 0
   ·simp only [if_pos h3]
    by_cases h4 : (keyF (backF st n).1).2 = 0
    ·simp only [if_pos h4]
     rw [if_pos ⟨h1, h2, h3, h4⟩]
     rcases unseal_val hw (k := (keyF (backF st n).1).1) with ⟨h5, h6⟩ | ⟨h5, h6⟩
     ·rw [inside_after hw h5, h6, if_pos rfl]
     ·rw [inside_not hw h5, if_neg h6, if_neg (fun h => h6 h.1)]
    ·simp only [if_neg h4]
     rw [if_neg (fun h => h4 h.2.2.2), if_neg (fun h => h4 h.1)]
   ·simp only [if_neg h3]
    rw [if_neg (fun h => h3 h.2.2.1), if_neg (fun h => h3 h.1)]
  ·simp only [if_neg h2]
   rw [if_neg (fun h => h2 h.2.1), if_neg (fun h => h2 h.1)]
 ·simp only [if_neg h1]
  rw [if_neg (fun h => h1 h.1), if_neg (fun h => h1 h.1)]
theorem back_size (s : ByteArray) (n : Int) : (backF s n).1.size ≤ 4000 := by
 unfold backF
 split
 ·rename_i hr
  split
  ·exact Nat.zero_le _
  ·rcases hashes_codes n.toNat s hr with ⟨_, h⟩ | h
   ·exact right_size h
   ·rw [h]; exact Nat.zero_le _
 ·exact Nat.zero_le _
set_option maxRecDepth 100000 in
set_option maxHeartbeats 4000000 in
theorem open_bl_call {b : Bl} {vs : List ByteArray} {st pa : ByteArray} {e0 : Int} (A : Option Addr) (cap : Nat) (hbs : b.s.size ≤ 1000000) (hbg : b.g.size ≤ 1000000) (hst : st.size ≤ 1000000) (hvs : ∀ v ∈ vs, v.size ≤ 1000000) (hl : vs.length ≤ 1000000) (hcap : vs.length ≤ cap) (w : World) (hC : Kd.C Kd.string w A vs.length vs) :
  Calls Tryz.prog 16 #[.agg #[.int .i64 b.e, .string b.s, .string b.g], .slice A vs.length cap, .string st, .int .i64 e0, .string pa] w fun e w' => e = .returned (.tuple #[.string (openBl b vs st e0 pa).1, .int .i64 (openBl b vs st e0 pa).2]) ∧ Below w.heap.size w w' := by
 obtain ⟨R, hR⟩ : ∃ R, openBl b vs st e0 pa = R := ⟨_, rfl⟩
 have HV : Hid (R = openBl b vs st e0 pa) := Lib.hid hR.symm
 rw [hR]
 clear hR
 have HRT := Lib.hid (rightBl_call b hbs hbg)
 have HEP := Lib.hid (epochs_call e0)
 have HK1 := Lib.hid (fun W => kind_call (s := st) hst W)
 have HCC := Lib.hid hC
 have HVS := Lib.hid hvs
 have hmf : ∀ (fn : Fn) (first cap : Array Value) (w : World), (Instr.makeFunc fn first cap).run Tryz.prog w = .ok (.func fn first cap) w := fun _ _ _ _ => rfl
 clear hC hvs
 go_enter Tryz.func16, Tryz.ntmps16
 go_wp2_with fail
 refine (HRT.out _).mono ?_
 rintro e w1 ⟨rfl, hb⟩
 have HX : Hid (w1.heap[w.heap.size]? = some (.cells #[.int .i64 b.e, .string b.s, .string b.g] 37 (0, 0))) := Lib.hid (blk_below (blk_alloc (blk_alloc (blk_alloc (blk_alloc (blk_at _ _ _ (by simp)) _) _) _) _) hb)
 have HV1 : Hid (w1.heap[w.heap.size + 1]? = some (.cells #[.slice A vs.length cap] 32 (0, 0))) := Lib.hid (blk_below (blk_alloc (blk_alloc (blk_alloc (blk_at _ _ _ (by simp)) _) _) _) hb)
 have HS : Hid (w1.heap[w.heap.size + 2]? = some (.cells #[.string st] 9 (0, 0))) := Lib.hid (blk_below (blk_alloc (blk_alloc (blk_at _ _ _ (by simp)) _) _) hb)
 have HE : Hid (w1.heap[w.heap.size + 3]? = some (.cells #[.int .i64 e0] 3 (0, 0))) := Lib.hid (blk_below (blk_alloc (blk_at _ _ _ (by simp)) _) hb)
 have HP : Hid (w1.heap[w.heap.size + 4]? = some (.cells #[.string pa] 9 (0, 0))) := Lib.hid (blk_below (blk_at _ _ _ (by simp)) hb)
 have HB : Hid (Below w.heap.size w w1) := Lib.hid (below_step (w := w) (by repeat' (first | exact Below.refl _ _ | apply below_alloc)) hb)
 clear hb HRT
 by_cases q0 : rightBl b = true
 rotate_left
 ·have q0' : rightBl b = false := by simpa using q0
  rw [q0']
  obtain rfl : R = (⟨#[]⟩, 1) := by rw [HV.out]; unfold openBl openOk; rw [q0', Bool.false_and]; rfl
  go_wp2
  go_ret2
  exact ⟨rfl, HB.out⟩
 rw [q0]
 have cS := cell_of_blk (j := 0) (v := .string st) HS.out rfl
 go_wp2_with fail
 refine (HK1.out _).mono ?_
 rintro e w2 ⟨rfl, hb⟩
 clear cS HK1
 replace HX := Lib.hid (blk_below HX.out hb)
 replace HV1 := Lib.hid (blk_below HV1.out hb)
 replace HS := Lib.hid (blk_below HS.out hb)
 replace HE := Lib.hid (blk_below HE.out hb)
 replace HP := Lib.hid (blk_below HP.out hb)
 replace HB := Lib.hid (below_step HB.out hb)
 clear hb
 by_cases q1 : kindF st = 0
 ·have t1 : (kindF st == 0) = true := by rw [q1]; rfl
  obtain rfl : R = (⟨#[]⟩, 1) := by rw [HV.out]; unfold openBl openOk; rw [(kindF_zero st).1 q1]; simp
  go_wp2
  go_ret2
  exact ⟨rfl, HB.out⟩
 have t1 : (kindF st == 0) = false := by rw [beq_eq_false_iff_ne]; exact q1
 have r1 : right st = true := by cases h : right st with | true => rfl | false => exact absurd ((kindF_zero st).2 h) q1
 have cE := cell_of_blk (j := 0) (v := .int .i64 e0) HE.out rfl
 go_wp2_with fail
 refine (HEP.out _).mono ?_
 rintro e w3 ⟨rfl, hb⟩
 clear cE HEP
 replace HX := Lib.hid (blk_below HX.out hb)
 replace HV1 := Lib.hid (blk_below HV1.out hb)
 replace HS := Lib.hid (blk_below HS.out hb)
 replace HE := Lib.hid (blk_below HE.out hb)
 replace HP := Lib.hid (blk_below HP.out hb)
 replace HB := Lib.hid (below_step HB.out hb)
 clear hb
 by_cases qE : epochB e0 = true
 rotate_left
 ·have qE' : epochB e0 = false := by simpa using qE
  rw [qE']
  obtain rfl : R = (⟨#[]⟩, 1) := by rw [HV.out]; unfold openBl openOk; rw [qE']; simp
  go_wp2
  go_ret2
  exact ⟨rfl, HB.out⟩
 rw [qE]
 obtain ⟨en, rfl, hen⟩ := epoch_nat qE
 have cE := cell_of_blk (j := 0) (v := .int .i64 (en : Int)) HE.out rfl
 have cV := cell_of_blk (j := 0) (v := .slice A vs.length cap) HV1.out rfl
 have cX0 := cell_of_blk (j := 0) (v := .int .i64 b.e) HX.out rfl
 have w1 : wrap64 ((en : Int) + 1) = ((en + 1 : Nat) : Int) := by rw [w64 (by omega) (by omega)]; omega
 by_cases q2 : vs.length = en + 1
 rotate_left
 ·have t2 : ((vs.length : Int) != ((en + 1 : Nat) : Int)) = true := by rw [bne_iff_ne]; omega
  obtain rfl : R = (⟨#[]⟩, 1) := by rw [HV.out]; unfold openBl openOk; rw [decide_eq_false (show ¬ ((vs.length : Int) = (en : Int) + 1) by omega)]; rw [Bool.and_false, Bool.and_false, Bool.and_false]; rfl
  go_wp2
  go_ret2
  exact ⟨rfl, HB.out⟩
 have t2 : ((vs.length : Int) != ((en + 1 : Nat) : Int)) = false := by rw [q2]; simp
 have hok : openOk b vs st (en : Int) = true := by
  unfold openOk
  rw [q0, r1, qE, decide_eq_true (show (vs.length : Int) = (en : Int) + 1 by omega)]; rfl
 have hv := HV.out
 unfold openBl at hv
 rw [if_pos hok] at hv
 clear HV
 have HV := Lib.hid hv
 clear hv
 obtain ⟨hb1, hb2, hb3⟩ := rightBl_inv q0
 obtain ⟨be, bs, bg⟩ := b
 simp only at hb1 hb2 hb3 HV cX0 HX hbs hbg
 obtain ⟨k, rfl⟩ := Int.eq_ofNat_of_zero_le hb1.1
 have hk : k ≤ 7 := by omega
 by_cases q3 : k ≤ en
 rotate_left
 ·have t3 : decide ((en : Int) < (k : Int)) = true := decide_eq_true (by omega)
  obtain rfl : R = (⟨#[]⟩, 7) := by rw [HV.out]; rw [if_pos (by omega)]
  go_wp2
  go_ret2
  exact ⟨rfl, HB.out⟩
 have t3 : decide ((en : Int) < (k : Int)) = false := decide_eq_false (by omega)
 have hv := HV.out
 rw [if_neg (by omega)] at hv
 clear HV
 obtain ⟨sa, sb, hsw, rfl⟩ := kind_sealed hb2
 simp only [Int.toNat_natCast] at hv
 rw [opened_steps hsw] at hv
 have HV := Lib.hid hv
 clear hv
 obtain ⟨S, hS⟩ : ∃ S, stepsF (k : Int) (tm (.two .s sa sb)) bg (vs.getD k ⟨#[]⟩) st ((en : Int) - (k : Int)) pa (sb.parts.map tm) = S := ⟨_, rfl⟩
 have hv := HV.out
 rw [hS] at hv
 replace hv : R = if S.2 = 0 ∧ S.1.size ≤ 64 ∧ sb.code.toNat = 112 then (S.1, 0) else (⟨#[]⟩, 7) := by
  rw [hv]
  by_cases h : S.2 = 0 ∧ S.1.size ≤ 64 ∧ sb.code.toNat = 112
  ·rw [if_pos h, if_pos h]
  ·rw [if_neg h, if_neg h]
 clear HV
 have HV := Lib.hid hv
 clear hv
 obtain ⟨ad, hA, hcell⟩ := readsC HCC.out (k := k) (by omega)
 subst hA
 have hgd : vs.getD k ⟨#[]⟩ = vs[k] := by rw [List.getD_eq_getElem?_getD, List.getElem?_eq_getElem (by omega)]; rfl
 rw [hgd] at hS
 have HST := Lib.hid hS
 have hvk := HVS.out vs[k] (List.getElem_mem (by omega))
 generalize vs[k] = v at hcell hvk HST
 clear hS hgd HVS HCC q1 t1 qE hok q0 hb1 hb2 hb3
 have HPA := Lib.hid (sealedPair_call hsw)
 have HX2 : Hid (∀ C : Nat, C = w3.heap.size → ∀ Wc : World, Wc = w3.alloc (.cells #[.string ⟨#[]⟩] 9) →
   Calls Tryz.prog 34 #[.func (Fn.func 41) #[] #[.pointer (some ⟨w.heap.size + 1, 0, none⟩), .pointer (some ⟨w.heap.size, 0, none⟩), .pointer (some ⟨w.heap.size + 2, 0, none⟩), .pointer (some ⟨w.heap.size + 3, 0, none⟩), .pointer (some ⟨w.heap.size + 4, 0, none⟩), .pointer (some ⟨C, 0, none⟩)]] Wc fun e w' =>
    e = .returned (.int .i64 S.2) ∧ ((S.2 = 0 → w'.heap[C]? = some (.cells #[.string S.1] 9 (0, 0))) ∧ w'.heap[w.heap.size]? = some (.cells #[.int .i64 (k : Int), .string (tm (.two .s sa sb)), .string bg] 37 (0, 0)) ∧ Below w.heap.size w w')) := by
  refine Lib.hid ?_
  rintro C rfl Wc rfl
  have lt := HB.out.size
  have ltP : w.heap.size + 4 < w3.heap.size := by have h := HP.out; rw [Array.getElem?_eq_some_iff] at h; exact h.1
  have hbs4 : (backF st ((en : Int) - (k : Int))).1.size ≤ 1000000 := by have := back_size st ((en : Int) - (k : Int)); omega
  have hks := key_size (backF st ((en : Int) - (k : Int))).1
  have hms := pair_size (atomB k) (tm (.two .s sa sb))
  have hun : (unsealF (keyF (backF st ((en : Int) - (k : Int))).1).1 (tm (.two .s sa sb))).2 = 0 → unsealF (keyF (backF st ((en : Int) - (k : Int))).1).1 (tm (.two .s sa sb)) = (tm sb, 0) := fun h => by
   rcases unseal_val hsw (k := (keyF (backF st ((en : Int) - (k : Int))).1).1) with h1 | h1
   ·exact h1.2
   ·exact absurd h h1.2
  refine caught_open _ _ S.2 _ (fun a b ha hm => ⟨fun h => keep hm (ha.1 h) (by simp), keep hm ha.2.1 (by simp; omega), ?_⟩) ?_
  ·exact Moved.below ha.2.2 hm ha.2.2.size (fun j hj => by subst hj; simp; omega)
  ·refine (open1_walk (V := w.heap.size + 1) (B := w.heap.size) (St := w.heap.size + 2) (Ep := w.heap.size + 3) (P := w.heap.size + 4) (C := w3.heap.size) (n := vs.length) (cap := cap) (k := k) (ad := ad) (bs := tm (.two .s sa sb)) (bg := bg) (st := st) (pa := pa) (v := v) (en := (en : Int)) (vc := verifyF v (signedF k (tm (.two .s sa sb))).1 bg)
    (Bk := backF st ((en : Int) - (k : Int))) (Ky := keyF (backF st ((en : Int) - (k : Int))).1) (Op := unsealF (keyF (backF st ((en : Int) - (k : Int))).1).1 (tm (.two .s sa sb))) (M := signedF k (tm (.two .s sa sb))) (l := sb.parts.map tm) (R := S) _
    (blk_alloc (blk_alloc HV1.out _) _) (blk_alloc (blk_alloc HX.out _) _) (blk_alloc (blk_alloc HS.out _) _) (blk_alloc (blk_alloc HE.out _) _) (blk_alloc (blk_alloc HP.out _) _) (blk_alloc (blk_new _ _) _)
    (pw_cell_below (below_alloc (below_alloc HB.out _) _) hcell) (by omega) hk hcap
    (by omega) (by omega) (by omega) (by omega) (by omega) (by have := World.block_lt_of_cell? w _ hcell; omega)
    (fun W h => signed_ok hk hbs W h) (fun W h => signed_err hk hbs W h)
    (fun W => verify_call v _ bg hvk (by unfold signedF; rw [Int.toNat_natCast]; omega) hbg W)
    (by rw [w64 (by omega) (by omega)]; exact back_call hst _ (by omega)) (key_call hbs4) (fun W => open_call _ _ (by omega) hbs W)
    (fun h W => ?_) ?_ ?_ (by rw [← HST.out]; rfl)).mono ?_
   ·rw [hun h]
    refine term_Parts.calls _ _ _ W ?_
    unfold term_Parts.f partsF
    rw [if_pos (by have := right_size (right_tm (wf_right hsw)); show (tm sb).size ≤ _; omega), term_tm (wf_right hsw)]
    rfl
   ·cases sb <;> simp [T.parts]
   ·intro x hx
    obtain ⟨t, ht, rfl⟩ := List.mem_map.1 hx
    exact right_size (right_tm (parts_wf (wf_right hsw) ht))
   ·rintro e w' ⟨h1, h2, h3⟩
    refine ⟨h1, ?_, h2, ?_, ?_⟩
    ·exact keep h3 (blk_at _ _ _ (by simp)) (by simp)
    ·exact keep h3 (blk_alloc (blk_alloc HX.out _) _) (by omega)
    ·exact Moved.below (below_alloc (below_alloc HB.out _) _) h3 (by simp; omega) (fun j hj => by subst hj; omega)
 clear HST hvk
 go_wp2_with fail
 refine (HX2.out _ rfl _ rfl).mono ?_
 rintro e w5 ⟨rfl, hC5, hX5, hb5⟩
 have HB5 := Lib.hid hb5
 have HX5 := Lib.hid hX5
 clear HX2 hb5 hX5 HV1 HS HP HE HX HB cE cV cX0 hcell
 by_cases q5 : S.2 = 0
 rotate_left
 ·have t5 : (S.2 != 0) = true := by rw [bne_iff_ne]; exact q5
  obtain rfl : R = (⟨#[]⟩, 7) := by rw [HV.out, if_neg (fun h => q5 h.1)]
  clear hC5
  go_wp2
  go_ret2
  exact ⟨rfl, HB5.out⟩
 have t5 : (S.2 != 0) = false := by rw [q5]; rfl
 have HC5 := Lib.hid (hC5 q5)
 clear hC5
 have cC := cell_of_blk (j := 0) (v := .string S.1) HC5.out rfl
 by_cases q6 : S.1.size ≤ 64
 rotate_left
 ·have t6 : decide (64 < (S.1.size : Int)) = true := decide_eq_true (by omega)
  obtain rfl : R = (⟨#[]⟩, 7) := by rw [HV.out, if_neg (fun h => q6 h.2.1)]
  go_wp2
  go_ret2
  exact ⟨rfl, HB5.out⟩
 have t6 : decide (64 < (S.1.size : Int)) = false := decide_eq_false (by omega)
 have cX := cell_of_blk (j := 1) (v := .string (tm (.two .s sa sb))) HX5.out rfl
 go_wp2_with fail
 refine (HPA.out _).mono ?_
 rintro e w6 ⟨rfl, hb⟩
 replace HC5 := Lib.hid (blk_below HC5.out hb)
 replace HB5 := Lib.hid (below_step HB5.out hb)
 clear hb cC cX HPA HX5
 by_cases q7 : sb.code.toNat = 112
 rotate_left
 ·rw [decide_eq_false q7]
  obtain rfl : R = (⟨#[]⟩, 7) := by rw [HV.out, if_neg (fun h => q7 h.2.2)]
  go_wp2
  go_ret2
  exact ⟨rfl, HB5.out⟩
 rw [decide_eq_true q7]
 have cC := cell_of_blk (j := 0) (v := .string S.1) HC5.out rfl
 obtain rfl : R = (S.1, 0) := by rw [HV.out, if_pos ⟨q5, q6, q7⟩]
 go_wp2
 go_ret2
 exact ⟨rfl, HB5.out⟩
end Go.Proofs.YtlhoahbpklhpmaaGreatDoor
end
section

namespace Go.Proofs.YtlhoahbpklhpmaaGreatDoor
open Go.RowKit Go.Proofs.YtlhoahbpklhpmaaGreatDoorW.PrintWords Go.Proofs.YtlhoahbpklhpmaaGreatDoorW.PrintLast Go.Proofs.YtlhoahbpklhpmaaGreatDoorW.PrintMore Go.Proofs.YtlhoahbpklhpmaaGreatDoor.Ref Go.Proofs.YtlhoahbpklhpmaaGreatDoor.PA Go.Proofs.YtlhoahbpklhpmaaGreatDoor.PB
set_option linter.unusedVariables false
set_option linter.unusedSimpArgs false
attribute [local go_sem] max2_int min2_int max_two min_two
theorem takeNum_call (s : ByteArray) (hs : s.size ≤ 1000000) (W : World) : Calls Tryz.prog 30 #[.string s] W fun e w' => e = .returned (.tuple #[.int .u64 (takeF s).1, .string (takeF s).2.1, .int .i64 (takeF s).2.2]) ∧ Below W.heap.size W w' :=
 wire_Take.calls s _ _ _ W (by unfold wire_Take.f; rw [if_pos (by omega)])
theorem takeAll_call (s : ByteArray) (hs : s.size ≤ 1000000) (W : World) : Calls Tryz.prog 29 #[.string s, .int .i64 3, .int .i64 4000] W fun e w' => ∃ v0 : Value, e = .returned (.tuple #[v0, .int .i64 (takeAllF 3 4000 s).2]) ∧ Kd.R Kd.string 9 w' W.heap.size (fun _ => True) v0 (takeAllF 3 4000 s).1 ∧ Below W.heap.size W w' := by
 obtain ⟨k, hk⟩ := ev_some (takeAll_ev 3 4000 s (by omega) (by omega) hs)
 exact wire_TakeAll.calls k s 3 4000 _ _ W hk
def dt5.T5 : Bool × List (List Nat × List Nat) := (true, [([], []), ([0], [0]), ([1], [1]), ([], []), ([3], [3]), ([4], [4]), ([], []), ([6], [6]), ([7], [7]), ([2, 5, 8], [2, 5, 8]), ([], []), ([10, 9, 0, 1, 2, 3, 4, 5, 6, 7, 8, 9, 10], [9, 10])])
def dt5.B5 : List Nat := [0, 1, 3, 0, 8, 24, 0, 64, 192, 511, 0, 2047]
theorem dt5.tab5 : rtab .any (opsOf Tryz.f14 5) = dt5.T5 := by kernel_rfl
theorem dt5.bits5 : waitsOk dt5.T5.2 dt5.B5 = true := by kernel_rfl
set_option maxRecDepth 100000 in
set_option maxHeartbeats 4000000 in
theorem takeBl_call (s : ByteArray) (hs : s.size ≤ 1000000) (w : World) :
  Calls Tryz.prog 14 #[.string s] w (BlPost w (takeBl s)) := by
 have HTA := Lib.hid (takeAll_call s hs)
 obtain ⟨R, hR⟩ : ∃ R, takeBl s = R := ⟨_, rfl⟩
 have HV : Hid (R = takeBl s) := Lib.hid hR.symm
 rw [hR]
 clear hR
 have HSZ : Hid ((takeAllF 3 4000 s).2 = 0 → ∀ x ∈ (takeAllF 3 4000 s).1, x.size ≤ 4000) := Lib.hid (fun h => (takeAll_inv (Prod.ext rfl h : takeAllF 3 4000 s = ((takeAllF 3 4000 s).1, 0))).2.2)
 unfold takeBl at HV
 generalize takeAllF 3 4000 s = X at *
 go_enter Tryz.func14, Tryz.ntmps14
 go_wp2_with fail
 refine (HTA.out _).mono ?_
 rintro e w1 ⟨v0, rfl, hl, hb⟩
 obtain ⟨LA, lc, rfl⟩ := Kd.R_slice hl
 have HR : Hid (w1.heap[w.heap.size]? = some (.cells #[.int .i64 0, .string ⟨#[]⟩, .string ⟨#[]⟩] 37 (0, 0))) := Lib.hid (blk_below (blk_new _ _) hb)
 have HB : Hid (Below w.heap.size w w1) := Lib.hid (below_step (w := w) (by repeat' (first | exact Below.refl _ _ | apply below_alloc)) hb)
 clear hb HTA
 have HL := Lib.hid hl
 clear hl
 by_cases q1 : X.2 = 0
 rotate_left
 ·have t1 : (X.2 != 0) = true := by rw [bne_iff_ne]; exact q1
  obtain rfl : R = (noBl, 2) := by rw [HV.out]; rw [if_neg (fun h => q1 h.1)]
  have cR0 := cell_of_blk (j := 0) (v := .int .i64 0) HR.out rfl
  have cR1 := cell_of_blk (j := 1) (v := .string ⟨#[]⟩) HR.out rfl
  have cR2 := cell_of_blk (j := 2) (v := .string ⟨#[]⟩) HR.out rfl
  have zR0 := free_of_blk (j := 0) HR.out
  have zR1 := free_of_blk (j := 1) HR.out
  have zR2 := free_of_blk (j := 2) HR.out
  obtain ⟨hblk, hbe⟩ := put3 HB.out HR.out (by omega) (.int .i64 0) (.string ⟨#[]⟩) (.string ⟨#[]⟩)
  go_wp2
  refine bodyPost_ret (results_ct rfl _ _ w.heap.size 37 _ (0, 0) _ rfl hblk Tryz.underlying37 rfl (by kernel_rfl)) rfl ?_
  exact ⟨rfl, hbe⟩
 have t1 : (X.2 != 0) = false := by rw [q1]; rfl
 by_cases q2 : X.1.length = 3
 rotate_left
 ·have t2 : ((X.1.length : Int) != 3) = true := by rw [bne_iff_ne]; omega
  obtain rfl : R = (noBl, 2) := by rw [HV.out]; rw [if_neg (fun h => q2 h.2)]
  have cR0 := cell_of_blk (j := 0) (v := .int .i64 0) HR.out rfl
  have cR1 := cell_of_blk (j := 1) (v := .string ⟨#[]⟩) HR.out rfl
  have cR2 := cell_of_blk (j := 2) (v := .string ⟨#[]⟩) HR.out rfl
  have zR0 := free_of_blk (j := 0) HR.out
  have zR1 := free_of_blk (j := 1) HR.out
  have zR2 := free_of_blk (j := 2) HR.out
  obtain ⟨hblk, hbe⟩ := put3 HB.out HR.out (by omega) (.int .i64 0) (.string ⟨#[]⟩) (.string ⟨#[]⟩)
  go_wp2
  refine bodyPost_ret (results_ct rfl _ _ w.heap.size 37 _ (0, 0) _ rfl hblk Tryz.underlying37 rfl (by kernel_rfl)) rfl ?_
  exact ⟨rfl, hbe⟩
 obtain ⟨x, y, z, hxyz⟩ := three_of q2
 have hsz := HSZ.out q1
 rw [hxyz] at HL hsz
 have hv := HV.out
 rw [if_pos ⟨q1, q2⟩, hxyz] at hv
 simp only [List.getD_cons_zero, List.getD_cons_succ] at hv
 clear HV HSZ
 have HV := Lib.hid hv
 rw [hxyz]
 clear q2 hv hxyz
 have hx4 := hsz x (by simp)
 have hy4 := hsz y (by simp)
 have hz4 := hsz z (by simp)
 have hc3 := (Kd.R_reads' HL.out).2.2
 obtain ⟨ga, rfl⟩ : ∃ ga, LA = some ⟨ga, 0, none⟩ := by
  obtain ⟨_, xs, ho, _⟩ := HL.out
  obtain ⟨g, c, e, _⟩ := ho.form (by simp)
  exact ⟨g, by simpa using (Value.slice.inj e).1⟩
 have hcap3 := (Kd.R_reads' HL.out).2.1
 have hx0 : w1.cell? ⟨ga, 0, none⟩ = some (.string x) := by
  obtain ⟨ad, e, h0⟩ := readsC hc3 (k := 0) (by simp)
  obtain rfl := Option.some.inj e
  simpa [Addr.add] using h0
 have hx1 : w1.cell? ⟨ga, 1, none⟩ = some (.string y) := by
  obtain ⟨ad, e, h0⟩ := readsC hc3 (k := 1) (by simp)
  obtain rfl := Option.some.inj e
  simpa [Addr.add] using h0
 have hx2 : w1.cell? ⟨ga, 2, none⟩ = some (.string z) := by
  obtain ⟨ad, e, h0⟩ := readsC hc3 (k := 2) (by simp)
  obtain rfl := Option.some.inj e
  simpa [Addr.add] using h0
 have HX1 := Lib.hid hx1
 have HX2 := Lib.hid hx2
 have HTN := Lib.hid (takeNum_call x (by omega))
 clear hc3 hx1 hx2 HL
 simp only [List.length_cons, List.length_nil] at hcap3 ⊢
 go_wp2_with fail
 refine (HTN.out _).mono ?_
 rintro e w2 ⟨rfl, hb⟩
 replace HX1 := Lib.hid (pw_cell_below hb HX1.out)
 replace HX2 := Lib.hid (pw_cell_below hb HX2.out)
 replace HR := Lib.hid (blk_below HR.out hb)
 replace HB := Lib.hid (below_step HB.out hb)
 clear hb
 clear hx0 HTN
 have hn0 := (takeF_size x).2
 generalize takeF x = n at *
 obtain ⟨m, hm⟩ : ∃ m : Int, (if (8 : Int) < n.1 then 8 else n.1) = m := ⟨_, rfl⟩
 have hm8 : 0 ≤ m ∧ m ≤ 8 ∧ (m ≤ 7 ↔ n.1 ≤ 7) ∧ (n.1 ≤ 7 → m = n.1) := by
  rw [← hm]
  split <;> omega
 have hmw : IntKind.i64.wrap m = m := by
  rw [i64_w]
  exact w64 (by omega) (by omega)
 have HRT := Lib.hid (rightBl_call ⟨m, y, z⟩ (by show y.size ≤ _; omega) (by show z.size ≤ _; omega))
 go_wp2_with fail
 have HB0 := Lib.hid HB.out
 have HR0 := Lib.hid HR.out
 have hb : Below w2.heap.size w2 w2.drew := below_drew (Below.refl _ _)
 replace HX1 := Lib.hid (pw_cell_below hb HX1.out)
 replace HX2 := Lib.hid (pw_cell_below hb HX2.out)
 replace HR := Lib.hid (blk_below HR.out hb)
 replace HB := Lib.hid (below_step HB.out hb)
 clear hb
 refine start_ (n := 12) (S := fun w' => w'.cell? ⟨ga, 1, none⟩ = some (.string y) ∧ w'.cell? ⟨ga, 2, none⟩ = some (.string z)) (ds := [11]) #[false, false, false, false, false, false, false, false, false, false, false, false] (by kernel_rfl) rfl rfl ⟨HX1.out, HX2.out⟩ (fun hHeld => ?_)
 refine with_tabW dt5.tab5 dt5.bits5 (fun HT_ HW_ => ?_)
 refine pure_ (i := 0) (N := some 30) (v := ?_) (a' := ?_) #[true, false, false, false, false, false, false, false, false, false, false, false] rfl rfl (any_of HT_.out (by kernel_rfl)) (fun _ _ _ h => h) (Or.inl ⟨by rfl, ?_⟩) ?_ ?_
 rotate_left
 ·intro w'
  go_simp
  with_reducible rfl
 rotate_left
 ·simp only [Act.put, List.setIfInBounds_toArray, List.set_cons_zero, List.set_cons_succ, i64_w, i32_w]
  rfl
 refine pure_ (i := 1) (N := some 31) (v := ?_) (a' := ?_) #[true, true, false, false, false, false, false, false, false, false, false, false] rfl rfl (any_of HT_.out (by kernel_rfl)) (fun _ _ _ h => h) (Or.inl ⟨by rfl, ?_⟩) ?_ ?_
 rotate_left
 ·intro w'
  go_simp
  with_reducible rfl
 rotate_left
 ·simp only [Act.put, List.setIfInBounds_toArray, List.set_cons_zero, List.set_cons_succ, i64_w, i32_w]
  rfl
 refine pure_ (i := 2) (N := some 32) (v := ?_) (a' := ?_) #[true, true, true, false, false, false, false, false, false, false, false, false] rfl rfl (any_of HT_.out (by kernel_rfl)) (fun _ _ _ h => h) (Or.inl ⟨by rfl, ?_⟩) ?_ ?_
 rotate_left
 ·intro w'
  go_simp
  with_reducible rfl
 rotate_left
 ·simp only [Act.put, List.setIfInBounds_toArray, List.set_cons_zero, List.set_cons_succ, i64_w, i32_w]
  rfl
 refine pure_ (i := 3) (N := some 33) (v := ?_) (a' := ?_) #[true, true, true, true, false, false, false, false, false, false, false, false] rfl rfl (any_of HT_.out (by kernel_rfl)) (fun _ _ _ h => h) (Or.inl ⟨by rfl, ?_⟩) ?_ ?_
 rotate_left
 ·intro w'
  go_simp
  with_reducible rfl
 rotate_left
 ·simp only [Act.put, List.setIfInBounds_toArray, List.set_cons_zero, List.set_cons_succ, i64_w, i32_w]
  rfl
 refine pure_ (i := 4) (N := some 34) (v := ?_) (a' := ?_) #[true, true, true, true, true, false, false, false, false, false, false, false] rfl rfl (any_of HT_.out (by kernel_rfl)) (fun _ _ _ h => h) (Or.inl ⟨by rfl, ?_⟩) ?_ ?_
 rotate_left
 ·intro w'
  go_simp
  with_reducible rfl
 rotate_left
 ·simp only [Act.put, List.setIfInBounds_toArray, List.set_cons_zero, List.set_cons_succ, i64_w, i32_w]
  rfl
 refine pure_ (i := 6) (N := some 36) (v := ?_) (a' := ?_) #[true, true, true, true, true, false, true, false, false, false, false, false] rfl rfl (any_of HT_.out (by kernel_rfl)) (fun _ _ _ h => h) (Or.inl ⟨by rfl, ?_⟩) ?_ ?_
 rotate_left
 ·intro w'
  go_simp
  with_reducible rfl
 rotate_left
 ·simp only [Act.put, List.setIfInBounds_toArray, List.set_cons_zero, List.set_cons_succ, i64_w, i32_w]
  rfl
 refine pure_ (i := 7) (N := some 37) (v := ?_) (a' := ?_) #[true, true, true, true, true, false, true, true, false, false, false, false] rfl rfl (any_of HT_.out (by kernel_rfl)) (fun _ _ _ h => h) (Or.inl ⟨by rfl, ?_⟩) ?_ ?_
 rotate_left
 ·intro w'
  go_simp
  with_reducible rfl
 rotate_left
 ·simp only [Act.put, List.setIfInBounds_toArray, List.set_cons_zero, List.set_cons_succ, i64_w, i32_w]
  rfl
 refine take_ (i := 5) (N := some 35) (v := ?_) (a' := ?_) #[true, true, true, true, true, true, true, true, false, false, false, false] rfl rfl (take_ofW HT_.out HW_.out (by kernel_rfl)) (fun _ _ _ h => h) (Or.inl ⟨by rfl, ?_⟩) hHeld ?_ ?_
 rotate_left
 ·rintro w' ⟨s0, s1⟩
  go_simp
  with_reducible rfl
 rotate_left
 ·simp only [Act.put, List.setIfInBounds_toArray, List.set_cons_zero, List.set_cons_succ, i64_w, i32_w]
  rfl
 refine take_ (i := 8) (N := some 38) (v := ?_) (a' := ?_) #[true, true, true, true, true, true, true, true, true, false, false, false] rfl rfl (take_ofW HT_.out HW_.out (by kernel_rfl)) (fun _ _ _ h => h) (Or.inl ⟨by rfl, ?_⟩) hHeld ?_ ?_
 rotate_left
 ·rintro w' ⟨s0, s1⟩
  go_simp
  with_reducible rfl
 rotate_left
 ·simp only [Act.put, List.setIfInBounds_toArray, List.set_cons_zero, List.set_cons_succ, i64_w, i32_w]
  rfl
 refine pure_ (i := 9) (N := some 39) (v := ?_) (a' := ?_) #[true, true, true, true, true, true, true, true, true, true, false, false] rfl rfl (any_of HT_.out (by kernel_rfl)) (fun _ _ _ h => h) (Or.inl ⟨by rfl, ?_⟩) ?_ ?_
 rotate_left
 ·intro w'
  go_simp
  with_reducible rfl
 rotate_left
 ·simp only [Act.put, List.setIfInBounds_toArray, List.set_cons_zero, List.set_cons_succ, i64_w, i32_w]
  rfl
 refine one_ (i := 10) (N := some 8) #[true, true, true, true, true, true, true, true, true, true, true, false] rfl rfl (one_of HT_.out (by kernel_rfl)) (by decide) (fun K hK => ?_)
 refine value_ (w1 := ?_) (v := ?_) (by rfl) rfl ?_ ?_
 rotate_left 2
 ·go_simp
  constructor
  ·rfl
  ·rfl
 have c0 := cell_of_blk (j := 0) (v := .int .i64 0) (blk_new w2.drew (.cells #[.int .i64 0, .string ⟨#[]⟩, .string ⟨#[]⟩] 37)) rfl
 have c1 := cell_of_blk (j := 1) (v := .string ⟨#[]⟩) (blk_new w2.drew (.cells #[.int .i64 0, .string ⟨#[]⟩, .string ⟨#[]⟩] 37)) rfl
 have c2 := cell_of_blk (j := 2) (v := .string ⟨#[]⟩) (blk_new w2.drew (.cells #[.int .i64 0, .string ⟨#[]⟩, .string ⟨#[]⟩] 37)) rfl
 refine hK.out _ _ ⟨(pw_cell_below (below_alloc (Below.refl _ _) _) HX1.out), (pw_cell_below (below_alloc (Below.refl _ _) _) HX2.out)⟩ (fun hHeld => ?_)
 clear hK K
 refine norm_ (a' := ?_) ?_ ?_
 rotate_left
 ·show Act.put _ (some 8) _ = _
  simp only [Act.put, List.setIfInBounds_toArray, List.set_cons_zero, List.set_cons_succ, i64_w, i32_w]
  rfl
 refine last_ (i := 11) (N := none) #[true, true, true, true, true, true, true, true, true, true, true, true] rfl rfl (one_of HT_.out (by kernel_rfl)) (by decide) (fun K hK => ?_)
 refine skip_ (w1 := ?_) (by rfl) rfl ?_ ?_
 rotate_left
 ·go_simp
  rfl
 refine hK.out _ _ ?_
 clear hK K
 refine done_ (done_of HT_.out (by kernel_rfl)) ?_
 clear HT_
 have hH : Below (w2.alloc (.cells #[.int .i64 m, .string y, .string z] 37)).heap.size (w2.alloc (.cells #[.int .i64 m, .string y, .string z] 37)) (w2.alloc (.cells #[.int .i64 m, .string y, .string z] 37)).drew := below_drew (Below.refl _ _)
 replace HR := Lib.hid (blk_below (blk_alloc HR0.out (.cells #[.int .i64 m, .string y, .string z] 37)) hH)
 replace HB : Hid (Below w.heap.size w (w2.alloc (.cells #[.int .i64 m, .string y, .string z] 37)).drew) := Lib.hid (below_drew (below_alloc HB0.out _))
 have HN := Lib.hid (blk_below (blk_new w2 (.cells #[.int .i64 m, .string y, .string z] 37)) hH)
 clear hH HX1 HX2 HB0 HR0 c0 c1 c2 hHeld
 generalize (w2.alloc (.cells #[.int .i64 m, .string y, .string z] 37)).drew = W3 at HR HB HN ⊢
 generalize w2.heap.size = NB at HN ⊢
 have hev : epochB m = epochB n.1 := by unfold epochB; exact decide_eq_decide.2 (by omega)
 have HRE : Hid (rightBl ⟨m, y, z⟩ = rightBl ⟨n.1, y, z⟩) := Lib.hid (by unfold rightBl; simp only [hev])
 clear hev
 by_cases q3 : n.2.2 = 0
 rotate_left
 ·have t3 : (n.2.2 != 0) = true := by rw [bne_iff_ne]; exact q3
  obtain rfl : R = (noBl, 2) := by rw [HV.out]; unfold takenF; rw [if_neg (fun h => q3 h.1)]
  have cR0 := cell_of_blk (j := 0) (v := .int .i64 0) HR.out rfl
  have cR1 := cell_of_blk (j := 1) (v := .string ⟨#[]⟩) HR.out rfl
  have cR2 := cell_of_blk (j := 2) (v := .string ⟨#[]⟩) HR.out rfl
  have zR0 := free_of_blk (j := 0) HR.out
  have zR1 := free_of_blk (j := 1) HR.out
  have zR2 := free_of_blk (j := 2) HR.out
  obtain ⟨hblk, hbe⟩ := put3 HB.out HR.out (by omega) (.int .i64 0) (.string ⟨#[]⟩) (.string ⟨#[]⟩)
  go_wp2
  refine bodyPost_ret (results_ct rfl _ _ w.heap.size 37 _ (0, 0) _ rfl hblk Tryz.underlying37 rfl (by kernel_rfl)) rfl ?_
  exact ⟨rfl, hbe⟩
 have t3 : (n.2.2 != 0) = false := by rw [q3]; rfl
 by_cases q4 : n.2.1 = ⟨#[]⟩
 rotate_left
 ·have t4 : (n.2.1.toList == []) = false := by
   rw [beq_eq_false_iff_ne]
   intro e
   exact q4 ((toL _ _).1 (by rw [e, bytes_toList]; rfl))
  obtain rfl : R = (noBl, 2) := by rw [HV.out]; unfold takenF; rw [if_neg (fun h => q4 h.2.1)]
  have cR0 := cell_of_blk (j := 0) (v := .int .i64 0) HR.out rfl
  have cR1 := cell_of_blk (j := 1) (v := .string ⟨#[]⟩) HR.out rfl
  have cR2 := cell_of_blk (j := 2) (v := .string ⟨#[]⟩) HR.out rfl
  have zR0 := free_of_blk (j := 0) HR.out
  have zR1 := free_of_blk (j := 1) HR.out
  have zR2 := free_of_blk (j := 2) HR.out
  obtain ⟨hblk, hbe⟩ := put3 HB.out HR.out (by omega) (.int .i64 0) (.string ⟨#[]⟩) (.string ⟨#[]⟩)
  go_wp2
  refine bodyPost_ret (results_ct rfl _ _ w.heap.size 37 _ (0, 0) _ rfl hblk Tryz.underlying37 rfl (by kernel_rfl)) rfl ?_
  exact ⟨rfl, hbe⟩
 have t4 : (n.2.1.toList == []) = true := by rw [q4, bytes_toList]; rfl
 have cN0 := cell_of_blk (j := 0) (v := .int .i64 m) HN.out rfl
 have cN1 := cell_of_blk (j := 1) (v := .string y) HN.out rfl
 have cN2 := cell_of_blk (j := 2) (v := .string z) HN.out rfl
 go_wp2_with fail
 refine (HRT.out _).mono ?_
 rintro e w4 ⟨rfl, hb⟩
 replace HN := Lib.hid (blk_below HN.out hb)
 replace HR := Lib.hid (blk_below HR.out hb)
 replace HB := Lib.hid (below_step HB.out hb)
 clear hb
 clear cN0 cN1 cN2 HRT
 by_cases q5 : rightBl ⟨m, y, z⟩ = true
 rotate_left
 ·have q5' : rightBl ⟨m, y, z⟩ = false := by simpa using q5
  rw [q5']
  obtain rfl : R = (noBl, 2) := by rw [HV.out]; unfold takenF; rw [if_neg (fun h => q5 (by rw [HRE.out]; exact h.2.2))]
  have cR0 := cell_of_blk (j := 0) (v := .int .i64 0) HR.out rfl
  have cR1 := cell_of_blk (j := 1) (v := .string ⟨#[]⟩) HR.out rfl
  have cR2 := cell_of_blk (j := 2) (v := .string ⟨#[]⟩) HR.out rfl
  have zR0 := free_of_blk (j := 0) HR.out
  have zR1 := free_of_blk (j := 1) HR.out
  have zR2 := free_of_blk (j := 2) HR.out
  obtain ⟨hblk, hbe⟩ := put3 HB.out HR.out (by omega) (.int .i64 0) (.string ⟨#[]⟩) (.string ⟨#[]⟩)
  go_wp2
  refine bodyPost_ret (results_ct rfl _ _ w.heap.size 37 _ (0, 0) _ rfl hblk Tryz.underlying37 rfl (by kernel_rfl)) rfl ?_
  exact ⟨rfl, hbe⟩
 rw [q5]
 have hmn : m = n.1 := by
  have h := (rightBl_inv q5).1
  simp only at h
  omega
 obtain rfl : R = (⟨m, y, z⟩, 0) := by rw [HV.out]; unfold takenF; rw [if_pos ⟨q3, q4, by rw [← HRE.out]; exact q5⟩, hmn]
 have cN0 := cell_of_blk (j := 0) (v := .int .i64 m) HN.out rfl
 have cN1 := cell_of_blk (j := 1) (v := .string y) HN.out rfl
 have cN2 := cell_of_blk (j := 2) (v := .string z) HN.out rfl
 have cR0 := cell_of_blk (j := 0) (v := .int .i64 0) HR.out rfl
 have cR1 := cell_of_blk (j := 1) (v := .string ⟨#[]⟩) HR.out rfl
 have cR2 := cell_of_blk (j := 2) (v := .string ⟨#[]⟩) HR.out rfl
 have zR0 := free_of_blk (j := 0) HR.out
 have zR1 := free_of_blk (j := 1) HR.out
 have zR2 := free_of_blk (j := 2) HR.out
 obtain ⟨hblk, hbe⟩ := put3 HB.out HR.out (by omega) (.int .i64 m) (.string y) (.string z)
 clear hmn hm hm8
 go_wp2
 refine bodyPost_ret (results_ct rfl _ _ w.heap.size 37 _ (0, 0) _ rfl hblk Tryz.underlying37 rfl (by kernel_rfl)) rfl ?_
 exact ⟨rfl, hbe⟩
end Go.Proofs.YtlhoahbpklhpmaaGreatDoor
end
section

namespace Go.Proofs.YtlhoahbpklhpmaaGreatDoor.Ref
open Go.RowKit Go.Proofs.YtlhoahbpklhpmaaGreatDoor Go.Proofs.YtlhoahbpklhpmaaGreatDoor.PA Go.Proofs.YtlhoahbpklhpmaaGreatDoorW.PrintWords Go.Proofs.YtlhoahbpklhpmaaGreatDoorW.PrintLast
set_option linter.unusedVariables false
theorem ref5Secret_ev (a b : ByteArray) (n : Nat) (ha : a.size ≤ 1000000) (hb : b.size ≤ 1000000) (h : n < 18446744073709551616) :
  Ev (fun k => letterlockref5_Secret.f k a b (n : Int)) (secretF a b n) := by
 have hs := nameB_size a b
 unfold letterlockref5_Secret.f secretF
 refine Ev.pos (by omega) (Ev.pos (by rw [ByteArray.size_append, size_one]; omega) (Ev.bind (refText_ev (nameB a b) (by omega)) ?_))
 by_cases h0 : (textF (nameB a b)).2 = 0
 ·rw [if_pos h0]
  refine Ev.pos h0 (Ev.bind (refAtom_ev n h) (Ev.bind (refPair_ev (textF (nameB a b)).1 (atomB n)) ?_))
  by_cases h1 : (pairF (textF (nameB a b)).1 (atomB n)).2 = 0
  ·rw [if_pos h1]
   exact Ev.pos h1 (Ev.bind (refHash_ev _) (Ev.now _))
  ·rw [if_neg h1]
   exact Ev.neg h1 (Ev.now _)
 ·rw [if_neg h0]
  exact Ev.neg h0 (Ev.now _)
theorem ref6_loop (m : Nat) (s : ByteArray) (n : Int) (hm : n = m) (hn : n ≤ 9223372036854775807) : Ev (fun k => letterlockref6_Back.l0 k s n) (hashesF m s) := by
 induction m generalizing s n with
 | zero => exact Ev.step (fun _ => rfl) (Ev.neg (by omega) (Ev.now _))
 | succ m ih =>
  refine Ev.step (fun _ => rfl) (Ev.pos (by omega) (Ev.bind (refHash_ev s) ?_))
  unfold hashesF
  by_cases h0 : (hashF s).2 = 0
  ·rw [if_pos h0]
   refine Ev.pos h0 ?_
   rw [w64 (by omega) (by omega)]
   exact ih _ _ (by omega) (by omega)
  ·rw [if_neg h0]
   exact Ev.neg h0 (Ev.now _)
theorem ref6Back_ev (s : ByteArray) (n : Int) (hn : n ≤ 9223372036854775807) : Ev (fun k => letterlockref6_Back.f k s n) (backF s n) := by
 unfold letterlockref6_Back.f backF
 refine Ev.bind (refRight_ev s) ?_
 cases hr : right s with
 | false =>
  rw [if_neg (by simp)]
  exact Ev.neg (by simp) (Ev.step (fun _ => rfl) (Ev.now _))
 | true =>
  rw [if_pos rfl]
  refine Ev.pos rfl ?_
  by_cases h0 : n < 0
  ·rw [if_pos h0]
   exact Ev.step (fun _ => rfl) (Ev.pos (decide_eq_true h0) (Ev.now _))
  ·rw [if_neg h0]
   exact Ev.step (fun _ => rfl) (Ev.neg (by simpa using h0) (ref6_loop n.toNat s n (by omega) hn))
theorem ref6State_ev (s : ByteArray) (e : Int) : Ev (fun k => letterlockref6_State.f k s e) (stateF s e) := by
 unfold letterlockref6_State.f stateF
 refine Ev.bind (refRight_ev s) ?_
 cases hr : right s with
 | false =>
  rw [if_neg (by simp)]
  exact Ev.neg (by simp) (Ev.now _)
 | true =>
  rw [if_pos rfl]
  refine Ev.pos rfl ?_
  by_cases h0 : e < 0
  ·rw [if_pos h0]; exact Ev.pos h0 (Ev.now _)
  rw [if_neg h0]
  refine Ev.neg h0 ?_
  by_cases h1 : 7 < e
  ·rw [if_pos h1]; exact Ev.pos (by omega) (Ev.now _)
  rw [if_neg h1]
  refine Ev.neg (by omega) ?_
  rw [w64 (by omega) (by omega)]
  exact Ev.bind (ref6Back_ev s (7 - e) (by omega)) (Ev.now _)
end Go.Proofs.YtlhoahbpklhpmaaGreatDoor.Ref
namespace Go.Proofs.YtlhoahbpklhpmaaGreatDoor
open Go.RowKit Go.Proofs.YtlhoahbpklhpmaaGreatDoorW.PrintWords Go.Proofs.YtlhoahbpklhpmaaGreatDoorW.PrintLast Go.Proofs.YtlhoahbpklhpmaaGreatDoor.Ref Go.Proofs.YtlhoahbpklhpmaaGreatDoor.PA
set_option linter.unusedVariables false
def pickN (c : Int) (n : Nat) : Nat := if c < 0 then ((-(c + 1)).toNat) % n else c.toNat % n
theorem pick_lt (c : Int) {n : Nat} (h : 0 < n) : pickN c n < n := by unfold pickN; split <;> exact Nat.mod_lt _ h
abbrev I64 (c : Int) : Prop := -9223372036854775808 ≤ c ∧ c ≤ 9223372036854775807
theorem pick_val (c : Int) (n : Nat) (h0 : 0 < n) (hn : n ≤ 1000000) (hc : I64 c) : letterlocklaw9_pick.f c n = some ((pickN c n : Nat) : Int) := by
 unfold letterlocklaw9_pick.f pickN
 by_cases h : c < 0
 ·rw [if_pos h, if_neg (by omega), if_pos h]
  rw [w64 (n := c + 1) (by omega) (by omega), w64 (n := -(c + 1)) (by omega) (by omega)]
  refine congrArg some ?_
  rw [Int.tmod_eq_emod_of_nonneg (by omega)]
  have : ((-(c + 1)).toNat : Int) = -(c + 1) := by omega
  rw [Int.natCast_emod, this]
 ·rw [if_neg h, if_neg (by omega), if_neg h]
  refine congrArg some ?_
  rw [Int.tmod_eq_emod_of_nonneg (by omega)]
  have : (c.toNat : Int) = c := by omega
  rw [Int.natCast_emod, this]
theorem u64_of {n : Nat} (h : n < 18446744073709551616) : IntKind.u64.wrap (n : Int) = (n : Int) := by rw [IntKind.wrap_u64]; omega
theorem secret_root {n : Nat} (h : n < 1000) : secretF rootB xB n = (tm (rT n), 0) := secret_tm rootB xB n (by decide) (by omega)
theorem secret_sign {n : Nat} (h : n < 1000) : secretF signB xB n = (tm (sT n), 0) := secret_tm signB xB n (by decide) (by omega)
theorem root_call (c : Int) (hc : I64 c) (W : World) : Calls Tryz.prog 7 #[.int .i64 c] W fun e w' => e = .returned (.string (tm (rT (pickN c 5)))) ∧ Below W.heap.size W w' := by
 have h5 := pick_lt c (n := 5) (by omega)
 have h : Ev (fun k => letterlocklaw9_rootOf.f k c) (tm (rT (pickN c 5))) := by
  unfold letterlocklaw9_rootOf.f
  refine Ev.put (pick_val c 5 (by omega) (by omega) hc) ?_
  rw [u64_of (by omega)]
  have hs := ref5Secret_ev rootB xB (pickN c 5) (by decide) (by decide) (by omega)
  rw [secret_root (by omega)] at hs
  exact Ev.bind hs (Ev.now _)
 obtain ⟨k, hk⟩ := ev_some h
 exact letterlocklaw9_rootOf.calls k c _ W hk
theorem signer_ev {i : Nat} (hi : i < 1000) : Ev (fun k => letterlocklaw9_signerOf.f k (i : Int)) (tm (sT i)) := by
 unfold letterlocklaw9_signerOf.f
 rw [u64_of (by omega)]
 have hs := ref5Secret_ev signB xB i (by decide) (by decide) (by omega)
 rw [secret_sign hi] at hs
 exact Ev.bind hs (Ev.now _)
theorem signer_call {i : Nat} (hi : i < 1000) (W : World) : Calls Tryz.prog 12 #[.int .i64 i] W fun e w' => e = .returned (.string (tm (sT i))) ∧ Below W.heap.size W w' := by
 obtain ⟨k, hk⟩ := ev_some (signer_ev hi)
 exact letterlocklaw9_signerOf.calls k i _ W hk
theorem state_call {r e : Nat} (hr : r < 1000) (he : e ≤ 7) (W : World) : Calls Tryz.prog 6 #[.string (tm (rT r)), .int .i64 e] W fun e' w' => e' = .returned (.tuple #[.string (tm (hT (7 - e) (rT r))), .int .i64 0]) ∧ Below W.heap.size W w' := by
 have h := ref6State_ev (tm (rT r)) e
 rw [state_tm e 3 (rT r) he (rT_ok hr).1 (by omega) (by have := (rT_ok hr).2; omega)] at h
 obtain ⟨k, hk⟩ := ev_some h
 exact letterlockref6_State.calls k _ _ _ _ W hk
theorem pubs_succ (n : Nat) : pubs (n + 1) = pubs n ++ [tm (.one .u (sT n))] := by simp [pubs, List.range_succ]
theorem verifyOf_loop (n : Int) (hn : n ≤ 900) (m i : Nat) (hm : (i : Int) + m = n + 1) : Ev (fun k => letterlocklaw9_verifyOf.l0 k n (pubs i) (i : Int)) (pubs (i + m)) := by
 induction m generalizing i with
 | zero => exact Ev.step (fun _ => rfl) (Ev.neg (by omega) (Ev.now _))
 | succ m ih =>
  have hp := refPublic_ev (tm (sT i))
  rw [show ofF (⟨#[117]⟩ : ByteArray) [tm (sT i)] = _ from public_tm (pub_ok (i := i) (by omega))] at hp
  refine Ev.step (fun _ => rfl) (Ev.pos (by omega) (Ev.bind (signer_ev (by omega)) (Ev.bind hp (Ev.pos (by rw [pubs_len]; omega) ?_))))
  have := ih (i + 1) (by omega)
  rw [show i + 1 + m = i + (m + 1) from by omega, pubs_succ, show ((i + 1 : Nat) : Int) = (i : Int) + 1 from by omega] at this
  rw [w64 (by omega) (by omega)]
  exact this
theorem verifyOf_call {n : Int} (h0 : -1 ≤ n) (hn : n ≤ 900) {m : Nat} (hm : (m : Int) = n + 1) (W : World) : Calls Tryz.prog 17 #[.int .i64 n] W fun e w' => ∃ v0 : Value, e = .returned v0 ∧ Kd.R Kd.string 9 w' W.heap.size (fun _ => True) v0 (pubs m) ∧ Below W.heap.size W w' := by
 have h : Ev (fun k => letterlocklaw9_verifyOf.f k n) (pubs m) := by
  unfold letterlocklaw9_verifyOf.f
  have := verifyOf_loop n hn m 0 (by omega)
  rw [Nat.zero_add] at this
  exact this
 obtain ⟨k, hk⟩ := ev_some h
 exact letterlocklaw9_verifyOf.calls k n _ W hk
theorem take_empty : takeBl ⟨#[]⟩ = (noBl, 2) := by
 unfold takeBl
 rw [if_neg]
 intro h
 exact absurd h.1 (by decide +kernel)
def notes : ByteArray := ⟨#[97, 110, 110, 97, 47, 110, 111, 116, 101, 115]⟩
theorem anna_right : rightN [97, 110, 110, 97] = true := by decide +kernel
theorem notes_right : rightN [110, 111, 116, 101, 115] = true := by decide +kernel
theorem split_notes : (splitF notes).2.2 = 0 := by
 have h := split_path (a := ⟨#[97, 110, 110, 97]⟩) (b := ⟨#[110, 111, 116, 101, 115]⟩) anna_right notes_right
 rw [show ((⟨#[97, 110, 110, 97]⟩ ++ ⟨#[47]⟩) ++ ⟨#[110, 111, 116, 101, 115]⟩ : ByteArray) = notes from bs_inj (by rw [bytes_append, bytes_append]; rfl)] at h
 rw [h]
theorem pubs_small (n : Nat) (h : n ≤ 1000) : ∀ v ∈ pubs n, v.size ≤ 1000000 := by
 intro v hv
 simp only [pubs, List.mem_map, List.mem_range] at hv
 obtain ⟨i, hi, rfl⟩ := hv
 have := right_size (right_tm (pub_ok (i := i) (by omega)))
 omega
theorem tm_small {t : T} (h : Wf t) : (tm t).size ≤ 1000000 := by have := right_size (right_tm h); omega
end Go.Proofs.YtlhoahbpklhpmaaGreatDoor
end
section

namespace Go.Proofs.YtlhoahbpklhpmaaGreatDoor
open Go.RowKit Go.Proofs.YtlhoahbpklhpmaaGreatDoorW.PrintWords Go.Proofs.YtlhoahbpklhpmaaGreatDoorW.PrintLast Go.Proofs.YtlhoahbpklhpmaaGreatDoor.Ref
set_option linter.unusedVariables false
set_option linter.unusedSimpArgs false
def hi : ByteArray := ⟨#[104, 105]⟩
theorem bl_at {w : World} {st sg pa ct : ByteArray} {e0 : Int} (hst : st.size ≤ 1000000) (hsg : sg.size ≤ 1000000) (hpa : pa.size ≤ 1000000) (HTB : Aside0 (Tabs w)) {R : Bl × Int} (hR : buildF st e0 sg pa ct = R) :
  ∀ W : World, Below w.heap.size w W → Calls Tryz.prog 15 #[.string st, .int .i64 e0, .string sg, .string pa, .string ct] W fun e w' => e = .returned (.tuple #[.agg #[.int .i64 R.1.e, .string R.1.s, .string R.1.g], .int .i64 R.2]) ∧ Below W.heap.size W w' :=
 fun W hb => hR ▸ build_call hst hsg hpa W ⟨HTB.out.below hb⟩
theorem op_at {b : Bl} {vs : List ByteArray} {st pa : ByteArray} {e0 : Int} {R : ByteArray × Int} (hR : openBl b vs st e0 pa = R) (hbs : b.s.size ≤ 1000000) (hbg : b.g.size ≤ 1000000) (hst : st.size ≤ 1000000) (hvs : ∀ v ∈ vs, v.size ≤ 1000000) (hl : vs.length ≤ 1000000) :
  ∀ (W : World) (A : Option Addr) (cap : Nat), vs.length ≤ cap → Kd.C Kd.string W A vs.length vs → Calls Tryz.prog 16 #[.agg #[.int .i64 b.e, .string b.s, .string b.g], .slice A vs.length cap, .string st, .int .i64 e0, .string pa] W fun e w' => e = .returned (.tuple #[.string R.1, .int .i64 R.2]) ∧ Below W.heap.size W w' :=
 fun W A cap hc h => hR ▸ open_bl_call A cap hbs hbg hst hvs hl hc W h
theorem st_small {r j : Nat} (hr : r < 1000) (hj : j ≤ 20) : (tm (hT j (rT r))).size ≤ 1000000 := by have := right_size (right_state hr hj); omega
theorem sg_small {i : Nat} (hi : i < 1000) : (tm (sT i)).size ≤ 1000000 := by have := right_size (right_sign hi); omega
theorem bl_small {i e r j : Nat} (hi : i < 1000) (he : e < 1000) (hr : r < 1000) (hj : j ≤ 7) {pa ct : Bs} (hp : pa.length ≤ 300) (hc : ct.length ≤ 64) : (tm (sealT r j pa ct)).size ≤ 1000000 ∧ (tm (sigT i e r j pa ct)).size ≤ 1000000 :=
 ⟨tm_small (wf_of (sealT_ok hr hj hp hc) (by omega) (by omega)), tm_small (wf_of (sigT_ok hi he hr hj hp hc) (by omega) (by omega))⟩
def sh9.T4 : Bool × List (List Nat × List Nat) := (true, [([], []), ([], []), ([], []), ([0, 1, 2, 1], [0, 1, 2]), ([3], [3]), ([4], [4]), ([4], [4]), ([5, 3, 0, 1, 2, 3, 4, 5], [5]), ([6, 7, 0, 1, 2, 3, 4, 5, 6, 7], [6])])
def sh9.B4 : List Nat := [0, 0, 0, 7, 15, 31, 31, 63, 255]
theorem sh9.tab4 : rtab .any (opsOf Tryz.f4 4) = sh9.T4 := by kernel_rfl
theorem sh9.bits4 : waitsOk sh9.T4.2 sh9.B4 = true := by kernel_rfl
set_option maxRecDepth 100000 in
set_option maxHeartbeats 4000000 in
theorem shown9_call (w : World) (HTB : Aside0 (Tabs w)) : Calls Tryz.prog 4 #[] w fun e w' => e = .returned (.bool true) ∧ Below w.heap.size w w' := by
 have hT0 := takeBl_call ⟨#[]⟩ (by decide)
 rw [take_empty] at hT0
 have HTK : Hid (∀ W : World, Calls Tryz.prog 14 #[.string ⟨#[]⟩] W fun e w' => e = .returned (.tuple #[.agg #[.int .i64 0, .string ⟨#[]⟩, .string ⟨#[]⟩], .int .i64 2]) ∧ Below W.heap.size W w') := Lib.hid hT0
 have hr0 := root_call 0 (by decide)
 rw [show pickN 0 5 = 0 from rfl] at hr0
 have HRT := Lib.hid hr0
 have HST := Lib.hid (fun W => state_call (r := 0) (e := 2) (by omega) (by omega) W)
 have HSG := Lib.hid (fun W => signer_call (i := 2) (by omega) W)
 have HBD := Lib.hid (bl_at (st_small (r := 0) (j := 7 - 2) (by omega) (by omega)) (sg_small (i := 2) (by omega)) (show notes.size ≤ 1000000 by decide) HTB (build_tm (i := 2) (e := 2) (r := 0) (j := 7 - 2) (pa := notes) (ct := hi) (by omega) (by omega) (by omega) (by omega) split_notes (by decide)))
 obtain ⟨z1, z2⟩ := bl_small (i := 2) (e := 2) (r := 0) (j := 7 - 2) (pa := bytes notes) (ct := bytes hi) (by omega) (by omega) (by omega) (by omega) (by decide) (by decide)
 have hop := open_tm (i := 2) (e := 2) (e' := 2) (i' := 2) (r := 0) (j := 7 - 2) (m := 7 - 2) (y := 2) (pa := bytes notes) (ct := bytes hi) (pa' := notes) (vs := pubs 3) (by omega) (by omega) (by omega) (by omega) (by omega) (by omega) (by omega) (by omega) (by decide) (by decide) (pubs_len 3) (pubs_getD (by omega))
 rw [if_pos ⟨by omega, rfl, rfl, by omega, ofBytes_bytes _⟩, ofBytes_bytes] at hop
 have HOP := Lib.hid (op_at hop z1 z2 (st_small (r := 0) (j := 7 - 2) (by omega) (by omega)) (pubs_small 3 (by omega)) (by rw [pubs_len]; omega))
 have HVR := Lib.hid (fun W => verifyOf_call (n := 2) (by omega) (by omega) (m := 3) (by omega) W)
 clear hT0 hr0 hop z1 z2 HTB
 unfold blT at HBD
 simp only at HBD HOP
 generalize tm (sealT 0 (7 - 2) (bytes notes) (bytes hi)) = sl at *
 generalize tm (sigT 2 2 0 (7 - 2) (bytes notes) (bytes hi)) = sg at *
 generalize tm (hT (7 - 2) (rT 0)) = st at *
 generalize tm (sT 2) = s2 at *
 generalize tm (rT 0) = rt at *
 generalize pubs 3 = vs at *
 have HB := Lib.hid (Below.refl w.heap.size w)
 go_enter Tryz.func4, Tryz.ntmps4
 go_wp2_with fail
 refine (HTK.out _).mono ?_
 rintro e W1 ⟨rfl, hb0⟩
 have hb := hb0
 replace HB := Lib.hid (below_step HB.out hb)
 clear hb hb0
 go_wp2_with fail
 refine (HRT.out _).mono ?_
 rintro e W2 ⟨rfl, hb0⟩
 have hb := below_step (below_alloc (Below.refl _ _) _) hb0
 replace HB := Lib.hid (below_step HB.out hb)
 have HXt := Lib.hid (blk_below (blk_new W1 (.cells #[.int .i64 0, .string ⟨#[]⟩, .string ⟨#[]⟩] 37)) hb0)
 clear hb hb0
 go_wp2_with fail
 refine (HST.out _).mono ?_
 rintro e W3 ⟨rfl, hb0⟩
 have hb := hb0
 replace HB := Lib.hid (below_step HB.out hb)
 replace HXt := Lib.hid (blk_below HXt.out hb)
 clear hb hb0
 go_wp2_with fail
 refine (HSG.out _).mono ?_
 rintro e W4 ⟨rfl, hb0⟩
 have hb := hb0
 replace HB := Lib.hid (below_step HB.out hb)
 replace HXt := Lib.hid (blk_below HXt.out hb)
 clear hb hb0
 go_wp2_with fail
 refine (HBD.out _ HB.out).mono ?_
 rintro e W5 ⟨rfl, hb0⟩
 have hb := hb0
 replace HB := Lib.hid (below_step HB.out hb)
 replace HXt := Lib.hid (blk_below HXt.out hb)
 clear hb hb0
 go_wp2_with fail
 have hb0 : Below (W5.alloc (.cells #[.int .i64 2, .string sl, .string sg] 37)).heap.size (W5.alloc (.cells #[.int .i64 2, .string sl, .string sg] 37)) (W5.alloc (.cells #[.int .i64 2, .string sl, .string sg] 37)).drew := below_drew (Below.refl _ _)
 have hb := below_step (below_alloc (Below.refl _ _) _) hb0
 replace HB := Lib.hid (below_step HB.out hb)
 replace HXt := Lib.hid (blk_below HXt.out hb)
 have HXb := Lib.hid (blk_below (blk_new W5 (.cells #[.int .i64 2, .string sl, .string sg] 37)) hb0)
 clear hb hb0
 refine start_ (n := 9) (S := fun w' => w'.cell? ⟨W5.heap.size, 0, none⟩ = some (.int .i64 2) ∧ w'.cell? ⟨W5.heap.size, 1, none⟩ = some (.string sl) ∧ w'.cell? ⟨W5.heap.size, 2, none⟩ = some (.string sg)) (ds := []) #[false, false, false, false, false, false, false, false, false] (by kernel_rfl) rfl rfl ⟨(cell_of_blk HXb.out rfl), (cell_of_blk HXb.out rfl), (cell_of_blk HXb.out rfl)⟩ (fun hHeld => ?_)
 refine with_tabW sh9.tab4 sh9.bits4 (fun HT_ HW_ => ?_)
 refine pure_ (i := 2) (N := some 27) (v := ?_) (a' := ?_) #[false, false, true, false, false, false, false, false, false] rfl rfl (any_of HT_.out (by kernel_rfl)) (fun _ _ _ h => h) (Or.inl ⟨by rfl, ?_⟩) ?_ ?_
 rotate_left
 ·intro w'
  go_simp
  with_reducible rfl
 rotate_left
 ·simp only [Act.put, List.setIfInBounds_toArray, List.set_cons_zero, List.set_cons_succ, i64_w, i32_w]
  rfl
 refine take_ (i := 0) (N := some 25) (v := ?_) (a' := ?_) #[true, false, true, false, false, false, false, false, false] rfl rfl (take_ofW HT_.out HW_.out (by kernel_rfl)) (fun _ _ _ h => h) (Or.inl ⟨by rfl, ?_⟩) hHeld ?_ ?_
 rotate_left
 ·rintro w' ⟨s0, s1, s2⟩
  go_simp
  with_reducible rfl
 rotate_left
 ·simp only [Act.put, List.setIfInBounds_toArray, List.set_cons_zero, List.set_cons_succ, i64_w, i32_w]
  rfl
 refine one_ (i := 1) (N := some 26) #[true, true, true, false, false, false, false, false, false] rfl rfl (one_of HT_.out (by kernel_rfl)) (by decide) (fun K hK => ?_)
 refine goes_ Tryz.func17 (by kernel_rfl) rfl #[.int .i64 2] (by rfl) rfl rfl (by simp only [List.map_toArray, List.map_cons, List.map_nil]; rfl) ?_
 refine (HVR.out _).mono ?_
 rintro e W6 ⟨vv, rfl, hr, hb0⟩
 refine ⟨_, rfl, ?_⟩
 have hb := hb0
 replace HB := Lib.hid (below_step HB.out hb)
 replace HXt := Lib.hid (blk_below HXt.out hb)
 replace HXb := Lib.hid (blk_below HXb.out hb)
 clear hb hb0
 obtain ⟨Av, cv, rfl⟩ := Kd.R_slice hr
 have hcv := (Kd.R_reads' hr).2.1
 have HVv := Lib.hid (Kd.R_reads' hr).2.2
 clear hr
 refine hK.out _ _ ⟨(cell_of_blk HXb.out rfl), (cell_of_blk HXb.out rfl), (cell_of_blk HXb.out rfl)⟩ (fun hHeld => ?_)
 clear hK K
 refine norm_ (a' := ?_) ?_ ?_
 rotate_left
 ·show Act.put _ (some 26) _ = _
  simp only [Act.put, List.setIfInBounds_toArray, List.set_cons_zero, List.set_cons_succ, i64_w, i32_w]
  rfl
 refine one_ (i := 3) (N := some 28) #[true, true, true, true, false, false, false, false, false] rfl rfl (one_of HT_.out (by kernel_rfl)) (by decide) (fun K hK => ?_)
 refine goes_ Tryz.func16 (by kernel_rfl) rfl #[.agg #[.int .i64 2, .string sl, .string sg], .slice Av vs.length cv, .string st, .int .i64 2, .string ⟨#[97, 110, 110, 97, 47, 110, 111, 116, 101, 115]⟩] (by rfl) rfl rfl (by simp only [List.map_toArray, List.map_cons, List.map_nil]; rfl) ?_
 refine (HOP.out _ _ _ hcv HVv.out).mono ?_
 rintro e W7 ⟨rfl, hb0⟩
 refine ⟨_, rfl, ?_⟩
 have hb := hb0
 replace HB := Lib.hid (below_step HB.out hb)
 replace HXt := Lib.hid (blk_below HXt.out hb)
 replace HXb := Lib.hid (blk_below HXb.out hb)
 replace HVv := Lib.hid (Kd.C_below HVv.out hb)
 clear hb hb0
 refine hK.out _ _ ⟨(cell_of_blk HXb.out rfl), (cell_of_blk HXb.out rfl), (cell_of_blk HXb.out rfl)⟩ (fun hHeld => ?_)
 clear hK K
 refine norm_ (a' := ?_) ?_ ?_
 rotate_left
 ·show Act.put _ (some 28) _ = _
  simp only [Act.put, List.setIfInBounds_toArray, List.set_cons_zero, List.set_cons_succ, i64_w, i32_w]
  rfl
 refine pure_ (i := 4) (N := some 24) (v := ?_) (a' := ?_) #[true, true, true, true, true, false, false, false, false] rfl rfl (any_of HT_.out (by kernel_rfl)) (fun _ _ _ h => h) (Or.inl ⟨by rfl, ?_⟩) ?_ ?_
 rotate_left
 ·intro w'
  go_simp
  with_reducible rfl
 rotate_left
 ·simp only [Act.put, List.setIfInBounds_toArray, List.set_cons_zero, List.set_cons_succ, i64_w, i32_w]
  rfl
 refine pure_ (i := 5) (N := some 29) (v := ?_) (a' := ?_) #[true, true, true, true, true, true, false, false, false] rfl rfl (any_of HT_.out (by kernel_rfl)) (fun _ _ _ h => h) (Or.inl ⟨by rfl, ?_⟩) ?_ ?_
 rotate_left
 ·intro w'
  go_simp
  with_reducible rfl
 rotate_left
 ·simp only [Act.put, List.setIfInBounds_toArray, List.set_cons_zero, List.set_cons_succ, i64_w, i32_w]
  rfl
 refine pure_ (i := 6) (N := some 30) (v := ?_) (a' := ?_) #[true, true, true, true, true, true, true, false, false] rfl rfl (any_of HT_.out (by kernel_rfl)) (fun _ _ _ h => h) (Or.inl ⟨by rfl, ?_⟩) ?_ ?_
 rotate_left
 ·intro w'
  go_simp
  with_reducible rfl
 rotate_left
 ·simp only [Act.put, List.setIfInBounds_toArray, List.set_cons_zero, List.set_cons_succ, i64_w, i32_w]
  rfl
 refine pure_ (i := 7) (N := some 7) (v := ?_) (a' := ?_) #[true, true, true, true, true, true, true, true, false] rfl rfl (any_of HT_.out (by kernel_rfl)) (fun _ _ _ h => h) (Or.inl ⟨by rfl, ?_⟩) ?_ ?_
 rotate_left
 ·intro w'
  go_simp
  with_reducible rfl
 rotate_left
 ·simp only [Act.put, List.setIfInBounds_toArray, List.set_cons_zero, List.set_cons_succ, i64_w, i32_w]
  rfl
 refine pure_ (i := 8) (N := some 8) (v := ?_) (a' := ?_) #[true, true, true, true, true, true, true, true, true] rfl rfl (any_of HT_.out (by kernel_rfl)) (fun _ _ _ h => h) (Or.inl ⟨by rfl, ?_⟩) ?_ ?_
 rotate_left
 ·intro w'
  go_simp
  with_reducible rfl
 rotate_left
 ·simp only [Act.put, List.setIfInBounds_toArray, List.set_cons_zero, List.set_cons_succ, i64_w, i32_w]
  rfl
 refine done_ (done_of HT_.out (by kernel_rfl)) ?_
 clear HT_
 go_wp2
 go_ret
 refine ⟨?_, HB.out⟩
 show Ending.returned (.bool (hi.toList == [104, 105])) = _
 rw [bytes_toList]
 rfl
end Go.Proofs.YtlhoahbpklhpmaaGreatDoor
end
section

namespace Go.Proofs.YtlhoahbpklhpmaaGreatDoor
open Go.RowKit Go.Proofs.YtlhoahbpklhpmaaGreatDoorW.PrintWords
set_option linter.unusedVariables false
def law9_shown.f : Option Bool := some true
theorem law9_shown.calls (r : Bool) (w : World) (HTB : Aside0 (Tabs w)) (h : law9_shown.f = some r) :
  Calls Tryz.prog 4 #[] w fun e w' => e = .returned (.bool r) ∧ Below w.heap.size w w' := by
 obtain rfl := Option.some.inj h
 exact shown9_call w HTB
end Go.Proofs.YtlhoahbpklhpmaaGreatDoor
end
section

namespace Go.Proofs.YtlhoahbpklhpmaaGreatDoor.PH
open Go.RowKit Go.Proofs.YtlhoahbpklhpmaaGreatDoorW.PrintWords Go.Proofs.YtlhoahbpklhpmaaGreatDoorW.PrintLast Go.Proofs.YtlhoahbpklhpmaaGreatDoorW.PrintMore
attribute [local go_sem] max2_int min2_int max_two min_two max_three min_three max_four min_four   -- for this text's walks alone
set_option linter.unusedVariables false
set_option linter.unusedSimpArgs false
def errW : Option Int → Value
 | none => .nilIface
 | some c => .iface 0 (.int .i64 c)
theorem errW_none : errW none = .nilIface := rfl
theorem errW_some (c : Int) : errW (some c) = .iface 0 (.int .i64 c) := rfl
theorem info9 : (Tryz.prog.info? 9).map (fun i => (i.zero, i.size, i.bytes)) = some (some (.string ⟨#[]⟩), 1, 16) := by kernel_rfl
end Go.Proofs.YtlhoahbpklhpmaaGreatDoor.PH
end
