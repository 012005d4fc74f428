/- Contracts and laws that the statement of LawDataHides leans on (packed from this claim's own texts): part 5. -/
import Derived.LoopTactic
import Derived.Test.YtlhoahbpklhpmaaGreatDoorQH3
import Derived.Test.YtlhoahbpklhpmaaGreatDoorQH4
section

namespace Go.Proofs.YtlhoahbpklhpmaaGreatDoor
open Go.RowKit Go.Proofs.YtlhoahbpklhpmaaGreatDoorW.PrintWords
set_option linter.unusedVariables false
def catB (k : ByteArray) (l : List ByteArray) : ByteArray := l.foldl (fun t p => t ++ p) k
def ofF (k : ByteArray) (l : List ByteArray) : ByteArray × Int :=
 if l.all right = true then (if right (catB k l) = true then (catB k l, 0) else (⟨#[]⟩, 10)) else (⟨#[]⟩, 1)
def term_of.f (a0 : ByteArray) (l1 : List ByteArray) : Option (ByteArray × Int) :=
 if a0.size ≤ 1000000 ∧ l1.length ≤ 1000000 ∧ (l1.all fun s => decide (s.size ≤ 9223372036854774000)) = true then some (ofF a0 l1) else none
theorem catB_snoc (k : ByteArray) (l : List ByteArray) (x : ByteArray) : catB k (l ++ [x]) = catB k l ++ x := by simp [catB]
theorem right_size {s : ByteArray} (h : right s = true) : s.size ≤ 4000 := by
 unfold right at h
 obtain ⟨t, ht⟩ := Option.isSome_iff_exists.1 h
 obtain ⟨h1, h2⟩ := termOf_inv ht
 rw [← bytes_length, h1]
 exact h2.2
theorem catB_size (k : ByteArray) (l : List ByteArray) (h : l.all right = true) : (catB k l).size ≤ k.size + 4000 * l.length := by
 induction l using snoc_ind with
 | h0 => simp [catB]
 | h1 l x ih =>
  rw [catB_snoc, ByteArray.size_append, List.length_append, List.length_singleton]
  simp only [List.all_append, Bool.and_eq_true, List.all_cons, List.all_nil, Bool.and_true] at h
  have := ih h.1
  have := right_size h.2
  omega
theorem whole_right (s : ByteArray) (w : World) (hs : s.size ≤ 9223372036854774000) (h : right s = true) :
  Calls Tryz.prog 58 #[.string s] w fun e w' => ∃ ty y, e = .returned (.iface ty y) ∧ Below w.heap.size w w' := by
 refine (whole_any s w hs).mono ?_
 rintro e w1 ⟨v, rfl, hv, hb⟩
 unfold right at h
 obtain ⟨t, ht⟩ := Option.isSome_iff_exists.1 h
 rw [ht] at hv
 obtain ⟨ty, y, rfl⟩ := NodeAt.shape (show NodeAt w1 w.heap.size v t from hv)
 exact ⟨_, _, rfl, hb⟩
theorem whole_wrong (s : ByteArray) (w : World) (hs : s.size ≤ 9223372036854774000) (h : right s = false) :
  Calls Tryz.prog 58 #[.string s] w fun e w' => e = .returned .nilIface ∧ Below w.heap.size w w' := by
 refine (whole_any s w hs).mono ?_
 rintro e w1 ⟨v, rfl, hv, hb⟩
 unfold right at h
 have ht : termOf (bytes s) = none := by simpa using h
 rw [ht] at hv
 obtain rfl : v = .nilIface := hv
 exact ⟨rfl, hb⟩
theorem readsC {w : World} {A : Option Addr} {l : List ByteArray} (h : Kd.C Kd.string w A l.length l) {k : Nat} (hk : k < l.length) : ∃ ad, A = some ad ∧ w.cell? (ad.add k) = some (.string l[k]) := by
 obtain ⟨ad, rfl, hc⟩ := h.2.2 (by omega)
 obtain ⟨cs, hl, rfl, hz⟩ := hc k l[k] (List.getElem?_eq_getElem hk)
 have := hz 0 _ rfl
 rw [show k * Kd.string.sz + 0 = k from by simp [Kd.string, Kd.scalar]] at this
 exact ⟨ad, rfl, this⟩
theorem term_of.calls (a0 : ByteArray) (A1 : Option Addr) (c1 : Nat) (l1 : List ByteArray) (r1 : ByteArray) (r2 : Int) (w : World) (hr1 : Kd.C Kd.string w A1 l1.length l1) (hc1 : l1.length ≤ c1) (h : term_of.f a0 l1 = some (r1, r2)) :
  Calls Tryz.prog 25 #[.string a0, .slice A1 l1.length c1] w fun e w' => e = .returned (.tuple #[.string r1, .int .i64 r2]) ∧ Below w.heap.size w w' := by
 unfold term_of.f at h
 split at h
 ·rename_i hsz
  obtain ⟨hk, hln, hall⟩ := hsz
  have h := Option.some.inj h
  have HE : Hid ((r1, r2) = ofF a0 l1) := h.symm
  have HR := Lib.hid hr1
  have HA : Hid (∀ k, (hk : k < l1.length) → (l1[k]).size ≤ 9223372036854774000) := fun k hk => by
   have := List.all_eq_true.1 hall l1[k] (List.getElem_mem hk)
   simpa using this
  clear h hr1 hall
  go_enter Tryz.func25, Tryz.ntmps25
  go_wp2_with fail
  go_loopw [6, 12] (fun t i wr => ∃ k : Nat, k ≤ l1.length ∧ i = .int .i64 k ∧ t = .string (catB a0 (l1.take k)) ∧ (l1.take k).all right = true ∧ Below w.heap.size w wr) (fun _ i _ => 2000000 - (intOf i).toNat)
  case atStart => exact ⟨0, by omega, rfl, rfl, rfl, Below.refl _ _⟩
  case round =>
   obtain ⟨k, hk2, rfl, rfl, hright, hb⟩ := hrel
   have Hright := Lib.hid hright
   have Hb := Lib.hid hb
   clear hright hb
   have Hcs := Lib.hid (catB_size a0 (l1.take k) Hright.out)
   have hcs : (catB a0 (l1.take k)).size ≤ 5000000000 := by
    have := Hcs.out
    rw [List.length_take] at this
    omega
   by_cases hlt : k < l1.length
   ·obtain ⟨ad, hA, hcell0⟩ := readsC HR.out hlt
    subst hA
    have hcell := pw_cell_below' Hb.out hcell0
    have hsx := HA.out k hlt
    have Htk : Hid (l1.take (k + 1) = l1.take k ++ [l1[k]]) := List.take_succ_eq_append_getElem hlt
    clear hcell0
    generalize hx : l1[k] = x at *
    have Hx := Lib.hid hx
    clear hx
    cases hrx : right x with
    | false =>
     have hv : (r1, r2) = ((⟨#[]⟩, 1) : ByteArray × Int) := by
      rw [HE.out]
      unfold ofF
      rw [if_neg]
      intro ha
      have := List.all_eq_true.1 ha x (by rw [← Hx.out]; exact List.getElem_mem hlt)
      rw [hrx] at this
      cases this
     have HV := Lib.hid hv
     clear hv
     obtain ⟨e1, e2⟩ := Prod.mk.inj HV.out
     subst e1 e2
     have HW := Lib.hid (whole_wrong x wr hsx hrx)
     clear hrx HV HE
     go_wp2_with fail
     refine HW.out.mono ?_
     rintro e w5 ⟨rfl, hb5⟩
     have HB := Lib.hid (Hb.out.trans (hb5.mono Hb.out.size))
     clear hb5
     go_wp2
     go_ret2
     exact ⟨rfl, HB.out⟩
    | true =>
     have HW := Lib.hid (whole_right x wr hsx hrx)
     have hx4 := right_size hrx
     have hr2 : (l1.take (k + 1)).all right = true := by rw [Htk.out, List.all_append, Hright.out]; simp [hrx]
     have hc2 : catB a0 (l1.take (k + 1)) = catB a0 (l1.take k) ++ x := by rw [Htk.out, catB_snoc]
     have HR2 := Lib.hid hr2
     have HC2 := Lib.hid hc2
     clear hr2 hc2
     generalize catB a0 (l1.take k) = q at *
     clear hrx
     go_wp2_with fail
     refine HW.out.mono ?_
     rintro e w5 ⟨ty, y, rfl, hb5⟩
     have HB := Lib.hid (Hb.out.trans (hb5.mono Hb.out.size))
     clear hb5
     go_wp2
     go_roundw
     case rel => exact ⟨k + 1, by omega, by go_num, by rw [HC2.out], HR2.out, HB.out⟩
     case measure => simp [intOf]; omega
   ·obtain rfl : k = l1.length := by omega
    have hlt2 : ¬ ((l1.length : Int) < (l1.length : Int)) := by omega
    clear hlt
    rw [List.take_length] at *
    have hv : (r1, r2) = if right (catB a0 l1) = true then (catB a0 l1, 0) else ((⟨#[]⟩, 10) : ByteArray × Int) := by
     rw [HE.out]
     unfold ofF
     rw [if_pos Hright.out]
    clear HE
    cases hrx : right (catB a0 l1) with
    | false =>
     rw [hrx, if_neg (by simp)] at hv
     obtain ⟨e1, e2⟩ := Prod.mk.inj hv
     subst e1 e2
     have HW := Lib.hid (whole_wrong (catB a0 l1) wr (by omega) hrx)
     clear hv hrx
     go_wp2_with fail
     refine HW.out.mono ?_
     rintro e w5 ⟨rfl, hb5⟩
     have HB := Lib.hid (Hb.out.trans (hb5.mono Hb.out.size))
     clear hb5
     go_wp2
     go_ret2
     exact ⟨rfl, HB.out⟩
    | true =>
     rw [hrx, if_pos rfl] at hv
     obtain ⟨e1, e2⟩ := Prod.mk.inj hv
     subst e1 e2
     have HW := Lib.hid (whole_right (catB a0 l1) wr (by omega) hrx)
     clear hv hrx
     go_wp2_with fail
     refine HW.out.mono ?_
     rintro e w5 ⟨ty, y, rfl, hb5⟩
     have HB := Lib.hid (Hb.out.trans (hb5.mono Hb.out.size))
     clear hb5
     go_wp2
     go_ret2
     exact ⟨rfl, HB.out⟩
 ·exact absurd h (by simp)
end Go.Proofs.YtlhoahbpklhpmaaGreatDoor
end
section

namespace Go.Proofs.YtlhoahbpklhpmaaGreatDoor
open Go.RowKit Go.Maps Go.Proofs.YtlhoahbpklhpmaaGreatDoorW.PrintWords
set_option linter.unusedVariables false
theorem wf_parts {t a : T} (h : Wf t) (ha : a ∈ t.parts) : Wf a := by
 cases t with
 | atom n => simp [T.parts] at ha
 | text n => simp [T.parts] at ha
 | one k x =>
  simp only [T.parts, List.mem_singleton] at ha
  subst ha
  exact ⟨ok_mono (d := 39) h.1 (by omega), by have := h.2; simp only [enc, List.length_cons] at this; omega⟩
 | two k x y =>
  simp only [T.parts, List.mem_cons, List.not_mem_nil, or_false] at ha
  have h2 := h.2
  simp only [enc, List.length_cons, List.length_append] at h2
  rcases ha with rfl | rfl
  ·exact ⟨ok_mono (d := 39) h.1.1 (by omega), by omega⟩
  ·exact ⟨ok_mono (d := 39) h.1.2.1 (by omega), by omega⟩
theorem partsF_tB {t : T} (h : Wf t) : term_Parts.f (tB t) = some (t.parts.map tB, 0) := by
 unfold term_Parts.f partsF
 rw [if_pos (by have := tB_size h; omega), show bytes (tB t) = enc t from bytes_ofBytes _, termOf_enc h]
 rfl
theorem tB_code (t : T) : ∀ h : 0 < (tB t).size, ((tB t)[0]'h).toNat = t.code.toNat := by
 obtain ⟨l, hl⟩ := enc_code t
 have hb0 : bytes (tB t) = t.code :: l := by rw [← hl]; exact bytes_ofBytes _
 exact fun h => by rw [(bytes_cons hb0).2.2.1 h]
theorem tB_pos (t : T) : 0 < (tB t).size := by unfold tB; rw [size_ofBytes]; exact enc_pos t
def togB (S : List T) (s : ByteArray) : Bool := match termOf (bytes s) with | some t => tog S t | none => false
theorem togB_tB (S : List T) {t : T} (h : Wf t) : togB S (tB t) = tog S t := by
 unfold togB
 rw [show bytes (tB t) = enc t from bytes_ofBytes _, termOf_enc h]
def TogC (t : T) : Prop := ∀ (S : List T) (b : Nat) (w : World), HadAt w b S → Wf t →
 Calls Tryz.prog 28 #[.map (some b), .string (tB t)] w fun e w' => e = .returned (.bool (tog S t)) ∧ Below w.heap.size w w'
theorem tog1_any (t : T) (ht : TogC t) (hw : Wf t) (S : List T) (b x : Nat) (w : World) (hS : HadAt w b S) (hx : w.cell? ⟨x, 0, none⟩ = some (.map (some b))) :
  Calls Tryz.prog 64 #[.string (tB t), .pointer (some ⟨x, 0, none⟩)] w fun e w' => e = .returned (.bool (!tog S t)) ∧ Below w.heap.size w w' := by
 have HT := Lib.hid (ht S b w hS hw)
 clear ht hS hw
 go_enter Tryz.func64, Tryz.ntmps64
 go_wp2_with fail
 refine HT.out.mono ?_
 rintro e w5 ⟨rfl, hb⟩
 have HB := Lib.hid hb
 clear hb HT
 go_wp2
 go_ret
 exact ⟨rfl, HB.out⟩
theorem below_box {w w1 : World} {o : Obj} (h : Below (w.alloc o).heap.size (w.alloc o) w1) : Below w.heap.size w w1 := ((Below.refl _ w).alloc (Nat.le_refl _) o).trans (h.mono (by simp))
theorem tog_parts {S : List T} {t : T} (hw : Wf t) (hc : S.contains t = false) (h97 : t.code.toNat ≠ 97) (h116 : t.code.toNat ≠ 116) : tog S t = !((t.parts.map tB).any fun s => !togB S s) := by
 have hz : ∀ a ∈ t.parts, togB S (tB a) = tog S a := fun a ha => togB_tB S (wf_parts hw ha)
 cases t with
 | atom n => exact absurd rfl h97
 | text n => exact absurd rfl h116
 | one k a =>
  simp only [tog, hc, Bool.false_or, T.parts, List.map_cons, List.map_nil, List.any_cons, List.any_nil, Bool.or_false]
  rw [hz a (by simp [T.parts])]
  simp
 | two k a c =>
  simp only [tog, hc, Bool.false_or, T.parts, List.map_cons, List.map_nil, List.any_cons, List.any_nil, Bool.or_false]
  rw [hz a (by simp [T.parts]), hz c (by simp [T.parts])]
  simp
theorem tog_has (t : T) (S : List T) (b : Nat) (w : World) (hS : HadAt w b S) (hw : Wf t) (hc : S.contains t = true) :
  Calls Tryz.prog 28 #[.map (some b), .string (tB t)] w fun e w' => e = .returned (.bool true) ∧ Below w.heap.size w w' := by
 have HH := Lib.hid (fun W (h : HadAt W b S) => has_any b S t W h hw)
 rw [hc] at HH
 have HS := Lib.hid hS
 clear hc hS hw
 generalize tB t = s at *
 go_enter Tryz.func28, Tryz.ntmps28
 go_wp2_with fail
 refine (HH.out _ (HS.out.below ((Below.refl _ _).alloc (Nat.le_refl _) _))).mono ?_
 rintro e w5 ⟨rfl, hb⟩
 have HB := Lib.hid (below_box hb)
 clear hb HH HS
 go_wp2
 go_ret
 exact ⟨rfl, HB.out⟩
theorem tog_text (t : T) (S : List T) (b : Nat) (w : World) (hS : HadAt w b S) (hw : Wf t) (hc : S.contains t = false) (h116 : t.code.toNat = 116) :
  Calls Tryz.prog 28 #[.map (some b), .string (tB t)] w fun e w' => e = .returned (.bool true) ∧ Below w.heap.size w w' := by
 have HH := Lib.hid (fun W (h : HadAt W b S) => has_any b S t W h hw)
 rw [hc] at HH
 have HS := Lib.hid hS
 have hby := tB_code t
 have hpos := tB_pos t
 rw [h116] at hby
 clear hc hS hw h116
 generalize tB t = s at *
 go_enter Tryz.func28, Tryz.ntmps28
 go_wp2_with fail
 refine (HH.out _ (HS.out.below ((Below.refl _ _).alloc (Nat.le_refl _) _))).mono ?_
 rintro e w5 ⟨rfl, hb⟩
 have HB := Lib.hid (below_box hb)
 clear hb HH HS
 go_wp2
 go_ret
 exact ⟨rfl, HB.out⟩
theorem tog_atom (t : T) (S : List T) (b : Nat) (w : World) (hS : HadAt w b S) (hw : Wf t) (hc : S.contains t = false) (h97 : t.code.toNat = 97) :
  Calls Tryz.prog 28 #[.map (some b), .string (tB t)] w fun e w' => e = .returned (.bool false) ∧ Below w.heap.size w w' := by
 have HH := Lib.hid (fun W (h : HadAt W b S) => has_any b S t W h hw)
 rw [hc] at HH
 have HS := Lib.hid hS
 have HP := Lib.hid (partsF_tB hw)
 have hby := tB_code t
 have hpos := tB_pos t
 rw [h97] at hby
 clear hc hS hw h97
 generalize t.parts.map tB = l at *
 generalize tB t = s at *
 go_enter Tryz.func28, Tryz.ntmps28
 go_wp2_with fail
 refine (HH.out _ (HS.out.below ((Below.refl _ _).alloc (Nat.le_refl _) _))).mono ?_
 rintro e w5 ⟨rfl, hb⟩
 have HB := Lib.hid (below_box hb)
 clear hb HH HS
 go_wp2_with fail
 refine (term_Parts.calls s l 0 _ HP.out).mono ?_
 rintro e w6 ⟨v0, rfl, hR, hb⟩
 have HB6 := Lib.hid (HB.out.trans (hb.mono HB.out.size))
 clear hb hR HB HP
 go_wp2
 go_ret
 exact ⟨rfl, HB6.out⟩
theorem tog_all (t : T) (hp : ∀ a ∈ t.parts, TogC a) (S : List T) (b : Nat) (w : World) (hS : HadAt w b S) (hw : Wf t) (hc : S.contains t = false) (h97 : t.code.toNat ≠ 97) (h116 : t.code.toNat ≠ 116) :
  Calls Tryz.prog 28 #[.map (some b), .string (tB t)] w fun e w' => e = .returned (.bool (!((t.parts.map tB).any fun s => !togB S s))) ∧ Below w.heap.size w w' := by
 have HH := Lib.hid (fun W (h : HadAt W b S) => has_any b S t W h hw)
 rw [hc] at HH
 have HS := Lib.hid hS
 have HP := Lib.hid (partsF_tB hw)
 have hby := tB_code t
 have hpos := tB_pos t
 have hlen : (t.parts.map tB).length ≤ 1000000 := by cases t <;> simp [T.parts]
 have HC := Lib.hid (fun x W (h : HadAt W b S) (hx : W.cell? ⟨x, 0, none⟩ = some (.map (some b))) A cap (hcl : ∀ k (hk : k < (t.parts.map tB).length), ∃ ad, A = some ad ∧ W.cell? (ad.add k) = some (.string (t.parts.map tB)[k])) =>
  contains_any A (t.parts.map tB) cap x (fun s => !togB S s) W hlen hcl (fun s hs W' hb => by
   obtain ⟨a, ha, rfl⟩ := List.mem_map.1 hs
   have := tog1_any a (hp a ha) (wf_parts hw ha) S b x W' (h.below hb) (pw_cell_below hb hx)
   rw [← togB_tB S (wf_parts hw ha)] at this
   exact this))
 have hb97 : ((t.code.toNat : Int) != 97) = true := bne_iff_ne.mpr (by omega)
 have hb116 : ((t.code.toNat : Int) == 116) = false := beq_eq_false_iff_ne.mpr (by omega)
 generalize hgc : t.code.toNat = c at *
 generalize t.parts.map tB = l at *
 generalize (l.any fun s => !togB S s) = res at *
 generalize tB t = s at *
 clear hc hS hw h97 h116 hgc hp hlen
 go_enter Tryz.func28, Tryz.ntmps28
 go_wp2_with fail
 refine (HH.out _ (HS.out.below ((Below.refl _ _).alloc (Nat.le_refl _) _))).mono ?_
 rintro e w5 ⟨rfl, hb⟩
 have HB := Lib.hid (And.intro (below_box hb) hb)
 clear hb HH
 go_wp2_with fail
 refine (term_Parts.calls s l 0 _ HP.out).mono ?_
 rintro e w6 ⟨v0, rfl, hR, hb⟩
 obtain ⟨A, cap, rfl⟩ := Kd.R_slice hR
 have HR := Lib.hid hR
 have HB6 := Lib.hid (And.intro (HB.out.1.trans (hb.mono HB.out.1.size)) (HB.out.2.trans (hb.mono HB.out.2.size)))
 clear hb hR HB HP
 go_wp2_with fail
 refine (HC.out w.heap.size w6 (HS.out.below HB6.out.1) (pw_cell_below HB6.out.2 (by simp)) A cap (fun k hk => readsC (Kd.R_reads' HR.out).2.2 hk)).mono ?_
 rintro e w7 ⟨rfl, hb⟩
 have HB7 := Lib.hid (HB6.out.1.trans (hb.mono HB6.out.1.size))
 clear hb HR HB6 HC HS
 go_wp2
 go_ret
 exact ⟨rfl, HB7.out⟩
theorem tog_step (t : T) (hp : ∀ a ∈ t.parts, TogC a) : TogC t := by
 intro S b w hS hw
 by_cases hc : S.contains t = true
 ·rw [show tog S t = true from by cases t <;> simp only [tog, hc, Bool.true_or]]
  exact tog_has t S b w hS hw hc
 have hc : S.contains t = false := by simpa using hc
 by_cases h97 : t.code.toNat = 97
 ·have : tog S t = false := by
   cases t with
   | atom n => exact hc
   | text n => exact absurd h97 (show ¬ (116 : UInt8).toNat = 97 by decide)
   | one k a => exact absurd h97 (show ¬ k.code.toNat = 97 by cases k <;> decide)
   | two k a c => exact absurd h97 (show ¬ k.code.toNat = 97 by cases k <;> decide)
  rw [this]
  exact tog_atom t S b w hS hw hc h97
 by_cases h116 : t.code.toNat = 116
 ·have : tog S t = true := by
   cases t with
   | atom n => exact absurd rfl h97
   | text n => rfl
   | one k a => exact absurd h116 (show ¬ k.code.toNat = 116 by cases k <;> decide)
   | two k a c => exact absurd h116 (show ¬ k.code.toNat = 116 by cases k <;> decide)
  rw [this]
  exact tog_text t S b w hS hw hc h116
 rw [tog_parts hw hc h97 h116]
 exact tog_all t hp S b w hS hw hc h97 h116
theorem tog_any (t : T) : TogC t := by
 induction t with
 | atom n => exact tog_step _ (fun a ha => by simp [T.parts] at ha)
 | text n => exact tog_step _ (fun a ha => by simp [T.parts] at ha)
 | one k a ih => exact tog_step _ (fun x hx => by simp only [T.parts, List.mem_singleton] at hx; rw [hx]; exact ih)
 | two k a c iha ihc =>
  refine tog_step _ (fun x hx => ?_)
  simp only [T.parts, List.mem_cons, List.not_mem_nil, or_false] at hx
  rcases hx with rfl | rfl
  ·exact iha
  ·exact ihc
end Go.Proofs.YtlhoahbpklhpmaaGreatDoor
end
section

namespace Go.Proofs.YtlhoahbpklhpmaaGreatDoor
open Go.RowKit Go.Maps Go.Proofs.YtlhoahbpklhpmaaGreatDoorW.PrintWords
set_option linter.unusedVariables false
def ReadsB (w : World) (A : Option Addr) (l : List ByteArray) : Prop := ∀ k (hk : k < l.length), ∃ ad, A = some ad ∧ w.cell? (ad.add k) = some (.string l[k])
theorem ReadsB.below {w w' : World} {A : Option Addr} {l : List ByteArray} (h : ReadsB w A l) (hb : Below w.heap.size w w') : ReadsB w' A l := fun k hk => by
 obtain ⟨ad, h1, h2⟩ := h k hk
 exact ⟨ad, h1, pw_cell_below hb h2⟩
def GivesC (t : T) (S : List T) (b : Nat) (w : World) (l : List T) : Prop :=
 Calls Tryz.prog 61 #[.map (some b), .string (tB t)] w fun e w' => ∃ A cap, e = .returned (.slice A l.length cap) ∧ ReadsB w' A (l.map tB) ∧ Below w.heap.size w w'
theorem gives_none (t : T) (S : List T) (b : Nat) (w : World) (hS : HadAt w b S) (hw : Wf t) (h1 : t.code.toNat ≠ 112) (h2 : t.code.toNat ≠ 103) (h3 : t.code.toNat ≠ 115) (h4 : t.code.toNat ≠ 98) : GivesC t S b w [] := by
 have HP := Lib.hid (partsF_tB hw)
 have hby := tB_code t
 have hpos := tB_pos t
 have e1 : ((t.code.toNat : Int) == 112) = false := beq_eq_false_iff_ne.mpr (by omega)
 have e2 : ((t.code.toNat : Int) == 103) = false := beq_eq_false_iff_ne.mpr (by omega)
 have e3 : ((t.code.toNat : Int) == 115) = false := beq_eq_false_iff_ne.mpr (by omega)
 have e4 : ((t.code.toNat : Int) == 98) = false := beq_eq_false_iff_ne.mpr (by omega)
 unfold GivesC
 generalize hgc : t.code.toNat = c at *
 generalize t.parts.map tB = l at *
 generalize tB t = s at *
 clear hS hw h1 h2 h3 h4 hgc
 go_enter Tryz.func61, Tryz.ntmps61
 go_wp2_with fail
 refine (term_Parts.calls s l 0 _ HP.out).mono ?_
 rintro e w6 ⟨v0, rfl, hR, hb⟩
 have HB6 := Lib.hid hb
 clear hb hR HP
 go_wp2
 go_ret
 exact ⟨none, 0, rfl, fun k hk => absurd hk (by simp), HB6.out⟩
theorem two_parts {w : World} {n : Nat} {A : Option Addr} {cap : Nat} {x y : ByteArray} (h : Kd.R Kd.string 9 w n (fun _ => True) (.slice A 2 cap) [x, y]) :
  ∃ ad, A = some ad ∧ w.cell? (ad.add 0) = some (.string x) ∧ w.cell? (ad.add 1) = some (.string y) ∧ 2 ≤ cap := by
 have hc := (Kd.R_reads' h).2.2
 obtain ⟨ad, rfl, h0⟩ := readsC hc (k := 0) (by simp)
 obtain ⟨ad', e, h1⟩ := readsC hc (k := 1) (by simp)
 obtain rfl := Option.some.inj e
 exact ⟨ad, rfl, h0, h1, (Kd.R_reads' h).2.1⟩
theorem gives_pair (x y : T) (S : List T) (b : Nat) (w : World) (hS : HadAt w b S) (hw : Wf (.two .p x y)) : GivesC (.two .p x y) S b w [x, y] := by
 have HP := Lib.hid (partsF_tB hw)
 have hby := tB_code (.two .p x y)
 have hpos := tB_pos (.two .p x y)
 have hby : ∀ h : 0 < (tB (.two .p x y)).size, ((tB (.two .p x y))[0]'h).toNat = 112 := hby
 have hl : (T.two .p x y).parts.map tB = [tB x, tB y] := rfl
 rw [hl] at HP
 unfold GivesC
 generalize tB (.two .p x y) = s at *
 clear hS hw hl
 go_enter Tryz.func61, Tryz.ntmps61
 go_wp2_with fail
 refine (term_Parts.calls s _ 0 _ HP.out).mono ?_
 rintro e w6 ⟨v0, rfl, hR, hb⟩
 obtain ⟨A, cap, rfl⟩ := Kd.R_slice hR
 have HR := Lib.hid hR
 have HB6 := Lib.hid hb
 clear hb hR HP
 go_wp2
 go_ret
 exact ⟨A, cap, rfl, fun k hk => readsC (Kd.R_reads' HR.out).2.2 hk, HB6.out⟩
theorem gives_signed (x y : T) (S : List T) (b : Nat) (w : World) (hS : HadAt w b S) (hw : Wf (.two .g x y)) : GivesC (.two .g x y) S b w [y] := by
 have HP := Lib.hid (partsF_tB hw)
 have hby : ∀ h : 0 < (tB (.two .g x y)).size, ((tB (.two .g x y))[0]'h).toNat = 103 := tB_code (.two .g x y)
 have hpos := tB_pos (.two .g x y)
 have hl : (T.two .g x y).parts.map tB = [tB x, tB y] := rfl
 rw [hl] at HP
 unfold GivesC
 generalize tB (.two .g x y) = s at *
 clear hS hw hl
 go_enter Tryz.func61, Tryz.ntmps61
 go_wp2_with fail
 refine (term_Parts.calls s _ 0 _ HP.out).mono ?_
 rintro e w6 ⟨v0, rfl, hR, hb⟩
 obtain ⟨A, cap, rfl⟩ := Kd.R_slice hR
 obtain ⟨ad, rfl, h0, h1, hcap⟩ := two_parts hR
 have HB6 := Lib.hid hb
 have H1 := Lib.hid h1
 clear hb hR HP h0 h1
 go_wp2
 go_ret
 exact ⟨_, _, rfl, fun k hk => ⟨_, rfl, by
  obtain rfl : k = 0 := by simp at hk; omega
  exact H1.out⟩, HB6.out⟩
theorem gives_sealed_yes (x y : T) (S : List T) (b : Nat) (w : World) (hS : HadAt w b S) (hw : Wf (.two .s x y)) (ht : tog S x = true) : GivesC (.two .s x y) S b w [y] := by
 have HP := Lib.hid (partsF_tB hw)
 have hby : ∀ h : 0 < (tB (.two .s x y)).size, ((tB (.two .s x y))[0]'h).toNat = 115 := tB_code (.two .s x y)
 have hpos := tB_pos (.two .s x y)
 have hl : (T.two .s x y).parts.map tB = [tB x, tB y] := rfl
 rw [hl] at HP
 have HT := Lib.hid (fun W (h : HadAt W b S) => tog_any x S b W h (wf_parts hw (by simp [T.parts])))
 rw [ht] at HT
 have HS := Lib.hid hS
 unfold GivesC
 generalize tB (.two .s x y) = s at *
 generalize tB x = px at *
 clear hS hw hl ht
 go_enter Tryz.func61, Tryz.ntmps61
 go_wp2_with fail
 refine (term_Parts.calls s _ 0 _ HP.out).mono ?_
 rintro e w6 ⟨v0, rfl, hR, hb⟩
 obtain ⟨A, cap, rfl⟩ := Kd.R_slice hR
 obtain ⟨ad, rfl, h0, h1, hcap⟩ := two_parts hR
 have HB6 := Lib.hid hb
 have H1 := Lib.hid h1
 have h0 : w6.cell? ad = some (.string px) := h0
 clear hb hR HP h1
 go_wp2_with fail
 refine (HT.out w6 (HS.out.below HB6.out)).mono ?_
 rintro e w7 ⟨rfl, hb⟩
 have HB7 := Lib.hid (HB6.out.trans (hb.mono HB6.out.size))
 have H17 := Lib.hid (pw_cell_below hb H1.out)
 clear hb HB6 H1 HS HT h0
 go_wp2
 go_ret
 exact ⟨_, _, rfl, fun k hk => ⟨_, rfl, by
  obtain rfl : k = 0 := by simp at hk; omega
  exact H17.out⟩, HB7.out⟩
theorem gives_sealed_no (x y : T) (S : List T) (b : Nat) (w : World) (hS : HadAt w b S) (hw : Wf (.two .s x y)) (ht : tog S x = false) : GivesC (.two .s x y) S b w [] := by
 have HP := Lib.hid (partsF_tB hw)
 have hby : ∀ h : 0 < (tB (.two .s x y)).size, ((tB (.two .s x y))[0]'h).toNat = 115 := tB_code (.two .s x y)
 have hpos := tB_pos (.two .s x y)
 have hl : (T.two .s x y).parts.map tB = [tB x, tB y] := rfl
 rw [hl] at HP
 have HT := Lib.hid (fun W (h : HadAt W b S) => tog_any x S b W h (wf_parts hw (by simp [T.parts])))
 rw [ht] at HT
 have HS := Lib.hid hS
 unfold GivesC
 generalize tB (.two .s x y) = s at *
 generalize tB x = px at *
 clear hS hw hl ht
 go_enter Tryz.func61, Tryz.ntmps61
 go_wp2_with fail
 refine (term_Parts.calls s _ 0 _ HP.out).mono ?_
 rintro e w6 ⟨v0, rfl, hR, hb⟩
 obtain ⟨A, cap, rfl⟩ := Kd.R_slice hR
 obtain ⟨ad, rfl, h0, h1, hcap⟩ := two_parts hR
 have HB6 := Lib.hid hb
 have H1 := Lib.hid h1
 have h0 : w6.cell? ad = some (.string px) := h0
 clear hb hR HP h1
 go_wp2_with fail
 refine (HT.out w6 (HS.out.below HB6.out)).mono ?_
 rintro e w7 ⟨rfl, hb⟩
 have HB7 := Lib.hid (HB6.out.trans (hb.mono HB6.out.size))
 have H17 := Lib.hid (pw_cell_below hb H1.out)
 clear hb HB6 H1 HS HT h0
 go_wp2
 go_ret
 exact ⟨none, 0, rfl, fun k hk => absurd hk (by simp), HB7.out⟩
theorem gives_boxed_yes (x y : T) (S : List T) (b : Nat) (w : World) (hS : HadAt w b S) (hw : Wf (.two .b (.one .u x) y)) (ht : tog S x = true) : GivesC (.two .b (.one .u x) y) S b w [y] := by
 have HP := Lib.hid (partsF_tB hw)
 have hby : ∀ h : 0 < (tB (.two .b (.one .u x) y)).size, ((tB (.two .b (.one .u x) y))[0]'h).toNat = 98 := tB_code (.two .b (.one .u x) y)
 have hpos := tB_pos (.two .b (.one .u x) y)
 have hl : (T.two .b (.one .u x) y).parts.map tB = [tB (.one .u x), tB y] := rfl
 rw [hl] at HP
 have hwx : Wf (.one .u x) := wf_parts hw (by simp [T.parts])
 have HT := Lib.hid (fun W (h : HadAt W b S) => tog_any x S b W h (wf_parts hwx (by simp [T.parts])))
 have hx : (tB (.one .u x)).extract 1 (tB (.one .u x)).size = tB x := bs_inj (by rw [bytes_from]; show (bytes (ofBytes (enc (.one .u x)))).drop 1 = bytes (ofBytes (enc x)); rw [bytes_ofBytes, bytes_ofBytes]; rfl)
 have hpx := tB_pos (.one .u x)
 rw [ht] at HT
 have HS := Lib.hid hS
 unfold GivesC
 generalize tB (.two .b (.one .u x) y) = s at *
 generalize tB (.one .u x) = u at *
 generalize tB x = px at *
 clear hS hw hl ht hwx
 go_enter Tryz.func61, Tryz.ntmps61
 go_wp2_with fail
 refine (term_Parts.calls s _ 0 _ HP.out).mono ?_
 rintro e w6 ⟨v0, rfl, hR, hb⟩
 obtain ⟨A, cap, rfl⟩ := Kd.R_slice hR
 obtain ⟨ad, rfl, h0, h1, hcap⟩ := two_parts hR
 have HB6 := Lib.hid hb
 have H1 := Lib.hid h1
 have h0 : w6.cell? ad = some (.string u) := h0
 clear hb hR HP h1
 go_wp2_with fail
 refine (HT.out w6 (HS.out.below HB6.out)).mono ?_
 rintro e w7 ⟨rfl, hb⟩
 have HB7 := Lib.hid (HB6.out.trans (hb.mono HB6.out.size))
 have H17 := Lib.hid (pw_cell_below hb H1.out)
 clear hb HB6 H1 HS HT h0
 go_wp2
 go_ret
 exact ⟨_, _, rfl, fun k hk => ⟨_, rfl, by
  obtain rfl : k = 0 := by simp at hk; omega
  exact H17.out⟩, HB7.out⟩
theorem gives_boxed_no (x y : T) (S : List T) (b : Nat) (w : World) (hS : HadAt w b S) (hw : Wf (.two .b (.one .u x) y)) (ht : tog S x = false) : GivesC (.two .b (.one .u x) y) S b w [] := by
 have HP := Lib.hid (partsF_tB hw)
 have hby : ∀ h : 0 < (tB (.two .b (.one .u x) y)).size, ((tB (.two .b (.one .u x) y))[0]'h).toNat = 98 := tB_code (.two .b (.one .u x) y)
 have hpos := tB_pos (.two .b (.one .u x) y)
 have hl : (T.two .b (.one .u x) y).parts.map tB = [tB (.one .u x), tB y] := rfl
 rw [hl] at HP
 have hwx : Wf (.one .u x) := wf_parts hw (by simp [T.parts])
 have HT := Lib.hid (fun W (h : HadAt W b S) => tog_any x S b W h (wf_parts hwx (by simp [T.parts])))
 have hx : (tB (.one .u x)).extract 1 (tB (.one .u x)).size = tB x := bs_inj (by rw [bytes_from]; show (bytes (ofBytes (enc (.one .u x)))).drop 1 = bytes (ofBytes (enc x)); rw [bytes_ofBytes, bytes_ofBytes]; rfl)
 have hpx := tB_pos (.one .u x)
 rw [ht] at HT
 have HS := Lib.hid hS
 unfold GivesC
 generalize tB (.two .b (.one .u x) y) = s at *
 generalize tB (.one .u x) = u at *
 generalize tB x = px at *
 clear hS hw hl ht hwx
 go_enter Tryz.func61, Tryz.ntmps61
 go_wp2_with fail
 refine (term_Parts.calls s _ 0 _ HP.out).mono ?_
 rintro e w6 ⟨v0, rfl, hR, hb⟩
 obtain ⟨A, cap, rfl⟩ := Kd.R_slice hR
 obtain ⟨ad, rfl, h0, h1, hcap⟩ := two_parts hR
 have HB6 := Lib.hid hb
 have H1 := Lib.hid h1
 have h0 : w6.cell? ad = some (.string u) := h0
 clear hb hR HP h1
 go_wp2_with fail
 refine (HT.out w6 (HS.out.below HB6.out)).mono ?_
 rintro e w7 ⟨rfl, hb⟩
 have HB7 := Lib.hid (HB6.out.trans (hb.mono HB6.out.size))
 have H17 := Lib.hid (pw_cell_below hb H1.out)
 clear hb HB6 H1 HS HT h0
 go_wp2
 go_ret
 exact ⟨none, 0, rfl, fun k hk => absurd hk (by simp), HB7.out⟩
theorem gives_any (t : T) (S : List T) (b : Nat) (w : World) (hS : HadAt w b S) (hw : Wf t) : GivesC t S b w (gives S t) := by
 cases t with
 | atom n => exact gives_none _ S b w hS hw (show ¬ (97 : UInt8).toNat = 112 by decide) (show ¬ (97 : UInt8).toNat = 103 by decide) (show ¬ (97 : UInt8).toNat = 115 by decide) (show ¬ (97 : UInt8).toNat = 98 by decide)
 | text n => exact gives_none _ S b w hS hw (show ¬ (116 : UInt8).toNat = 112 by decide) (show ¬ (116 : UInt8).toNat = 103 by decide) (show ¬ (116 : UInt8).toNat = 115 by decide) (show ¬ (116 : UInt8).toNat = 98 by decide)
 | one k a => exact gives_none _ S b w hS hw (show ¬ k.code.toNat = 112 by cases k <;> decide) (show ¬ k.code.toNat = 103 by cases k <;> decide) (show ¬ k.code.toNat = 115 by cases k <;> decide) (show ¬ k.code.toNat = 98 by cases k <;> decide)
 | two k x y =>
  cases k with
  | p => exact gives_pair x y S b w hS hw
  | g => exact gives_signed x y S b w hS hw
  | s =>
   simp only [gives]
   cases ht : tog S x with
   | true => rw [if_pos rfl]; exact gives_sealed_yes x y S b w hS hw ht
   | false => rw [if_neg (by simp)]; exact gives_sealed_no x y S b w hS hw ht
  | b =>
   have hp : x.isPub = true := hw.1.2.2 rfl
   cases x with
   | atom n => simp [T.isPub] at hp
   | text n => simp [T.isPub] at hp
   | two k a c => simp [T.isPub] at hp
   | one k a =>
    cases k with
    | h => simp [T.isPub] at hp
    | u =>
     simp only [gives]
     cases ht : tog S a with
     | true => rw [if_pos rfl]; exact gives_boxed_yes a y S b w hS hw ht
     | false => rw [if_neg (by simp)]; exact gives_boxed_no a y S b w hS hw ht
end Go.Proofs.YtlhoahbpklhpmaaGreatDoor
end
section

namespace Go.Proofs.YtlhoahbpklhpmaaGreatDoor
open Go.RowKit Go.Maps Go.Proofs.YtlhoahbpklhpmaaGreatDoorW.PrintWords
set_option linter.unusedVariables false
def sortT (S : List T) : List T := S.mergeSort (fun x y => decide (enc x ≤ enc y))
theorem sortT_enc (S : List T) : (sortT S).map enc = sortedB S := List.map_mergeSort fun _ _ _ _ => rfl
theorem mem_sortT (S : List T) (t : T) : t ∈ sortT S ↔ t ∈ S := (List.mergeSort_perm S _).mem_iff
theorem len_sortT (S : List T) : (sortT S).length = S.length := List.length_mergeSort S
theorem R_strings {w : World} {base : Nat} {v : Value} {xs : List ByteArray} (ho : w.ownsRow base 9 1 v xs.length (xs.map Value.string)) : Kd.R Kd.string 9 w base (fun _ => True) v xs := by
 refine ⟨fun _ _ => trivial, xs.map Value.string, ho, by simp [Kd.string, Kd.scalar], fun j p hp => ?_⟩
 show ((xs.map Value.string).drop (j * 1)).take 1 = [Value.string p]
 obtain ⟨hj, rfl⟩ := List.getElem?_eq_some_iff.1 hp
 rw [Nat.mul_one, List.drop_eq_getElem_cons (by simpa using hj)]
 simp
theorem keys_calls (b : Nat) (w : World) : Calls Tryz.prog 60 #[.map (some b)] w fun e w' => e = .returned (.func (.func 80) #[] #[.pointer (some ⟨w.heap.size, 0, none⟩)]) ∧ w' = w.alloc (.cells #[.map (some b)] 47) :=
 callsIn_wide.1 (Tryz.maps_Keys_60 (some b) w)
theorem sorted_calls (b : Nat) (S : List T) (w : World) (hS : HadAt w b S) (hn : S.length ≤ 1000000000) :
  Calls Tryz.prog 59 #[.func (.func 80) #[] #[.pointer (some ⟨w.heap.size, 0, none⟩)]] (w.alloc (.cells #[.map (some b)] 47)) fun e w' =>
   ∃ v, e = .returned v ∧ Kd.R Kd.string 9 w' (w.heap.size + 1) (fun _ => True) v ((sortT S).map tB) ∧ Below w.heap.size w w' := by
 obtain ⟨D, hown, hD⟩ := hS
 have hz : Maps.size D = S.length := hD.1
 refine (callsIn_wide.1 (Tryz.slices_Sorted_keys_59_60 b S.length D unitElem w hown (by rw [hz]; unfold maxLen; omega) (by rw [hz]; omega))).mono ?_
 rintro e w' ⟨v, ss, rfl, hp, hrow, _, hb⟩
 rw [hadAt_keys (w := w) hD hown hp, ← sortT_enc] at hrow
 have hl : ss.length = ((sortT S).map tB).length := by
  have h1 := hadAt_keys (w := w) hD hown hp
  have h2 := congrArg List.length h1
  rw [List.length_mergeSort, ← sortT_enc, List.length_map] at h2
  rw [h2, List.length_map]
 rw [hl] at hrow
 refine ⟨v, rfl, R_strings ?_, below_box hb⟩
 have he : ((sortT S).map enc).map encStr = ((sortT S).map tB).map Value.string := by
  rw [List.map_map, List.map_map]; rfl
 rw [he] at hrow
 have : (w.alloc (.cells #[.map (some b)] 47)).heap.size = w.heap.size + 1 := by simp
 rwa [this] at hrow
end Go.Proofs.YtlhoahbpklhpmaaGreatDoor
end
section

namespace Go.Proofs.YtlhoahbpklhpmaaGreatDoor
open Go.RowKit Go.Maps Go.Proofs.YtlhoahbpklhpmaaGreatDoorW.PrintWords
set_option linter.unusedVariables false
def termsOf (l : List ByteArray) : List T := l.filterMap fun s => termOf (bytes s)
theorem right_tB {s : ByteArray} (h : right s = true) : ∃ t, Wf t ∧ s = tB t ∧ termOf (bytes s) = some t := by
 unfold right at h
 obtain ⟨t, ht⟩ := Option.isSome_iff_exists.1 h
 obtain ⟨h1, h2⟩ := termOf_inv ht
 exact ⟨t, h2, bs_inj (by rw [h1]; exact (bytes_ofBytes _).symm), ht⟩
theorem termsOf_take {l : List ByteArray} {k : Nat} (hk : k < l.length) {t : T} (ht : termOf (bytes l[k]) = some t) : termsOf (l.take (k + 1)) = termsOf (l.take k) ++ [t] := by
 unfold termsOf
 rw [List.take_succ_eq_append_getElem hk, List.filterMap_append]
 simp [ht]
theorem addAll_app (S a b : List T) : addAll S (a ++ b) = addAll (addAll S a) b := by unfold addAll; rw [List.foldl_append]
theorem subT_wf {t x : T} (h : Wf t) (hx : x ∈ subT t) : Wf x := by
 induction t with
 | atom n => simp only [subT, List.mem_singleton] at hx; rw [hx]; exact h
 | text n => simp only [subT, List.mem_singleton] at hx; rw [hx]; exact h
 | one k a ih =>
  simp only [subT, List.mem_cons] at hx
  rcases hx with rfl | hx
  ·exact h
  ·exact ih (wf_parts h (by simp [T.parts])) hx
 | two k a b iha ihb =>
  simp only [subT, List.mem_cons, List.mem_append] at hx
  rcases hx with rfl | hx | hx
  ·exact h
  ·exact iha (wf_parts h (by simp [T.parts])) hx
  ·exact ihb (wf_parts h (by simp [T.parts])) hx
theorem hadL_wf {h : List T} (hw : ∀ t ∈ h, Wf t) : ∀ x ∈ hadL h, Wf x := fun x hx => by
 obtain ⟨u, hu, h1⟩ := List.mem_flatMap.1 (hadL_sub h x hx)
 exact subT_wf (hw u hu) h1
theorem termsOf_wf (l : List ByteArray) : ∀ t ∈ termsOf l, Wf t := fun t ht => by
 obtain ⟨s, _, hs⟩ := List.mem_filterMap.1 ht
 exact (termOf_inv hs).2
theorem map_cell_ne {w : World} {b : Nat} {S : List T} (hS : HadAt w b S) {a : Addr} {v : Value} (h : w.cell? a = some v) : some a.block ≠ some b := by
 obtain ⟨D, ⟨es, clock, h1, _⟩, _⟩ := hS
 intro e
 have e := Option.some.inj e
 unfold World.cell? at h
 rw [e, h1] at h
 simp at h
theorem ReadsB.grown {w w' : World} {A : Option Addr} {l : List ByteArray} {b : Nat} {S : List T} (h : ReadsB w A l) (hS : HadAt w b S) (hg : w.grownBy w' (some b)) : ReadsB w' A l := fun k hk => by
 obtain ⟨ad, h1, h2⟩ := h k hk
 exact ⟨ad, h1, hg.cell h2 (map_cell_ne hS h2)⟩
def AllPost (l : List ByteArray) (w : World) (e : Ending) (w' : World) : Prop :=
 (if l.all right = true then (if 200 < l.length then e = .returned (.tuple #[.map none, .int .i64 10]) else ∃ b S, e = .returned (.tuple #[.map (some b), .int .i64 0]) ∧ HadAt w' b S ∧ (∀ x, x ∈ S ↔ x ∈ hadL (termsOf l)))
  else e = .returned (.tuple #[.map none, .int .i64 1])) ∧ Below w.heap.size w w'
def FirstR (l : List ByteArray) (w : World) (k : Nat) (wr : World) : Prop :=
 (∀ j (hj : j < l.length), j < k → right l[j] = true) ∧ HadAt wr w.heap.size (addAll [] (termsOf (l.take k))) ∧ Below w.heap.size w wr ∧ w.heap.size ≤ wr.heap.size
def RoundR (l : List ByteArray) (w : World) (S : List T) (wr : World) : Prop :=
 HadAt wr w.heap.size S ∧ (∀ x ∈ termsOf l, x ∈ S) ∧ (∀ x ∈ S, x ∈ hadL (termsOf l)) ∧ Below w.heap.size w wr ∧ w.heap.size ≤ wr.heap.size
theorem FirstR.below {l : List ByteArray} {w wr w5 : World} {k : Nat} (h : FirstR l w k wr) (hb : Below wr.heap.size wr w5) : FirstR l w k w5 :=
 ⟨h.1, h.2.1.below hb, h.2.2.1.trans (hb.mono h.2.2.2), Nat.le_trans h.2.2.2 hb.size⟩
theorem RoundR.below {l : List ByteArray} {w wr w5 : World} {S : List T} (h : RoundR l w S wr) (hb : Below wr.heap.size wr w5) : RoundR l w S w5 :=
 ⟨h.1.below hb, h.2.1, h.2.2.1, h.2.2.2.1.trans (hb.mono h.2.2.2.2), Nat.le_trans h.2.2.2.2 hb.size⟩
theorem below_put {w wr w5 : World} (h : Below w.heap.size w wr) (hs : w.heap.size ≤ wr.heap.size) (hg : wr.grownBy w5 (some w.heap.size)) : Below w.heap.size w w5 ∧ w.heap.size ≤ w5.heap.size :=
 ⟨h.grown hg hs (fun j hj => by cases hj; exact Nat.le_refl _), Nat.le_trans hs hg.size⟩
theorem FirstR.put {l : List ByteArray} {w wr w5 : World} {k n : Nat} {D : DataW Unit} (hk : k < l.length) {t : T} (ht : termOf (bytes l[k]) = some t) (hr : right l[k] = true) (h : FirstR l w k wr)
  (hD : HadD (addAll [] (termsOf (l.take k))) D) (ho : wr.ownsMap Tryz.prog 9 unitElem w.heap.size (addAll [] (termsOf (l.take k))).length D)
  (h' : w5.ownsMap Tryz.prog 9 unitElem w.heap.size n (D.put (.string (enc t)) (.agg []))) (hg : wr.grownBy w5 (some w.heap.size)) : FirstR l w (k + 1) w5 := by
 obtain ⟨h1, h2, h3, h4⟩ := h
 refine ⟨fun j hj hjk => ?_, ?_, below_put h3 h4 hg⟩
 ·by_cases e : j = k
  ·subst e; exact hr
  ·exact h1 j hj (by omega)
 ·rw [termsOf_take hk ht, addAll_app]
  exact hadAt_put hD ho (termOf_inv ht).2 h'
theorem RoundR.put {l : List ByteArray} {w wr w5 : World} {n : Nat} {S : List T} {D : DataW Unit} {t : T} (ht : t ∈ hadL (termsOf l)) (h : RoundR l w S wr)
  (hD : HadD S D) (ho : wr.ownsMap Tryz.prog 9 unitElem w.heap.size S.length D)
  (h' : w5.ownsMap Tryz.prog 9 unitElem w.heap.size n (D.put (.string (enc t)) (.agg []))) (hg : wr.grownBy w5 (some w.heap.size)) : RoundR l w (addAll S [t]) w5 := by
 obtain ⟨h1, h2, h3, h4, h5⟩ := h
 refine ⟨hadAt_put hD ho (hadL_wf (termsOf_wf l) t ht) h', fun x hx => (mem_addAll S [t] x).2 (Or.inl (h2 x hx)), fun x hx => ?_, below_put h4 h5 hg⟩
 rcases (mem_addAll S [t] x).1 hx with hx | hx
 ·exact h3 x hx
 ·rw [List.mem_singleton.1 hx]; exact ht
theorem hadAt_nodup {w : World} {b : Nat} {S : List T} (h : HadAt w b S) : S.Nodup := by
 obtain ⟨D, _, h⟩ := h
 exact h.2.1
theorem gives_len (S : List T) (t : T) : (gives S t).length ≤ 2 := by
 cases t with
 | atom n => simp [gives]
 | text n => simp [gives]
 | one k a => simp [gives]
 | two k a b =>
  cases k with
  | p => simp [gives]
  | g => simp [gives]
  | s => simp only [gives]; split <;> simp
  | b =>
   cases a with
   | atom n => simp [gives]
   | text n => simp [gives]
   | two k a c => simp [gives]
   | one k a => simp only [gives]; split <;> simp
theorem subT_len (t : T) : (subT t).length ≤ (enc t).length := by
 induction t with
 | atom n => exact enc_pos _
 | text n => exact enc_pos _
 | one k a ih => simp only [subT, enc, List.length_cons]; omega
 | two k a b iha ihb => simp only [subT, enc, List.length_cons, List.length_append]; omega
theorem flat_len (h : List T) (hw : ∀ t ∈ h, Wf t) : (h.flatMap subT).length ≤ 4000 * h.length := by
 induction h with
 | nil => simp
 | cons t h ih =>
  rw [List.flatMap_cons, List.length_append, List.length_cons]
  have h1 := subT_len t
  have h2 := (hw t List.mem_cons_self).2
  have h3 := ih (fun x hx => hw x (List.mem_cons_of_mem _ hx))
  omega
theorem hadL_len (l : List ByteArray) (hl : l.length ≤ 200) : ∀ S : List T, S.Nodup → (∀ x ∈ S, x ∈ hadL (termsOf l)) → S.length ≤ 800000 := by
 intro S hn hs
 have h1 := nodup_len (U := (termsOf l).flatMap subT) hn (fun x hx => hadL_sub _ x (hs x hx))
 have h2 := flat_len (termsOf l) (termsOf_wf l)
 have h3 : (termsOf l).length ≤ l.length := List.length_filterMap_le _ _
 omega
def LT (S : List T) : List ByteArray := (sortT S).map tB
theorem LT_len (S : List T) : (LT S).length = S.length := by unfold LT; rw [List.length_map, len_sortT]
def LTat (S : List T) (k : Nat) : Option T := (sortT S)[k]?
theorem LT_get (S : List T) (k : Nat) (hk : k < S.length) : ∃ t, t ∈ S ∧ LTat S k = some t ∧ ∃ h : k < (LT S).length, (LT S)[k] = tB t := by
 have h1 : k < (sortT S).length := by rw [len_sortT]; exact hk
 refine ⟨(sortT S)[k], (mem_sortT S _).1 (List.getElem_mem h1), List.getElem?_eq_getElem h1, by rw [LT_len]; exact hk, ?_⟩
 unfold LT
 rw [List.getElem_map]
theorem LT_all (S : List T) (t : T) (h : t ∈ S) : ∃ k, k < S.length ∧ LTat S k = some t := by
 obtain ⟨k, hk, e⟩ := List.getElem_of_mem ((mem_sortT S t).2 h)
 exact ⟨k, by rwa [len_sortT] at hk, by unfold LTat; rw [List.getElem?_eq_getElem hk, e]⟩
def MidR (l : List ByteArray) (w : World) (S : List T) (A2 : Option Addr) (k : Nat) (S2 : List T) (wr : World) : Prop :=
 RoundR l w S2 wr ∧ ReadsB wr A2 (LT S) ∧ (∀ x ∈ S, x ∈ S2) ∧ ∀ j t, j < k → LTat S j = some t → ∀ x ∈ gives S t, x ∈ S2
def InR (l : List ByteArray) (w : World) (S : List T) (A2 A3 : Option Addr) (S2 g : List T) (k2 : Nat) (S3 : List T) (wr : World) : Prop :=
 RoundR l w S3 wr ∧ ReadsB wr A2 (LT S) ∧ ReadsB wr A3 (g.map tB) ∧ (∀ x ∈ S2, x ∈ S3) ∧ ∀ j (hj : j < g.length), j < k2 → g[j] ∈ S3
theorem InR.start {l : List ByteArray} {w : World} {S : List T} {A2 A3 : Option Addr} {S2 g : List T} {k : Nat} {wr w4 : World} (h : MidR l w S A2 k S2 wr) (hb : Below wr.heap.size wr w4) (hg : ReadsB w4 A3 (g.map tB)) : InR l w S A2 A3 S2 g 0 S2 w4 :=
 ⟨h.1.below hb, h.2.1.below hb, hg, fun x hx => hx, fun j hj h => by omega⟩
theorem InR.put {l : List ByteArray} {w wr w5 : World} {S : List T} {A2 A3 : Option Addr} {S2 g : List T} {k2 n : Nat} {S3 : List T} {D : DataW Unit} (hk : k2 < g.length) (h : InR l w S A2 A3 S2 g k2 S3 wr) (hg : g[k2] ∈ hadL (termsOf l))
  (hD : HadD S3 D) (ho : wr.ownsMap Tryz.prog 9 unitElem w.heap.size S3.length D)
  (h' : w5.ownsMap Tryz.prog 9 unitElem w.heap.size n (D.put (.string (enc g[k2])) (.agg []))) (hgr : wr.grownBy w5 (some w.heap.size)) : InR l w S A2 A3 S2 g (k2 + 1) (addAll S3 [g[k2]]) w5 := by
 obtain ⟨h1, h2, h3, h4, h5⟩ := h
 refine ⟨h1.put hg hD ho h' hgr, h2.grown h1.1 hgr, h3.grown h1.1 hgr, fun x hx => (mem_addAll _ _ x).2 (Or.inl (h4 x hx)), fun j hj hjk => ?_⟩
 by_cases e : j = k2
 ·subst e; exact (mem_addAll _ _ _).2 (Or.inr (by simp))
 ·exact (mem_addAll _ _ _).2 (Or.inl (h5 j hj (by omega)))
theorem InR.done {l : List ByteArray} {w wr : World} {S : List T} {A2 A3 : Option Addr} {S2 : List T} {k : Nat} {t : T} {S3 : List T} {wm : World} (hm : MidR l w S A2 k S2 wm) (ht : LTat S k = some t)
  (h : InR l w S A2 A3 S2 (gives S2 t) (gives S2 t).length S3 wr) : MidR l w S A2 (k + 1) S3 wr := by
 obtain ⟨h1, h2, h3, h4, h5⟩ := h
 refine ⟨h1, h2, fun x hx => h4 x (hm.2.2.1 x hx), fun j u hj hu x hx => ?_⟩
 by_cases e : j = k
 ·subst e
  rw [ht] at hu
  obtain rfl := Option.some.inj hu
  have hx2 := gives_mono hm.2.2.1 t x hx
  obtain ⟨i, hi, rfl⟩ := List.getElem_of_mem hx2
  exact h5 i hi hi
 ·exact h4 x (hm.2.2.2 j u (by omega) hu x hx)
theorem MidR.done {l : List ByteArray} {w wr : World} {S : List T} {A2 : Option Addr} {S2 : List T} (hS : S.Nodup) (h : MidR l w S A2 S.length S2 wr) : S.length ≤ S2.length ∧ (S.length = S2.length → ClosedT S2) := by
 obtain ⟨h1, h2, h3, h4⟩ := h
 refine ⟨nodup_len hS h3, fun e => ?_⟩
 have h2n := hadAt_nodup h1.1
 have hback : ∀ x ∈ S2, x ∈ S := by
  intro x hx
  by_cases hxs : x ∈ S
  ·exact hxs
  ·have := nodup_len (S := x :: S) (U := S2) (List.nodup_cons.2 ⟨hxs, hS⟩) (fun y hy => by
    rcases List.mem_cons.1 hy with rfl | hy
    ·exact hx
    ·exact h3 y hy)
   rw [List.length_cons] at this
   omega
 intro t ht x hx
 obtain ⟨k, hk, hkt⟩ := LT_all S t (hback t ht)
 exact h4 k t hk hkt x (gives_mono hback t x hx)
end Go.Proofs.YtlhoahbpklhpmaaGreatDoor
end
section

namespace Go.Proofs.YtlhoahbpklhpmaaGreatDoor
open Go.RowKit Go.Maps Go.Proofs.YtlhoahbpklhpmaaGreatDoorW.PrintWords
set_option linter.unusedVariables false
set_option maxHeartbeats 4000000 in
set_option maxRecDepth 100000 in
theorem all_any (A : Option Addr) (cap : Nat) (l : List ByteArray) (w : World) (hc : ReadsB w A l) (hlen : l.length ≤ 1000000) (hsz : ∀ s ∈ l, s.size ≤ 9223372036854774000) :
  Calls Tryz.prog 26 #[.slice A l.length cap] w fun e w' => AllPost l w e w' := by
 have hmm := @run_makeMap Tryz.prog
 have HC := Lib.hid hc
 have HZ := Lib.hid hsz
 clear hc hsz
 go_enter Tryz.func26, Tryz.ntmps26
 go_wp2_with fail
 go_loopw [15] (fun i wr => ∃ k : Nat, k ≤ l.length ∧ i = .int .i64 k ∧ FirstR l w k wr) (fun i _ => 1000001 - (intOf i).toNat)
 case atStart =>
  refine ⟨0, by omega, rfl, fun j hj h => by omega, ⟨.map [], World.ownsMap_made _ _ _ _, hadD_nil⟩, (Below.refl _ _).alloc (Nat.le_refl _) _, by simp⟩
 case round =>
  obtain ⟨k, hk, rfl, hr⟩ := hrel
  have HR := Lib.hid hr
  clear hr hmm
  by_cases hlt : k < l.length
  ·obtain ⟨ad, rfl, hcell⟩ := HC.out k hlt
   have hcw := pw_cell_below HR.out.2.2.1 hcell
   clear hcell
   have hlt2 : (k : Int) < (l.length : Int) := by omega
   have HK := Lib.hid (show term_Kind.f l[k] = some (kindF l[k]) by unfold term_Kind.f; rw [if_pos (HZ.out _ (List.getElem_mem hlt))])
   cases hr : right l[k] with
   | false =>
    have hkf : kindF l[k] = 0 := by
     unfold kindF
     unfold right at hr
     have : termOf (bytes l[k]) = none := by simpa using hr
     rw [this]
    rw [hkf] at HK
    have HW := Lib.hid (show l.all right = false from List.all_eq_false.2 ⟨_, List.getElem_mem hlt, by rw [hr]; simp⟩)
    generalize l[k] = s at hcw HK
    clear hr hkf HC HZ
    go_wp2_with fail
    refine (term_Kind.calls s 0 _ HK.out).mono ?_
    rintro e w5 ⟨rfl, hb⟩
    have H5 := Lib.hid (HR.out.below hb).2.2.1
    clear hb HR hcw HK
    go_wp2
    go_ret2
    exact ⟨by rw [HW.out]; simp, H5.out⟩
   | true =>
    obtain ⟨t, ht, hs, htm⟩ := right_tB hr
    have hkf : (kindF l[k] == 0) = false := by
     refine beq_eq_false_iff_ne.mpr fun e => ?_
     unfold kindF at e
     rw [htm] at e
     have : t.code.toNat ≠ 0 := by
      cases t with
      | atom n => exact (by decide : (97 : UInt8).toNat ≠ 0)
      | text n => exact (by decide : (116 : UInt8).toNat ≠ 0)
      | one k a => exact (by cases k <;> decide : k.code.toNat ≠ 0)
      | two k a b => exact (by cases k <;> decide : k.code.toNat ≠ 0)
     simp only at e
     omega
    have hkey := tB_key ht
    rw [← hs] at hkey
    have HF := Lib.hid (fun w5 w6 n D (h1 : FirstR l w k w5) h2 h3 h4 h5 => FirstR.put (n := n) (D := D) (w5 := w6) (wr := w5) hlt htm hr h1 h2 h3 h4 h5)
    generalize kindF l[k] = kv at HK hkf
    generalize l[k] = s at hcw HK hkey
    clear hr hs htm HZ
    go_wp2_with fail
    refine (term_Kind.calls s kv _ HK.out).mono ?_
    rintro e w5 ⟨rfl, hb⟩
    have H5 := Lib.hid (HR.out.below hb)
    clear hb HR hcw HK
    obtain ⟨D, hown, hD⟩ := H5.out.2.1
    have HD := Lib.hid hD
    have hsl : (addAll [] (termsOf (l.take k))).length < maxLen := by
     have h1 := (nodup_len (U := termsOf (l.take k)) (hadAt_nodup H5.out.2.1) (fun x hx => by simpa using (mem_addAll [] _ x).1 hx))
     have h2 : (termsOf (l.take k)).length ≤ (l.take k).length := List.length_filterMap_le _ _
     rw [List.length_take] at h2
     unfold maxLen
     omega
    clear hD
    go_wp2_with (at_mapUpdate; refine wpList_mapUpdate_own _ rfl _ _ _ 47 rfl 9 77 hadLaw Tryz.underlying47 (unitElem (H := Unit)) w.heap.size _ D rfl hown hsl _ _ _ rfl rfl hkey _ [] unitElem_mk ?_; intro w6 hown6 hgrow6)
    have H6 := Lib.hid (HF.out w5 w6 _ D H5.out HD.out hown hown6 hgrow6)
    clear hown hown6 hgrow6 HD H5 HF hkey
    go_roundw
    case rel => exact ⟨k + 1, by omega, by go_num, H6.out⟩
    case measure => simp [intOf]; omega
  ·obtain rfl : k = l.length := by omega
   have HW := Lib.hid (show l.all right = true from List.all_eq_true.2 fun x hx => by
    obtain ⟨j, hj, rfl⟩ := List.getElem_of_mem hx
    exact HR.out.1 j hj hj)
   by_cases hbig : 200 < l.length
   ·have HB := Lib.hid HR.out.2.2.1
    clear HR HC HZ
    have hbig2 : (200 : Int) < (l.length : Int) := by omega
    go_wp2
    go_ret2
    exact ⟨by rw [HW.out, if_pos rfl, if_pos hbig]; rfl, HB.out⟩
   ·have hbig2 : ¬ (200 : Int) < (l.length : Int) := by omega
    have HH := Lib.hid (fun x (hx : x ∈ hadL (termsOf l)) => hadL_wf (termsOf_wf l) x hx)
    have HL := Lib.hid (hadL_len l (by omega))
    have HR2 := Lib.hid (show RoundR l w (addAll [] (termsOf l)) wr by
     obtain ⟨h1, h2, h3, h4⟩ := HR.out
     rw [List.take_length] at h2
     exact ⟨h2, fun x hx => (mem_addAll [] _ x).2 (Or.inr hx), fun x hx => hadL_sup _ x (by simpa using (mem_addAll [] _ x).1 hx), h3, h4⟩)
    clear HR HC HZ
    go_wp2_with fail
    go_loopw [7] (fun m wr => ∃ (n : Nat) (S : List T), m = .int .i64 n ∧ n ≤ S.length ∧ RoundR l w S wr ∧ (n = S.length → ClosedT S)) (fun m _ => 1000000000 - (intOf m).toNat)
    case atStart =>
     refine ⟨0, _, rfl, Nat.zero_le _, HR2.out, fun h => ?_⟩
     have : addAll [] (termsOf l) = [] := List.length_eq_zero_iff.1 h.symm
     rw [this]
     intro t ht
     simp at ht
    case round =>
     obtain ⟨n, S, rfl, hn, hr, hcl⟩ := hrel
     have HR := Lib.hid hr
     have HCL := Lib.hid hcl
     clear hr hcl HR2
     obtain ⟨D, hown, hD⟩ := HR.out.1
     have hz : Maps.size D = S.length := hD.1
     have hS8 := HL.out S (hadAt_nodup HR.out.1) HR.out.2.2.1
     clear hD
     by_cases hlt : n < S.length
     ·have hlt2 : (n : Int) < (S.length : Int) := by omega
      go_wp2_with (at_len; refine wpList_len_own _ rfl _ 47 rfl 9 77 Tryz.underlying47 unitElem w.heap.size _ D rfl hown ?_; rw [hz])
      refine (keys_calls w.heap.size _).mono ?_
      rintro e w2 ⟨rfl, rfl⟩
      go_wp2_with fail
      refine (sorted_calls w.heap.size S _ HR.out.1 (by omega)).mono ?_
      rintro e w3 ⟨v, rfl, hR, hb⟩
      obtain ⟨A2, cap2, rfl⟩ := Kd.R_slice hR
      have hM : MidR l w S A2 0 S w3 := ⟨HR.out.below hb, fun k hk => readsC (Kd.R_reads' hR).2.2 hk, fun x hx => hx, fun j t h => by omega⟩
      have HM := Lib.hid hM
      have HN := Lib.hid (hadAt_nodup HR.out.1)
      have hll : ((sortT S).map tB).length = S.length := LT_len S
      rw [hll]
      clear hb hR HR hown hz hM hll HCL
      go_wp2_with fail
      go_loopw [39] (fun i wr2 => ∃ (k : Nat) (S2 : List T), k ≤ S.length ∧ i = .int .i64 k ∧ MidR l w S A2 k S2 wr2) (fun i _ => 1000000001 - (intOf i).toNat)
      case atStart => exact ⟨0, S, Nat.zero_le _, rfl, HM.out⟩
      case round =>
       obtain ⟨k, S2, hk, rfl, hm⟩ := hrel
       have HM2 := Lib.hid hm
       clear hm HM
       by_cases hltk : k < S.length
       ·obtain ⟨t, htS, htk, hkl, hkt⟩ := LT_get S k hltk
        obtain ⟨ad, rfl, hcell⟩ := HM2.out.2.1 k hkl
        rw [hkt] at hcell
        have hltk2 : (k : Int) < (S.length : Int) := by omega
        have htw : Wf t := HH.out t (HM2.out.1.2.2.1 t (HM2.out.2.2.1 t htS))
        have HG := Lib.hid (gives_any t S2 w.heap.size _ HM2.out.1.1 htw)
        have HGH := Lib.hid (show ∀ x ∈ gives S2 t, x ∈ hadL (termsOf l) from fun x hx => hadL_closed (termsOf l) t (HM2.out.1.2.2.1 t (HM2.out.2.2.1 t htS)) x (gives_mono HM2.out.1.2.2.1 t x hx))
        have HTK := Lib.hid htk
        have hg5 : (gives S2 t).length ≤ 1000000000 := by have := gives_len S2 t; omega
        unfold GivesC at HG
        generalize tB t = s at hcell HG
        clear htS htk hkl hkt htw
        go_wp2_with fail
        refine HG.out.mono ?_
        rintro e w4 ⟨A3, cap3, rfl, hrd, hb⟩
        have HI := Lib.hid (InR.start (g := gives S2 t) HM2.out hb hrd)
        clear hrd hb HG hcell
        go_wp2_with fail
        go_loopw [47] (fun i wr3 => ∃ (k2 : Nat) (S3 : List T), k2 ≤ (gives S2 t).length ∧ i = .int .i64 k2 ∧ InR l w S (some ad) A3 S2 (gives S2 t) k2 S3 wr3) (fun i _ => 1000000001 - (intOf i).toNat)
        case atStart => exact ⟨0, S2, Nat.zero_le _, rfl, HI.out⟩
        case round =>
         obtain ⟨k2, S3, hk2, rfl, hi⟩ := hrel
         have HI3 := Lib.hid hi
         clear hi HI
         by_cases hltk2' : k2 < (gives S2 t).length
         ·obtain ⟨ad3, rfl, hcell3⟩ := HI3.out.2.2.1 k2 (by simpa using hltk2')
          rw [List.getElem_map] at hcell3
          have hltk3 : (k2 : Int) < ((gives S2 t).length : Int) := by omega
          have hkey := tB_key (HH.out _ (HGH.out _ (List.getElem_mem hltk2')))
          obtain ⟨D, hown, hD⟩ := HI3.out.1.1
          have HD := Lib.hid hD
          have hsl : S3.length < maxLen := by
           have := HL.out S3 (hadAt_nodup HI3.out.1.1) HI3.out.1.2.2.1
           unfold maxLen; omega
          have HP := Lib.hid (fun w6 n h1 h2 => InR.put (n := n) (w5 := w6) hltk2' HI3.out (HGH.out _ (List.getElem_mem hltk2')) HD.out hown h1 h2)
          generalize tB (gives S2 t)[k2] = s3 at hcell3 hkey
          generalize (gives S2 t)[k2] = t3 at hkey HP
          clear hD HD HI3
          go_wp2_with (at_mapUpdate; refine wpList_mapUpdate_own _ rfl _ _ _ 47 rfl 9 77 hadLaw Tryz.underlying47 (unitElem (H := Unit)) w.heap.size _ D rfl hown hsl _ _ _ rfl rfl hkey _ [] unitElem_mk ?_; intro w6 hown6 hgrow6)
          have H6 := Lib.hid (HP.out w6 _ hown6 hgrow6)
          clear hown hown6 hgrow6 HP hkey hcell3
          go_roundw
          case rel => exact ⟨k2 + 1, _, by omega, by go_num, H6.out⟩
          case measure => simp [intOf]; omega
         ·have HD2 := Lib.hid (InR.done HM2.out HTK.out (by
           have : k2 = (gives S2 t).length := by omega
           rw [this] at HI3; exact HI3.out))
          clear HI3 HGH HTK
          have hltk3 : ((gives S2 t).length : Int) ≤ (k2 : Int) := by omega
          go_wp2
          go_roundw
          case rel => exact ⟨k + 1, S3, by omega, by go_num, HD2.out⟩
          case measure => simp [intOf]; omega
       ·have hke : k = S.length := by omega
        subst hke
        have HE := Lib.hid (MidR.done HN.out HM2.out)
        have HR3 := Lib.hid HM2.out.1
        clear HM2 HN
        go_wp2
        go_roundw
        case rel => exact ⟨S.length, S2, rfl, HE.out.1, HR3.out, HE.out.2⟩
        case measure => simp [intOf]; omega
     ·have hge : (S.length : Int) ≤ (n : Int) := by omega
      have HCL2 := Lib.hid (HCL.out (by omega))
      go_wp2_with (at_len; refine wpList_len_own _ rfl _ 47 rfl 9 77 Tryz.underlying47 unitElem w.heap.size _ D rfl hown ?_; rw [hz])
      go_ret2
      refine ⟨?_, HR.out.2.2.2.1⟩
      rw [HW.out, if_pos rfl, if_neg hbig]
      exact ⟨w.heap.size, S, rfl, HR.out.1, hadL_iff HR.out.2.1 HCL2.out HR.out.2.2.1⟩
end Go.Proofs.YtlhoahbpklhpmaaGreatDoor
end
section

namespace Go.Proofs.YtlhoahbpklhpmaaGreatDoor
open Go.RowKit Go.Maps Go.Proofs.YtlhoahbpklhpmaaGreatDoorW.PrintWords
set_option linter.unusedVariables false
def derivesF (l : List ByteArray) (s : ByteArray) : Bool × Int :=
 if l.all right = true then (if 200 < l.length then (false, 10) else if right s = true then (togB (hadL (termsOf l)) s, 0) else (false, 1)) else (false, 1)
def closure_Derives.f (l0 : List ByteArray) (a1 : ByteArray) : Option (Bool × Int) :=
 if l0.length ≤ 1000000 ∧ (l0.all fun s => decide (s.size ≤ 9223372036854774000)) = true ∧ a1.size ≤ 9223372036854774000 then some (derivesF l0 a1) else none
theorem closure_Derives.calls (A0 : Option Addr) (c0 : Nat) (l0 : List ByteArray) (a1 : ByteArray) (r1 : Bool) (r2 : Int) (w : World) (hr0 : Kd.C Kd.string w A0 l0.length l0) (hc0 : l0.length ≤ c0) (h : closure_Derives.f l0 a1 = some (r1, r2)) :
  Calls Tryz.prog 13 #[.slice A0 l0.length c0, .string a1] w fun e w' => e = .returned (.tuple #[.bool r1, .int .i64 r2]) ∧ Below w.heap.size w w' := by
 unfold closure_Derives.f at h
 split at h
 ·rename_i hs
  have hv := Option.some.inj h
  have HA := Lib.hid (all_any A0 c0 l0 w (fun k hk => readsC hr0 hk) hs.1 (by simpa using hs.2.1))
  have HK := Lib.hid (show term_Kind.f a1 = some (kindF a1) by unfold term_Kind.f; rw [if_pos hs.2.2])
  clear h hs hr0 hc0
  by_cases h1 : l0.all right = true
  ·by_cases h2 : 200 < l0.length
   ·have hv : r1 = false ∧ r2 = 10 := by
     unfold derivesF at hv
     rw [if_pos h1, if_pos h2] at hv
     simp only [Prod.mk.injEq] at hv
     exact ⟨hv.1.symm, hv.2.symm⟩
    obtain ⟨rfl, rfl⟩ := hv
    go_enter Tryz.func13, Tryz.ntmps13
    go_wp2_with fail
    refine HA.out.mono ?_
    rintro e w1 ⟨h3, hb⟩
    rw [if_pos h1, if_pos h2] at h3
    subst h3
    have HB := Lib.hid hb
    clear hb HA h1 h2
    go_wp2
    go_ret2
    exact ⟨rfl, HB.out⟩
   ·cases hr : right a1 with
    | true =>
     obtain ⟨t, ht, hst, htm⟩ := right_tB hr
     have hv : r1 = togB (hadL (termsOf l0)) a1 ∧ r2 = 0 := by
      unfold derivesF at hv
      rw [if_pos h1, if_neg h2, if_pos hr] at hv
      simp only [Prod.mk.injEq] at hv
      exact ⟨hv.1.symm, hv.2.symm⟩
     obtain ⟨rfl, rfl⟩ := hv
     have hkf : (kindF a1 == 0) = false := by
      refine beq_eq_false_iff_ne.mpr fun e => ?_
      unfold kindF at e
      rw [htm] at e
      have : t.code.toNat ≠ 0 := by
       cases t with
       | atom n => exact (by decide : (97 : UInt8).toNat ≠ 0)
       | text n => exact (by decide : (116 : UInt8).toNat ≠ 0)
       | one k a => exact (by cases k <;> decide : k.code.toNat ≠ 0)
       | two k a b => exact (by cases k <;> decide : k.code.toNat ≠ 0)
      simp only at e
      omega
     have HT := Lib.hid (fun b S W (h : HadAt W b S) => tog_any t S b W h ht)
     have htg : togB (hadL (termsOf l0)) a1 = tog (hadL (termsOf l0)) t := by rw [hst]; exact togB_tB _ ht
     rw [← hst] at HT
     rw [htg]
     generalize hH : hadL (termsOf l0) = H
     clear hr hst htm htg
     generalize kindF a1 = kv at HK hkf
     go_enter Tryz.func13, Tryz.ntmps13
     go_wp2_with fail
     refine HA.out.mono ?_
     rintro e w1 ⟨h3, hb⟩
     rw [if_pos h1, if_neg h2, hH] at h3
     obtain ⟨b, S, rfl, hS, hm⟩ := h3
     have HB := Lib.hid hb
     have HS := Lib.hid hS
     have HM := Lib.hid (tog_congr hm t)
     clear hb hS hm HA h1 h2 hH
     go_wp2_with fail
     refine (term_Kind.calls a1 kv _ HK.out).mono ?_
     rintro e w2 ⟨rfl, hb⟩
     have HB2 := Lib.hid (HB.out.trans (hb.mono HB.out.size))
     have HS2 := Lib.hid (HS.out.below hb)
     clear hb HB HS HK
     go_wp2_with fail
     refine (HT.out b S _ HS2.out).mono ?_
     rintro e w3 ⟨rfl, hb⟩
     have HB3 := Lib.hid (HB2.out.trans (hb.mono HB2.out.size))
     clear hb HB2 HS2 HT
     go_wp2
     go_ret2
     exact ⟨by rw [← HM.out]; rfl, HB3.out⟩
    | false =>
     have hv : r1 = false ∧ r2 = 1 := by
      unfold derivesF at hv
      rw [if_pos h1, if_neg h2, hr, if_neg (by simp)] at hv
      simp only [Prod.mk.injEq] at hv
      exact ⟨hv.1.symm, hv.2.symm⟩
     obtain ⟨rfl, rfl⟩ := hv
     have hkf : kindF a1 = 0 := by
      unfold kindF
      unfold right at hr
      have : termOf (bytes a1) = none := by simpa using hr
      rw [this]
     rw [hkf] at HK
     clear hr hkf
     go_enter Tryz.func13, Tryz.ntmps13
     go_wp2_with fail
     refine HA.out.mono ?_
     rintro e w1 ⟨h3, hb⟩
     rw [if_pos h1, if_neg h2] at h3
     obtain ⟨b, S, rfl, hS, hm⟩ := h3
     have HB := Lib.hid hb
     clear hb hS hm HA h1 h2
     go_wp2_with fail
     refine (term_Kind.calls a1 0 _ HK.out).mono ?_
     rintro e w2 ⟨rfl, hb⟩
     have HB2 := Lib.hid (HB.out.trans (hb.mono HB.out.size))
     clear hb HB HK
     go_wp2
     go_ret2
     exact ⟨rfl, HB2.out⟩
  ·have hv : r1 = false ∧ r2 = 1 := by
    unfold derivesF at hv
    rw [if_neg h1] at hv
    simp only [Prod.mk.injEq] at hv
    exact ⟨hv.1.symm, hv.2.symm⟩
   obtain ⟨rfl, rfl⟩ := hv
   go_enter Tryz.func13, Tryz.ntmps13
   go_wp2_with fail
   refine HA.out.mono ?_
   rintro e w1 ⟨h3, hb⟩
   rw [if_neg h1] at h3
   subst h3
   have HB := Lib.hid hb
   clear hb HA h1
   go_wp2
   go_ret2
   exact ⟨rfl, HB.out⟩
 ·exact absurd h (by simp)
end Go.Proofs.YtlhoahbpklhpmaaGreatDoor
end
