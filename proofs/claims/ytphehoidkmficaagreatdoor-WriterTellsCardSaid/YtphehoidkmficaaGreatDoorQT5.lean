/- Contracts and laws that the statement of LawDataTells,LawWriterTells leans on (packed from this claim's own texts): part 5. -/
import Derived.Test.YtphehoidkmficaaGreatDoorQT3
import Derived.Test.YtphehoidkmficaaGreatDoorQT4
section

namespace Go.Proofs.YtphehoidkmficaaGreatDoor
open Go.RowKit Go.Proofs.YtphehoidkmficaaGreatDoorW.PrintWords
set_option linter.unusedVariables false
def catB (k : ByteArray) (l : List ByteArray) : ByteArray := l.foldl (fun t p => t ++ p) k
def ofF (k : ByteArray) (l : List ByteArray) : ByteArray × Int :=
 if l.all right = true then (if right (catB k l) = true then (catB k l, 0) else (⟨#[]⟩, 10)) else (⟨#[]⟩, 1)
def term_of.f (a0 : ByteArray) (l1 : List ByteArray) : Option (ByteArray × Int) :=
 if a0.size ≤ 1000000 ∧ l1.length ≤ 1000000 ∧ (l1.all fun s => decide (s.size ≤ 9223372036854774000)) = true then some (ofF a0 l1) else none
theorem catB_snoc (k : ByteArray) (l : List ByteArray) (x : ByteArray) : catB k (l ++ [x]) = catB k l ++ x := by simp [catB]
theorem right_size {s : ByteArray} (h : right s = true) : s.size ≤ 4000 := by
 unfold right at h
 obtain ⟨t, ht⟩ := Option.isSome_iff_exists.1 h
 obtain ⟨h1, h2⟩ := termOf_inv ht
 rw [← bytes_length, h1]
 exact h2.2
theorem catB_size (k : ByteArray) (l : List ByteArray) (h : l.all right = true) : (catB k l).size ≤ k.size + 4000 * l.length := by
 induction l using snoc_ind with
 | h0 => simp [catB]
 | h1 l x ih =>
  rw [catB_snoc, ByteArray.size_append, List.length_append, List.length_singleton]
  simp only [List.all_append, Bool.and_eq_true, List.all_cons, List.all_nil, Bool.and_true] at h
  have := ih h.1
  have := right_size h.2
  omega
theorem whole_right (s : ByteArray) (w : World) (hs : s.size ≤ 9223372036854774000) (h : right s = true) :
  Calls Tryz.prog 97 #[.string s] w fun e w' => ∃ ty y, e = .returned (.iface ty y) ∧ Below w.heap.size w w' := by
 refine (whole_any s w hs).mono ?_
 rintro e w1 ⟨v, rfl, hv, hb⟩
 unfold right at h
 obtain ⟨t, ht⟩ := Option.isSome_iff_exists.1 h
 rw [ht] at hv
 obtain ⟨ty, y, rfl⟩ := NodeAt.shape (show NodeAt w1 w.heap.size v t from hv)
 exact ⟨_, _, rfl, hb⟩
theorem whole_wrong (s : ByteArray) (w : World) (hs : s.size ≤ 9223372036854774000) (h : right s = false) :
  Calls Tryz.prog 97 #[.string s] w fun e w' => e = .returned .nilIface ∧ Below w.heap.size w w' := by
 refine (whole_any s w hs).mono ?_
 rintro e w1 ⟨v, rfl, hv, hb⟩
 unfold right at h
 have ht : termOf (bytes s) = none := by simpa using h
 rw [ht] at hv
 obtain rfl : v = .nilIface := hv
 exact ⟨rfl, hb⟩
theorem readsC {w : World} {A : Option Addr} {l : List ByteArray} (h : Kd.C Kd.string w A l.length l) {k : Nat} (hk : k < l.length) : ∃ ad, A = some ad ∧ w.cell? (ad.add k) = some (.string l[k]) := by
 obtain ⟨ad, rfl, hc⟩ := h.2.2 (by omega)
 obtain ⟨cs, hl, rfl, hz⟩ := hc k l[k] (List.getElem?_eq_getElem hk)
 have := hz 0 _ rfl
 rw [show k * Kd.string.sz + 0 = k from by simp [Kd.string, Kd.scalar]] at this
 exact ⟨ad, rfl, this⟩
theorem term_of.calls (a0 : ByteArray) (A1 : Option Addr) (c1 : Nat) (l1 : List ByteArray) (r1 : ByteArray) (r2 : Int) (w : World) (hr1 : Kd.C Kd.string w A1 l1.length l1) (hc1 : l1.length ≤ c1) (h : term_of.f a0 l1 = some (r1, r2)) :
  Calls Tryz.prog 99 #[.string a0, .slice A1 l1.length c1] w fun e w' => e = .returned (.tuple #[.string r1, .int .i64 r2]) ∧ Below w.heap.size w w' := by
 unfold term_of.f at h
 split at h
 ·rename_i hsz
  obtain ⟨hk, hln, hall⟩ := hsz
  have h := Option.some.inj h
  have HE : Hid ((r1, r2) = ofF a0 l1) := h.symm
  have HR := Lib.hid hr1
  have HA : Hid (∀ k, (hk : k < l1.length) → (l1[k]).size ≤ 9223372036854774000) := fun k hk => by
   have := List.all_eq_true.1 hall l1[k] (List.getElem_mem hk)
   simpa using this
  clear h hr1 hall
  go_enter Tryz.func99, Tryz.ntmps99
  go_wp2_with fail
  go_loopw [6, 12] (fun t i wr => ∃ k : Nat, k ≤ l1.length ∧ i = .int .i64 k ∧ t = .string (catB a0 (l1.take k)) ∧ (l1.take k).all right = true ∧ Below w.heap.size w wr) (fun _ i _ => 2000000 - (intOf i).toNat)
  case atStart => exact ⟨0, by omega, rfl, rfl, rfl, Below.refl _ _⟩
  case round =>
   obtain ⟨k, hk2, rfl, rfl, hright, hb⟩ := hrel
   have Hright := Lib.hid hright
   have Hb := Lib.hid hb
   clear hright hb
   have Hcs := Lib.hid (catB_size a0 (l1.take k) Hright.out)
   have hcs : (catB a0 (l1.take k)).size ≤ 5000000000 := by
    have := Hcs.out
    rw [List.length_take] at this
    omega
   by_cases hlt : k < l1.length
   ·obtain ⟨ad, hA, hcell0⟩ := readsC HR.out hlt
    subst hA
    have hcell := pw_cell_below' Hb.out hcell0
    have hsx := HA.out k hlt
    have Htk : Hid (l1.take (k + 1) = l1.take k ++ [l1[k]]) := List.take_succ_eq_append_getElem hlt
    clear hcell0
    generalize hx : l1[k] = x at *
    have Hx := Lib.hid hx
    clear hx
    cases hrx : right x with
    | false =>
     have hv : (r1, r2) = ((⟨#[]⟩, 1) : ByteArray × Int) := by
      rw [HE.out]
      unfold ofF
      rw [if_neg]
      intro ha
      have := List.all_eq_true.1 ha x (by rw [← Hx.out]; exact List.getElem_mem hlt)
      rw [hrx] at this
      cases this
     have HV := Lib.hid hv
     clear hv
     obtain ⟨e1, e2⟩ := Prod.mk.inj HV.out
     subst e1 e2
     have HW := Lib.hid (whole_wrong x wr hsx hrx)
     clear hrx HV HE
     go_wp2_with fail
     refine HW.out.mono ?_
     rintro e w5 ⟨rfl, hb5⟩
     have HB := Lib.hid (Hb.out.trans (hb5.mono Hb.out.size))
     clear hb5
     go_wp2
     go_ret2
     exact ⟨rfl, HB.out⟩
    | true =>
     have HW := Lib.hid (whole_right x wr hsx hrx)
     have hx4 := right_size hrx
     have hr2 : (l1.take (k + 1)).all right = true := by rw [Htk.out, List.all_append, Hright.out]; simp [hrx]
     have hc2 : catB a0 (l1.take (k + 1)) = catB a0 (l1.take k) ++ x := by rw [Htk.out, catB_snoc]
     have HR2 := Lib.hid hr2
     have HC2 := Lib.hid hc2
     clear hr2 hc2
     generalize catB a0 (l1.take k) = q at *
     clear hrx
     go_wp2_with fail
     refine HW.out.mono ?_
     rintro e w5 ⟨ty, y, rfl, hb5⟩
     have HB := Lib.hid (Hb.out.trans (hb5.mono Hb.out.size))
     clear hb5
     go_wp2
     go_roundw
     case rel => exact ⟨k + 1, by omega, by go_num, by rw [HC2.out], HR2.out, HB.out⟩
     case measure => simp [intOf]; omega
   ·obtain rfl : k = l1.length := by omega
    have hlt2 : ¬ ((l1.length : Int) < (l1.length : Int)) := by omega
    clear hlt
    rw [List.take_length] at *
    have hv : (r1, r2) = if right (catB a0 l1) = true then (catB a0 l1, 0) else ((⟨#[]⟩, 10) : ByteArray × Int) := by
     rw [HE.out]
     unfold ofF
     rw [if_pos Hright.out]
    clear HE
    cases hrx : right (catB a0 l1) with
    | false =>
     rw [hrx, if_neg (by simp)] at hv
     obtain ⟨e1, e2⟩ := Prod.mk.inj hv
     subst e1 e2
     have HW := Lib.hid (whole_wrong (catB a0 l1) wr (by omega) hrx)
     clear hv hrx
     go_wp2_with fail
     refine HW.out.mono ?_
     rintro e w5 ⟨rfl, hb5⟩
     have HB := Lib.hid (Hb.out.trans (hb5.mono Hb.out.size))
     clear hb5
     go_wp2
     go_ret2
     exact ⟨rfl, HB.out⟩
    | true =>
     rw [hrx, if_pos rfl] at hv
     obtain ⟨e1, e2⟩ := Prod.mk.inj hv
     subst e1 e2
     have HW := Lib.hid (whole_right (catB a0 l1) wr (by omega) hrx)
     clear hv hrx
     go_wp2_with fail
     refine HW.out.mono ?_
     rintro e w5 ⟨ty, y, rfl, hb5⟩
     have HB := Lib.hid (Hb.out.trans (hb5.mono Hb.out.size))
     clear hb5
     go_wp2
     go_ret2
     exact ⟨rfl, HB.out⟩
 ·exact absurd h (by simp)
end Go.Proofs.YtphehoidkmficaaGreatDoor
end
