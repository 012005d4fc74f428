/- The contracts of closure.Apart and closure.Derives, in the printed form. -/
import Derived.Test.YtnieihhnchefdaaAllW
namespace Go.Proofs.Ytnieihhnchefdaa
open Go.RowKit Go.Maps Go.Proofs.YtnieihhnchefdaaW.PrintWords
set_option linter.unusedVariables false

theorem hadL_nodup (h : List T) : (hadL h).Nodup := by
  have : ∀ n S, S.Nodup → (iterH n S).Nodup := by
    intro n
    induction n with
    | zero => exact fun S hS => hS
    | succ n ih => exact fun S hS => ih _ (stepH_nodup hS)
  exact this _ _ (nodup_addAll _ _ List.nodup_nil)
theorem LT_congr {S U : List T} (hS : S.Nodup) (hU : U.Nodup) (h : ∀ x, x ∈ S ↔ x ∈ U) : LT S = LT U := by
  have hp : S.Perm U := (List.perm_ext_iff_of_nodup hS hU).2 h
  have h1 : (sortT S).map enc = (sortT U).map enc := by
    rw [sortT_enc, sortT_enc]
    exact Go.mergeSort_of_perm (hp.map enc)
  unfold LT
  have h2 : ∀ L : List T, L.map tB = (L.map enc).map ofBytes := fun L => by rw [List.map_map]; rfl
  rw [h2, h2, h1]
def apartF (l : List ByteArray) : List ByteArray × Int :=
  if l.all right = true then (if 200 < l.length then ([], 10) else (LT (hadL (termsOf l)), 0)) else ([], 1)
def derivesF (l : List ByteArray) (s : ByteArray) : Bool × Int :=
  if l.all right = true then (if 200 < l.length then (false, 10) else if right s = true then (togB (hadL (termsOf l)) s, 0) else (false, 1)) else (false, 1)
def closure_Apart.f (l0 : List ByteArray) : Option (List ByteArray × Int) :=
  if l0.length ≤ 1000000 ∧ (l0.all fun s => decide (s.size ≤ 9223372036854774000)) = true then some (apartF l0) else none
def closure_Derives.f (l0 : List ByteArray) (a1 : ByteArray) : Option (Bool × Int) :=
  if l0.length ≤ 1000000 ∧ (l0.all fun s => decide (s.size ≤ 9223372036854774000)) = true ∧ a1.size ≤ 9223372036854774000 then some (derivesF l0 a1) else none

theorem closure_Apart.calls (A0 : Option Addr) (c0 : Nat) (l0 : List ByteArray) (r1 : List ByteArray) (r2 : Int) (w : World) (hr0 : Kd.C Kd.string w A0 l0.length l0) (hc0 : l0.length ≤ c0) (h : closure_Apart.f l0 = some (r1, r2)) :
    Calls Try.prog 21 #[.slice A0 l0.length c0] w fun e w' => ∃ v0_ : Value, e = .returned (.tuple #[v0_, .int .i64 r2]) ∧ Kd.R Kd.string 9 w' w.heap.size (fun _ => True) v0_ r1 ∧ Below w.heap.size w w' := by
  unfold closure_Apart.f at h
  split at h
  · rename_i hs
    have hv := Option.some.inj h
    have HA := Lib.hid (all_any A0 c0 l0 w (fun k hk => readsC hr0 hk) hs.1 (by simpa using hs.2))
    clear h hs hr0 hc0
    by_cases h1 : l0.all right = true
    · by_cases h2 : 200 < l0.length
      · have hv : r1 = [] ∧ r2 = 10 := by
          unfold apartF at hv
          rw [if_pos h1, if_pos h2] at hv
          simp only [Prod.mk.injEq] at hv
          exact ⟨hv.1.symm, hv.2.symm⟩
        obtain ⟨rfl, rfl⟩ := hv
        go_enter Try.func21, Try.ntmps21
        go_wp2_with fail
        refine HA.out.mono ?_
        rintro e w1 ⟨h3, hb⟩
        rw [if_pos h1, if_pos h2] at h3
        subst h3
        have HB := Lib.hid hb
        clear hb HA h1 h2
        go_wp2
        go_ret2
        exact ⟨_, rfl, Kd.R_nil _ _ _ _ _, HB.out⟩
      · have hv : r1 = LT (hadL (termsOf l0)) ∧ r2 = 0 := by
          unfold apartF at hv
          rw [if_pos h1, if_neg h2] at hv
          simp only [Prod.mk.injEq] at hv
          exact ⟨hv.1.symm, hv.2.symm⟩
        obtain ⟨rfl, rfl⟩ := hv
        have HL := Lib.hid (hadL_len l0 (by omega))
        go_enter Try.func21, Try.ntmps21
        go_wp2_with fail
        refine HA.out.mono ?_
        rintro e w1 ⟨h3, hb⟩
        rw [if_pos h1, if_neg h2] at h3
        obtain ⟨b, S, rfl, hS, hm⟩ := h3
        have HS := Lib.hid hS
        have HB := Lib.hid hb
        have HE := Lib.hid (LT_congr (hadAt_nodup hS) (hadL_nodup _) hm)
        have h8 := HL.out S (hadAt_nodup hS) (fun x hx => (hm x).1 hx)
        clear hb HA h1 h2 hm hS
        go_wp2_with fail
        refine (keys_calls b _).mono ?_
        rintro e w2 ⟨rfl, rfl⟩
        go_wp2_with fail
        refine (sorted_calls b S _ HS.out (by omega)).mono ?_
        rintro e w3 ⟨v, rfl, hR, hb⟩
        have HR := Lib.hid (show Kd.R Kd.string 9 w3 w.heap.size (fun _ => True) v (LT (hadL (termsOf l0))) by
          rw [← HE.out]
          exact Kd.R_lower hR (by have := HB.out.size; omega))
        have HB3 := Lib.hid (HB.out.trans (hb.mono HB.out.size))
        clear hb hR HS HE HB
        go_wp2
        go_ret2
        exact ⟨_, rfl, HR.out, HB3.out⟩
    · have hv : r1 = [] ∧ r2 = 1 := by
        unfold apartF at hv
        rw [if_neg h1] at hv
        simp only [Prod.mk.injEq] at hv
        exact ⟨hv.1.symm, hv.2.symm⟩
      obtain ⟨rfl, rfl⟩ := hv
      go_enter Try.func21, Try.ntmps21
      go_wp2_with fail
      refine HA.out.mono ?_
      rintro e w1 ⟨h3, hb⟩
      rw [if_neg h1] at h3
      subst h3
      have HB := Lib.hid hb
      clear hb HA h1
      go_wp2
      go_ret2
      exact ⟨_, rfl, Kd.R_nil _ _ _ _ _, HB.out⟩
  · exact absurd h (by simp)

theorem closure_Derives.calls (A0 : Option Addr) (c0 : Nat) (l0 : List ByteArray) (a1 : ByteArray) (r1 : Bool) (r2 : Int) (w : World) (hr0 : Kd.C Kd.string w A0 l0.length l0) (hc0 : l0.length ≤ c0) (h : closure_Derives.f l0 a1 = some (r1, r2)) :
    Calls Try.prog 17 #[.slice A0 l0.length c0, .string a1] w fun e w' => e = .returned (.tuple #[.bool r1, .int .i64 r2]) ∧ Below w.heap.size w w' := by
  unfold closure_Derives.f at h
  split at h
  · rename_i hs
    have hv := Option.some.inj h
    have HA := Lib.hid (all_any A0 c0 l0 w (fun k hk => readsC hr0 hk) hs.1 (by simpa using hs.2.1))
    have HK := Lib.hid (show term_Kind.f a1 = some (kindF a1) by unfold term_Kind.f; rw [if_pos hs.2.2])
    clear h hs hr0 hc0
    by_cases h1 : l0.all right = true
    · by_cases h2 : 200 < l0.length
      · have hv : r1 = false ∧ r2 = 10 := by
          unfold derivesF at hv
          rw [if_pos h1, if_pos h2] at hv
          simp only [Prod.mk.injEq] at hv
          exact ⟨hv.1.symm, hv.2.symm⟩
        obtain ⟨rfl, rfl⟩ := hv
        go_enter Try.func17, Try.ntmps17
        go_wp2_with fail
        refine HA.out.mono ?_
        rintro e w1 ⟨h3, hb⟩
        rw [if_pos h1, if_pos h2] at h3
        subst h3
        have HB := Lib.hid hb
        clear hb HA h1 h2
        go_wp2
        go_ret2
        exact ⟨rfl, HB.out⟩
      · cases hr : right a1 with
        | true =>
          obtain ⟨t, ht, hst, htm⟩ := right_tB hr
          have hv : r1 = togB (hadL (termsOf l0)) a1 ∧ r2 = 0 := by
            unfold derivesF at hv
            rw [if_pos h1, if_neg h2, if_pos hr] at hv
            simp only [Prod.mk.injEq] at hv
            exact ⟨hv.1.symm, hv.2.symm⟩
          obtain ⟨rfl, rfl⟩ := hv
          have hkf : (kindF a1 == 0) = false := by
            refine beq_eq_false_iff_ne.mpr fun e => ?_
            unfold kindF at e
            rw [htm] at e
            have : t.code.toNat ≠ 0 := by
              cases t with
              | atom n => exact (by decide : (97 : UInt8).toNat ≠ 0)
              | text n => exact (by decide : (116 : UInt8).toNat ≠ 0)
              | one k a => exact (by cases k <;> decide : k.code.toNat ≠ 0)
              | two k a b => exact (by cases k <;> decide : k.code.toNat ≠ 0)
            simp only at e
            omega
          have HT := Lib.hid (fun b S W (h : HadAt W b S) => tog_any t S b W h ht)
          have htg : togB (hadL (termsOf l0)) a1 = tog (hadL (termsOf l0)) t := by rw [hst]; exact togB_tB _ ht
          rw [← hst] at HT
          rw [htg]
          generalize hH : hadL (termsOf l0) = H
          clear hr hst htm htg
          generalize kindF a1 = kv at HK hkf
          go_enter Try.func17, Try.ntmps17
          go_wp2_with fail
          refine HA.out.mono ?_
          rintro e w1 ⟨h3, hb⟩
          rw [if_pos h1, if_neg h2, hH] at h3
          obtain ⟨b, S, rfl, hS, hm⟩ := h3
          have HB := Lib.hid hb
          have HS := Lib.hid hS
          have HM := Lib.hid (tog_congr hm t)
          clear hb hS hm HA h1 h2 hH
          go_wp2_with fail
          refine (term_Kind.calls a1 kv _ HK.out).mono ?_
          rintro e w2 ⟨rfl, hb⟩
          have HB2 := Lib.hid (HB.out.trans (hb.mono HB.out.size))
          have HS2 := Lib.hid (HS.out.below hb)
          clear hb HB HS HK
          go_wp2_with fail
          refine (HT.out b S _ HS2.out).mono ?_
          rintro e w3 ⟨rfl, hb⟩
          have HB3 := Lib.hid (HB2.out.trans (hb.mono HB2.out.size))
          clear hb HB2 HS2 HT
          go_wp2
          go_ret2
          exact ⟨by rw [← HM.out]; rfl, HB3.out⟩
        | false =>
          have hv : r1 = false ∧ r2 = 1 := by
            unfold derivesF at hv
            rw [if_pos h1, if_neg h2, hr, if_neg (by simp)] at hv
            simp only [Prod.mk.injEq] at hv
            exact ⟨hv.1.symm, hv.2.symm⟩
          obtain ⟨rfl, rfl⟩ := hv
          have hkf : kindF a1 = 0 := by
            unfold kindF
            unfold right at hr
            have : termOf (bytes a1) = none := by simpa using hr
            rw [this]
          rw [hkf] at HK
          clear hr hkf
          go_enter Try.func17, Try.ntmps17
          go_wp2_with fail
          refine HA.out.mono ?_
          rintro e w1 ⟨h3, hb⟩
          rw [if_pos h1, if_neg h2] at h3
          obtain ⟨b, S, rfl, hS, hm⟩ := h3
          have HB := Lib.hid hb
          clear hb hS hm HA h1 h2
          go_wp2_with fail
          refine (term_Kind.calls a1 0 _ HK.out).mono ?_
          rintro e w2 ⟨rfl, hb⟩
          have HB2 := Lib.hid (HB.out.trans (hb.mono HB.out.size))
          clear hb HB HK
          go_wp2
          go_ret2
          exact ⟨rfl, HB2.out⟩
    · have hv : r1 = false ∧ r2 = 1 := by
        unfold derivesF at hv
        rw [if_neg h1] at hv
        simp only [Prod.mk.injEq] at hv
        exact ⟨hv.1.symm, hv.2.symm⟩
      obtain ⟨rfl, rfl⟩ := hv
      go_enter Try.func17, Try.ntmps17
      go_wp2_with fail
      refine HA.out.mono ?_
      rintro e w1 ⟨h3, hb⟩
      rw [if_neg h1] at h3
      subst h3
      have HB := Lib.hid hb
      clear hb HA h1
      go_wp2
      go_ret2
      exact ⟨rfl, HB.out⟩
  · exact absurd h (by simp)

end Go.Proofs.Ytnieihhnchefdaa
