/- The contract of closure's gives. -/
import Derived.Test.YtnieihhnchefdaaTog
namespace Go.Proofs.Ytnieihhnchefdaa
open Go.RowKit Go.Maps Go.Proofs.YtnieihhnchefdaaW.PrintWords
set_option linter.unusedVariables false

def ReadsB (w : World) (A : Option Addr) (l : List ByteArray) : Prop := ∀ k (hk : k < l.length), ∃ ad, A = some ad ∧ w.cell? (ad.add k) = some (.string l[k])
theorem ReadsB.below {w w' : World} {A : Option Addr} {l : List ByteArray} (h : ReadsB w A l) (hb : Below w.heap.size w w') : ReadsB w' A l := fun k hk => by
  obtain ⟨ad, h1, h2⟩ := h k hk
  exact ⟨ad, h1, pw_cell_below hb h2⟩
def GivesC (t : T) (S : List T) (b : Nat) (w : World) (l : List T) : Prop :=
  Calls Try.prog 62 #[.map (some b), .string (tB t)] w fun e w' => ∃ A cap, e = .returned (.slice A l.length cap) ∧ ReadsB w' A (l.map tB) ∧ Below w.heap.size w w'

theorem gives_none (t : T) (S : List T) (b : Nat) (w : World) (hS : HadAt w b S) (hw : Wf t) (h1 : t.code.toNat ≠ 112) (h2 : t.code.toNat ≠ 103) (h3 : t.code.toNat ≠ 115) (h4 : t.code.toNat ≠ 98) : GivesC t S b w [] := by
  have HP := Lib.hid (partsF_tB hw)
  have hby := tB_code t
  have hpos := tB_pos t
  have e1 : ((t.code.toNat : Int) == 112) = false := beq_eq_false_iff_ne.mpr (by omega)
  have e2 : ((t.code.toNat : Int) == 103) = false := beq_eq_false_iff_ne.mpr (by omega)
  have e3 : ((t.code.toNat : Int) == 115) = false := beq_eq_false_iff_ne.mpr (by omega)
  have e4 : ((t.code.toNat : Int) == 98) = false := beq_eq_false_iff_ne.mpr (by omega)
  unfold GivesC
  generalize hgc : t.code.toNat = c at *
  generalize t.parts.map tB = l at *
  generalize tB t = s at *
  clear hS hw h1 h2 h3 h4 hgc
  go_enter Try.func62, Try.ntmps62
  go_wp2_with fail
  refine (term_Parts.calls s l 0 _ HP.out).mono ?_
  rintro e w6 ⟨v0, rfl, hR, hb⟩
  have HB6 := Lib.hid hb
  clear hb hR HP
  go_wp2
  go_ret
  exact ⟨none, 0, rfl, fun k hk => absurd hk (by simp), HB6.out⟩
theorem two_parts {w : World} {n : Nat} {A : Option Addr} {cap : Nat} {x y : ByteArray} (h : Kd.R Kd.string 9 w n (fun _ => True) (.slice A 2 cap) [x, y]) :
    ∃ ad, A = some ad ∧ w.cell? (ad.add 0) = some (.string x) ∧ w.cell? (ad.add 1) = some (.string y) ∧ 2 ≤ cap := by
  have hc := (Kd.R_reads' h).2.2
  obtain ⟨ad, rfl, h0⟩ := readsC hc (k := 0) (by simp)
  obtain ⟨ad', e, h1⟩ := readsC hc (k := 1) (by simp)
  obtain rfl := Option.some.inj e
  exact ⟨ad, rfl, h0, h1, (Kd.R_reads' h).2.1⟩
theorem gives_pair (x y : T) (S : List T) (b : Nat) (w : World) (hS : HadAt w b S) (hw : Wf (.two .p x y)) : GivesC (.two .p x y) S b w [x, y] := by
  have HP := Lib.hid (partsF_tB hw)
  have hby := tB_code (.two .p x y)
  have hpos := tB_pos (.two .p x y)
  have hby : ∀ h : 0 < (tB (.two .p x y)).size, ((tB (.two .p x y))[0]'h).toNat = 112 := hby
  have hl : (T.two .p x y).parts.map tB = [tB x, tB y] := rfl
  rw [hl] at HP
  unfold GivesC
  generalize tB (.two .p x y) = s at *
  clear hS hw hl
  go_enter Try.func62, Try.ntmps62
  go_wp2_with fail
  refine (term_Parts.calls s _ 0 _ HP.out).mono ?_
  rintro e w6 ⟨v0, rfl, hR, hb⟩
  obtain ⟨A, cap, rfl⟩ := Kd.R_slice hR
  have HR := Lib.hid hR
  have HB6 := Lib.hid hb
  clear hb hR HP
  go_wp2
  go_ret
  exact ⟨A, cap, rfl, fun k hk => readsC (Kd.R_reads' HR.out).2.2 hk, HB6.out⟩
theorem gives_signed (x y : T) (S : List T) (b : Nat) (w : World) (hS : HadAt w b S) (hw : Wf (.two .g x y)) : GivesC (.two .g x y) S b w [y] := by
  have HP := Lib.hid (partsF_tB hw)
  have hby : ∀ h : 0 < (tB (.two .g x y)).size, ((tB (.two .g x y))[0]'h).toNat = 103 := tB_code (.two .g x y)
  have hpos := tB_pos (.two .g x y)
  have hl : (T.two .g x y).parts.map tB = [tB x, tB y] := rfl
  rw [hl] at HP
  unfold GivesC
  generalize tB (.two .g x y) = s at *
  clear hS hw hl
  go_enter Try.func62, Try.ntmps62
  go_wp2_with fail
  refine (term_Parts.calls s _ 0 _ HP.out).mono ?_
  rintro e w6 ⟨v0, rfl, hR, hb⟩
  obtain ⟨A, cap, rfl⟩ := Kd.R_slice hR
  obtain ⟨ad, rfl, h0, h1, hcap⟩ := two_parts hR
  have HB6 := Lib.hid hb
  have H1 := Lib.hid h1
  clear hb hR HP h0 h1
  go_wp2
  go_ret
  exact ⟨_, _, rfl, fun k hk => ⟨_, rfl, by
    obtain rfl : k = 0 := by simp at hk; omega
    exact H1.out⟩, HB6.out⟩
theorem gives_sealed_yes (x y : T) (S : List T) (b : Nat) (w : World) (hS : HadAt w b S) (hw : Wf (.two .s x y)) (ht : tog S x = true) : GivesC (.two .s x y) S b w [y] := by
  have HP := Lib.hid (partsF_tB hw)
  have hby : ∀ h : 0 < (tB (.two .s x y)).size, ((tB (.two .s x y))[0]'h).toNat = 115 := tB_code (.two .s x y)
  have hpos := tB_pos (.two .s x y)
  have hl : (T.two .s x y).parts.map tB = [tB x, tB y] := rfl
  rw [hl] at HP
  have HT := Lib.hid (fun W (h : HadAt W b S) => tog_any x S b W h (wf_parts hw (by simp [T.parts])))
  rw [ht] at HT
  have HS := Lib.hid hS
  unfold GivesC
  generalize tB (.two .s x y) = s at *
  generalize tB x = px at *
  clear hS hw hl ht
  go_enter Try.func62, Try.ntmps62
  go_wp2_with fail
  refine (term_Parts.calls s _ 0 _ HP.out).mono ?_
  rintro e w6 ⟨v0, rfl, hR, hb⟩
  obtain ⟨A, cap, rfl⟩ := Kd.R_slice hR
  obtain ⟨ad, rfl, h0, h1, hcap⟩ := two_parts hR
  have HB6 := Lib.hid hb
  have H1 := Lib.hid h1
  have h0 : w6.cell? ad = some (.string px) := h0
  clear hb hR HP h1
  go_wp2_with fail
  refine (HT.out w6 (HS.out.below HB6.out)).mono ?_
  rintro e w7 ⟨rfl, hb⟩
  have HB7 := Lib.hid (HB6.out.trans (hb.mono HB6.out.size))
  have H17 := Lib.hid (pw_cell_below hb H1.out)
  clear hb HB6 H1 HS HT h0
  go_wp2
  go_ret
  exact ⟨_, _, rfl, fun k hk => ⟨_, rfl, by
    obtain rfl : k = 0 := by simp at hk; omega
    exact H17.out⟩, HB7.out⟩
theorem gives_sealed_no (x y : T) (S : List T) (b : Nat) (w : World) (hS : HadAt w b S) (hw : Wf (.two .s x y)) (ht : tog S x = false) : GivesC (.two .s x y) S b w [] := by
  have HP := Lib.hid (partsF_tB hw)
  have hby : ∀ h : 0 < (tB (.two .s x y)).size, ((tB (.two .s x y))[0]'h).toNat = 115 := tB_code (.two .s x y)
  have hpos := tB_pos (.two .s x y)
  have hl : (T.two .s x y).parts.map tB = [tB x, tB y] := rfl
  rw [hl] at HP
  have HT := Lib.hid (fun W (h : HadAt W b S) => tog_any x S b W h (wf_parts hw (by simp [T.parts])))
  rw [ht] at HT
  have HS := Lib.hid hS
  unfold GivesC
  generalize tB (.two .s x y) = s at *
  generalize tB x = px at *
  clear hS hw hl ht
  go_enter Try.func62, Try.ntmps62
  go_wp2_with fail
  refine (term_Parts.calls s _ 0 _ HP.out).mono ?_
  rintro e w6 ⟨v0, rfl, hR, hb⟩
  obtain ⟨A, cap, rfl⟩ := Kd.R_slice hR
  obtain ⟨ad, rfl, h0, h1, hcap⟩ := two_parts hR
  have HB6 := Lib.hid hb
  have H1 := Lib.hid h1
  have h0 : w6.cell? ad = some (.string px) := h0
  clear hb hR HP h1
  go_wp2_with fail
  refine (HT.out w6 (HS.out.below HB6.out)).mono ?_
  rintro e w7 ⟨rfl, hb⟩
  have HB7 := Lib.hid (HB6.out.trans (hb.mono HB6.out.size))
  have H17 := Lib.hid (pw_cell_below hb H1.out)
  clear hb HB6 H1 HS HT h0
  go_wp2
  go_ret
  exact ⟨none, 0, rfl, fun k hk => absurd hk (by simp), HB7.out⟩
theorem gives_boxed_yes (x y : T) (S : List T) (b : Nat) (w : World) (hS : HadAt w b S) (hw : Wf (.two .b (.one .u x) y)) (ht : tog S x = true) : GivesC (.two .b (.one .u x) y) S b w [y] := by
  have HP := Lib.hid (partsF_tB hw)
  have hby : ∀ h : 0 < (tB (.two .b (.one .u x) y)).size, ((tB (.two .b (.one .u x) y))[0]'h).toNat = 98 := tB_code (.two .b (.one .u x) y)
  have hpos := tB_pos (.two .b (.one .u x) y)
  have hl : (T.two .b (.one .u x) y).parts.map tB = [tB (.one .u x), tB y] := rfl
  rw [hl] at HP
  have hwx : Wf (.one .u x) := wf_parts hw (by simp [T.parts])
  have HT := Lib.hid (fun W (h : HadAt W b S) => tog_any x S b W h (wf_parts hwx (by simp [T.parts])))
  have hx : (tB (.one .u x)).extract 1 (tB (.one .u x)).size = tB x := bs_inj (by rw [bytes_from]; show (bytes (ofBytes (enc (.one .u x)))).drop 1 = bytes (ofBytes (enc x)); rw [bytes_ofBytes, bytes_ofBytes]; rfl)
  have hpx := tB_pos (.one .u x)
  rw [ht] at HT
  have HS := Lib.hid hS
  unfold GivesC
  generalize tB (.two .b (.one .u x) y) = s at *
  generalize tB (.one .u x) = u at *
  generalize tB x = px at *
  clear hS hw hl ht hwx
  go_enter Try.func62, Try.ntmps62
  go_wp2_with fail
  refine (term_Parts.calls s _ 0 _ HP.out).mono ?_
  rintro e w6 ⟨v0, rfl, hR, hb⟩
  obtain ⟨A, cap, rfl⟩ := Kd.R_slice hR
  obtain ⟨ad, rfl, h0, h1, hcap⟩ := two_parts hR
  have HB6 := Lib.hid hb
  have H1 := Lib.hid h1
  have h0 : w6.cell? ad = some (.string u) := h0
  clear hb hR HP h1
  go_wp2_with fail
  refine (HT.out w6 (HS.out.below HB6.out)).mono ?_
  rintro e w7 ⟨rfl, hb⟩
  have HB7 := Lib.hid (HB6.out.trans (hb.mono HB6.out.size))
  have H17 := Lib.hid (pw_cell_below hb H1.out)
  clear hb HB6 H1 HS HT h0
  go_wp2
  go_ret
  exact ⟨_, _, rfl, fun k hk => ⟨_, rfl, by
    obtain rfl : k = 0 := by simp at hk; omega
    exact H17.out⟩, HB7.out⟩
theorem gives_boxed_no (x y : T) (S : List T) (b : Nat) (w : World) (hS : HadAt w b S) (hw : Wf (.two .b (.one .u x) y)) (ht : tog S x = false) : GivesC (.two .b (.one .u x) y) S b w [] := by
  have HP := Lib.hid (partsF_tB hw)
  have hby : ∀ h : 0 < (tB (.two .b (.one .u x) y)).size, ((tB (.two .b (.one .u x) y))[0]'h).toNat = 98 := tB_code (.two .b (.one .u x) y)
  have hpos := tB_pos (.two .b (.one .u x) y)
  have hl : (T.two .b (.one .u x) y).parts.map tB = [tB (.one .u x), tB y] := rfl
  rw [hl] at HP
  have hwx : Wf (.one .u x) := wf_parts hw (by simp [T.parts])
  have HT := Lib.hid (fun W (h : HadAt W b S) => tog_any x S b W h (wf_parts hwx (by simp [T.parts])))
  have hx : (tB (.one .u x)).extract 1 (tB (.one .u x)).size = tB x := bs_inj (by rw [bytes_from]; show (bytes (ofBytes (enc (.one .u x)))).drop 1 = bytes (ofBytes (enc x)); rw [bytes_ofBytes, bytes_ofBytes]; rfl)
  have hpx := tB_pos (.one .u x)
  rw [ht] at HT
  have HS := Lib.hid hS
  unfold GivesC
  generalize tB (.two .b (.one .u x) y) = s at *
  generalize tB (.one .u x) = u at *
  generalize tB x = px at *
  clear hS hw hl ht hwx
  go_enter Try.func62, Try.ntmps62
  go_wp2_with fail
  refine (term_Parts.calls s _ 0 _ HP.out).mono ?_
  rintro e w6 ⟨v0, rfl, hR, hb⟩
  obtain ⟨A, cap, rfl⟩ := Kd.R_slice hR
  obtain ⟨ad, rfl, h0, h1, hcap⟩ := two_parts hR
  have HB6 := Lib.hid hb
  have H1 := Lib.hid h1
  have h0 : w6.cell? ad = some (.string u) := h0
  clear hb hR HP h1
  go_wp2_with fail
  refine (HT.out w6 (HS.out.below HB6.out)).mono ?_
  rintro e w7 ⟨rfl, hb⟩
  have HB7 := Lib.hid (HB6.out.trans (hb.mono HB6.out.size))
  have H17 := Lib.hid (pw_cell_below hb H1.out)
  clear hb HB6 H1 HS HT h0
  go_wp2
  go_ret
  exact ⟨none, 0, rfl, fun k hk => absurd hk (by simp), HB7.out⟩
theorem gives_any (t : T) (S : List T) (b : Nat) (w : World) (hS : HadAt w b S) (hw : Wf t) : GivesC t S b w (gives S t) := by
  cases t with
  | atom n => exact gives_none _ S b w hS hw (show ¬ (97 : UInt8).toNat = 112 by decide) (show ¬ (97 : UInt8).toNat = 103 by decide) (show ¬ (97 : UInt8).toNat = 115 by decide) (show ¬ (97 : UInt8).toNat = 98 by decide)
  | text n => exact gives_none _ S b w hS hw (show ¬ (116 : UInt8).toNat = 112 by decide) (show ¬ (116 : UInt8).toNat = 103 by decide) (show ¬ (116 : UInt8).toNat = 115 by decide) (show ¬ (116 : UInt8).toNat = 98 by decide)
  | one k a => exact gives_none _ S b w hS hw (show ¬ k.code.toNat = 112 by cases k <;> decide) (show ¬ k.code.toNat = 103 by cases k <;> decide) (show ¬ k.code.toNat = 115 by cases k <;> decide) (show ¬ k.code.toNat = 98 by cases k <;> decide)
  | two k x y =>
    cases k with
    | p => exact gives_pair x y S b w hS hw
    | g => exact gives_signed x y S b w hS hw
    | s =>
      simp only [gives]
      cases ht : tog S x with
      | true => rw [if_pos rfl]; exact gives_sealed_yes x y S b w hS hw ht
      | false => rw [if_neg (by simp)]; exact gives_sealed_no x y S b w hS hw ht
    | b =>
      have hp : x.isPub = true := hw.1.2.2 rfl
      cases x with
      | atom n => simp [T.isPub] at hp
      | text n => simp [T.isPub] at hp
      | two k a c => simp [T.isPub] at hp
      | one k a =>
        cases k with
        | h => simp [T.isPub] at hp
        | u =>
          simp only [gives]
          cases ht : tog S a with
          | true => rw [if_pos rfl]; exact gives_boxed_yes a y S b w hS hw ht
          | false => rw [if_neg (by simp)]; exact gives_boxed_no a y S b w hS hw ht

end Go.Proofs.Ytnieihhnchefdaa
