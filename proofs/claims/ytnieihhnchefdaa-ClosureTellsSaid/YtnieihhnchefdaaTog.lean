/- The contracts of closure's together and gives. -/
import Derived.Test.YtnieihhnchefdaaReads
import Derived.Test.YtnieihhnchefdaaHad
import Derived.Test.YtnieihhnchefdaaOf
namespace Go.Proofs.Ytnieihhnchefdaa
open Go.RowKit Go.Maps Go.Proofs.YtnieihhnchefdaaW.PrintWords
set_option linter.unusedVariables false

theorem wf_parts {t a : T} (h : Wf t) (ha : a ∈ t.parts) : Wf a := by
  cases t with
  | atom n => simp [T.parts] at ha
  | text n => simp [T.parts] at ha
  | one k x =>
    simp only [T.parts, List.mem_singleton] at ha
    subst ha
    exact ⟨ok_mono (d := 39) h.1 (by omega), by have := h.2; simp only [enc, List.length_cons] at this; omega⟩
  | two k x y =>
    simp only [T.parts, List.mem_cons, List.not_mem_nil, or_false] at ha
    have h2 := h.2
    simp only [enc, List.length_cons, List.length_append] at h2
    rcases ha with rfl | rfl
    · exact ⟨ok_mono (d := 39) h.1.1 (by omega), by omega⟩
    · exact ⟨ok_mono (d := 39) h.1.2.1 (by omega), by omega⟩
theorem partsF_tB {t : T} (h : Wf t) : term_Parts.f (tB t) = some (t.parts.map tB, 0) := by
  unfold term_Parts.f partsF
  rw [if_pos (by have := tB_size h; omega), show bytes (tB t) = enc t from bytes_ofBytes _, termOf_enc h]
  rfl
theorem tB_code (t : T) : ∀ h : 0 < (tB t).size, ((tB t)[0]'h).toNat = t.code.toNat := by
  obtain ⟨l, hl⟩ := enc_code t
  have hb0 : bytes (tB t) = t.code :: l := by rw [← hl]; exact bytes_ofBytes _
  exact fun h => by rw [(bytes_cons hb0).2.2.1 h]
theorem tB_pos (t : T) : 0 < (tB t).size := by unfold tB; rw [size_ofBytes]; exact enc_pos t
/-- Together, told of bytes. -/
def togB (S : List T) (s : ByteArray) : Bool := match termOf (bytes s) with | some t => tog S t | none => false
theorem togB_tB (S : List T) {t : T} (h : Wf t) : togB S (tB t) = tog S t := by
  unfold togB
  rw [show bytes (tB t) = enc t from bytes_ofBytes _, termOf_enc h]

def TogC (t : T) : Prop := ∀ (S : List T) (b : Nat) (w : World), HadAt w b S → Wf t →
  Calls Try.prog 44 #[.map (some b), .string (tB t)] w fun e w' => e = .returned (.bool (tog S t)) ∧ Below w.heap.size w w'

theorem tog1_any (t : T) (ht : TogC t) (hw : Wf t) (S : List T) (b x : Nat) (w : World) (hS : HadAt w b S) (hx : w.cell? ⟨x, 0, none⟩ = some (.map (some b))) :
    Calls Try.prog 66 #[.string (tB t), .pointer (some ⟨x, 0, none⟩)] w fun e w' => e = .returned (.bool (!tog S t)) ∧ Below w.heap.size w w' := by
  have HT := Lib.hid (ht S b w hS hw)
  clear ht hS hw
  go_enter Try.func66, Try.ntmps66
  go_wp2_with fail
  refine HT.out.mono ?_
  rintro e w5 ⟨rfl, hb⟩
  have HB := Lib.hid hb
  clear hb HT
  go_wp2
  go_ret
  exact ⟨rfl, HB.out⟩

theorem below_box {w w1 : World} {o : Obj} (h : Below (w.alloc o).heap.size (w.alloc o) w1) : Below w.heap.size w w1 := ((Below.refl _ w).alloc (Nat.le_refl _) o).trans (h.mono (by simp))

theorem tog_parts {S : List T} {t : T} (hw : Wf t) (hc : S.contains t = false) (h97 : t.code.toNat ≠ 97) (h116 : t.code.toNat ≠ 116) : tog S t = !((t.parts.map tB).any fun s => !togB S s) := by
  have hz : ∀ a ∈ t.parts, togB S (tB a) = tog S a := fun a ha => togB_tB S (wf_parts hw ha)
  cases t with
  | atom n => exact absurd rfl h97
  | text n => exact absurd rfl h116
  | one k a =>
    simp only [tog, hc, Bool.false_or, T.parts, List.map_cons, List.map_nil, List.any_cons, List.any_nil, Bool.or_false]
    rw [hz a (by simp [T.parts])]
    simp
  | two k a c =>
    simp only [tog, hc, Bool.false_or, T.parts, List.map_cons, List.map_nil, List.any_cons, List.any_nil, Bool.or_false]
    rw [hz a (by simp [T.parts]), hz c (by simp [T.parts])]
    simp

theorem tog_has (t : T) (S : List T) (b : Nat) (w : World) (hS : HadAt w b S) (hw : Wf t) (hc : S.contains t = true) :
    Calls Try.prog 44 #[.map (some b), .string (tB t)] w fun e w' => e = .returned (.bool true) ∧ Below w.heap.size w w' := by
  have HH := Lib.hid (fun W (h : HadAt W b S) => has_any b S t W h hw)
  rw [hc] at HH
  have HS := Lib.hid hS
  clear hc hS hw
  generalize tB t = s at *
  go_enter Try.func44, Try.ntmps44
  go_wp2_with fail
  refine (HH.out _ (HS.out.below ((Below.refl _ _).alloc (Nat.le_refl _) _))).mono ?_
  rintro e w5 ⟨rfl, hb⟩
  have HB := Lib.hid (below_box hb)
  clear hb HH HS
  go_wp2
  go_ret
  exact ⟨rfl, HB.out⟩
theorem tog_text (t : T) (S : List T) (b : Nat) (w : World) (hS : HadAt w b S) (hw : Wf t) (hc : S.contains t = false) (h116 : t.code.toNat = 116) :
    Calls Try.prog 44 #[.map (some b), .string (tB t)] w fun e w' => e = .returned (.bool true) ∧ Below w.heap.size w w' := by
  have HH := Lib.hid (fun W (h : HadAt W b S) => has_any b S t W h hw)
  rw [hc] at HH
  have HS := Lib.hid hS
  have hby := tB_code t
  have hpos := tB_pos t
  rw [h116] at hby
  clear hc hS hw h116
  generalize tB t = s at *
  go_enter Try.func44, Try.ntmps44
  go_wp2_with fail
  refine (HH.out _ (HS.out.below ((Below.refl _ _).alloc (Nat.le_refl _) _))).mono ?_
  rintro e w5 ⟨rfl, hb⟩
  have HB := Lib.hid (below_box hb)
  clear hb HH HS
  go_wp2
  go_ret
  exact ⟨rfl, HB.out⟩
theorem tog_atom (t : T) (S : List T) (b : Nat) (w : World) (hS : HadAt w b S) (hw : Wf t) (hc : S.contains t = false) (h97 : t.code.toNat = 97) :
    Calls Try.prog 44 #[.map (some b), .string (tB t)] w fun e w' => e = .returned (.bool false) ∧ Below w.heap.size w w' := by
  have HH := Lib.hid (fun W (h : HadAt W b S) => has_any b S t W h hw)
  rw [hc] at HH
  have HS := Lib.hid hS
  have HP := Lib.hid (partsF_tB hw)
  have hby := tB_code t
  have hpos := tB_pos t
  rw [h97] at hby
  clear hc hS hw h97
  generalize t.parts.map tB = l at *
  generalize tB t = s at *
  go_enter Try.func44, Try.ntmps44
  go_wp2_with fail
  refine (HH.out _ (HS.out.below ((Below.refl _ _).alloc (Nat.le_refl _) _))).mono ?_
  rintro e w5 ⟨rfl, hb⟩
  have HB := Lib.hid (below_box hb)
  clear hb HH HS
  go_wp2_with fail
  refine (term_Parts.calls s l 0 _ HP.out).mono ?_
  rintro e w6 ⟨v0, rfl, hR, hb⟩
  have HB6 := Lib.hid (HB.out.trans (hb.mono HB.out.size))
  clear hb hR HB HP
  go_wp2
  go_ret
  exact ⟨rfl, HB6.out⟩
theorem tog_all (t : T) (hp : ∀ a ∈ t.parts, TogC a) (S : List T) (b : Nat) (w : World) (hS : HadAt w b S) (hw : Wf t) (hc : S.contains t = false) (h97 : t.code.toNat ≠ 97) (h116 : t.code.toNat ≠ 116) :
    Calls Try.prog 44 #[.map (some b), .string (tB t)] w fun e w' => e = .returned (.bool (!((t.parts.map tB).any fun s => !togB S s))) ∧ Below w.heap.size w w' := by
  have HH := Lib.hid (fun W (h : HadAt W b S) => has_any b S t W h hw)
  rw [hc] at HH
  have HS := Lib.hid hS
  have HP := Lib.hid (partsF_tB hw)
  have hby := tB_code t
  have hpos := tB_pos t
  have hlen : (t.parts.map tB).length ≤ 1000000 := by cases t <;> simp [T.parts]
  have HC := Lib.hid (fun x W (h : HadAt W b S) (hx : W.cell? ⟨x, 0, none⟩ = some (.map (some b))) A cap (hcl : ∀ k (hk : k < (t.parts.map tB).length), ∃ ad, A = some ad ∧ W.cell? (ad.add k) = some (.string (t.parts.map tB)[k])) =>
    contains_any A (t.parts.map tB) cap x (fun s => !togB S s) W hlen hcl (fun s hs W' hb => by
      obtain ⟨a, ha, rfl⟩ := List.mem_map.1 hs
      have := tog1_any a (hp a ha) (wf_parts hw ha) S b x W' (h.below hb) (pw_cell_below hb hx)
      rw [← togB_tB S (wf_parts hw ha)] at this
      exact this))
  have hb97 : ((t.code.toNat : Int) != 97) = true := bne_iff_ne.mpr (by omega)
  have hb116 : ((t.code.toNat : Int) == 116) = false := beq_eq_false_iff_ne.mpr (by omega)
  generalize hgc : t.code.toNat = c at *
  generalize t.parts.map tB = l at *
  generalize (l.any fun s => !togB S s) = res at *
  generalize tB t = s at *
  clear hc hS hw h97 h116 hgc hp hlen
  go_enter Try.func44, Try.ntmps44
  go_wp2_with fail
  refine (HH.out _ (HS.out.below ((Below.refl _ _).alloc (Nat.le_refl _) _))).mono ?_
  rintro e w5 ⟨rfl, hb⟩
  have HB := Lib.hid (And.intro (below_box hb) hb)
  clear hb HH
  go_wp2_with fail
  refine (term_Parts.calls s l 0 _ HP.out).mono ?_
  rintro e w6 ⟨v0, rfl, hR, hb⟩
  obtain ⟨A, cap, rfl⟩ := Kd.R_slice hR
  have HR := Lib.hid hR
  have HB6 := Lib.hid (And.intro (HB.out.1.trans (hb.mono HB.out.1.size)) (HB.out.2.trans (hb.mono HB.out.2.size)))
  clear hb hR HB HP
  go_wp2_with fail
  refine (HC.out w.heap.size w6 (HS.out.below HB6.out.1) (pw_cell_below HB6.out.2 (by simp)) A cap (fun k hk => readsC (Kd.R_reads' HR.out).2.2 hk)).mono ?_
  rintro e w7 ⟨rfl, hb⟩
  have HB7 := Lib.hid (HB6.out.1.trans (hb.mono HB6.out.1.size))
  clear hb HR HB6 HC HS
  go_wp2
  go_ret
  exact ⟨rfl, HB7.out⟩

theorem tog_step (t : T) (hp : ∀ a ∈ t.parts, TogC a) : TogC t := by
  intro S b w hS hw
  by_cases hc : S.contains t = true
  · rw [show tog S t = true from by cases t <;> simp only [tog, hc, Bool.true_or]]
    exact tog_has t S b w hS hw hc
  have hc : S.contains t = false := by simpa using hc
  by_cases h97 : t.code.toNat = 97
  · have : tog S t = false := by
      cases t with
      | atom n => exact hc
      | text n => exact absurd h97 (show ¬ (116 : UInt8).toNat = 97 by decide)
      | one k a => exact absurd h97 (show ¬ k.code.toNat = 97 by cases k <;> decide)
      | two k a c => exact absurd h97 (show ¬ k.code.toNat = 97 by cases k <;> decide)
    rw [this]
    exact tog_atom t S b w hS hw hc h97
  by_cases h116 : t.code.toNat = 116
  · have : tog S t = true := by
      cases t with
      | atom n => exact absurd rfl h97
      | text n => rfl
      | one k a => exact absurd h116 (show ¬ k.code.toNat = 116 by cases k <;> decide)
      | two k a c => exact absurd h116 (show ¬ k.code.toNat = 116 by cases k <;> decide)
    rw [this]
    exact tog_text t S b w hS hw hc h116
  rw [tog_parts hw hc h97 h116]
  exact tog_all t hp S b w hS hw hc h97 h116
theorem tog_any (t : T) : TogC t := by
  induction t with
  | atom n => exact tog_step _ (fun a ha => by simp [T.parts] at ha)
  | text n => exact tog_step _ (fun a ha => by simp [T.parts] at ha)
  | one k a ih => exact tog_step _ (fun x hx => by simp only [T.parts, List.mem_singleton] at hx; rw [hx]; exact ih)
  | two k a c iha ihc =>
    refine tog_step _ (fun x hx => ?_)
    simp only [T.parts, List.mem_cons, List.not_mem_nil, or_false] at hx
    rcases hx with rfl | rfl
    · exact iha
    · exact ihc

end Go.Proofs.Ytnieihhnchefdaa
