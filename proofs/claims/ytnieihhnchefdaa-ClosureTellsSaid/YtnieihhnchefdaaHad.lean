/- The contracts of closure's inner functions: has, together, gives. -/
import Derived.Test.YtnieihhnchefdaaWWords
import Derived.Test.YtnieihhnchefdaaBytes
import Derived.WalkKit
import Derived.OwnWalk
import Derived.Lib.Hide
import Derived.LoopTactic
import Derived.LoopTactic
import Derived.LoopTactic
import Derived.Test.YtnieihhnchefdaaHadMap
import Derived.Maps.OwnOps
import Derived.StringKeys
namespace Go.Proofs.Ytnieihhnchefdaa
open Go.RowKit Go.Maps Go.Proofs.YtnieihhnchefdaaW.PrintWords
set_option linter.unusedVariables false

def tB (t : T) : ByteArray := ofBytes (enc t)
theorem tB_size {t : T} (h : Wf t) : (tB t).size ≤ 4000 := by unfold tB; rw [size_ofBytes]; exact h.2
theorem tB_data (t : T) : (tB t).data.toList = enc t := bytes_ofBytes _
theorem tB_key {t : T} (h : Wf t) : keyOf Try.prog 9 (.string (tB t)) = some (.string (enc t)) := by
  have := Go.WideMaps.keyOf_string_mk Try.underlying9 (s := tB t) (by have := tB_size h; unfold maxLen; omega)
  rwa [tB_data] at this
theorem zeroUnit (w : World) : (zeroValue 64).run Try.prog w = .ok (.agg #[]) w := by kernel_rfl

theorem has_any (b : Nat) (S : List T) (t : T) (w : World) (hS : HadAt w b S) (ht : Wf t) :
    Calls Try.prog 63 #[.map (some b), .string (tB t)] w fun e w' => e = .returned (.bool (S.contains t)) ∧ Below w.heap.size w w' := by
  obtain ⟨D, hown, hD⟩ := hS
  have hk := tB_key ht
  have hh := hadD_has hD ht
  rw [← hh]
  clear hh hD
  go_enter Try.func63, Try.ntmps63
  go_wp2_with (first
    | (at_lookup; refine wpList_lookup_own_unit _ rfl _ _ 56 rfl 9 64 hadLaw Try.underlying56 (zeroUnit _) b S.length D rfl hown _ _ rfl hk ?_)
    | go_in)
  go_ret
  exact ⟨rfl, (Below.refl _ _).alloc (Nat.le_refl _) _⟩

/-! ### slices.ContainsFunc, with together's function -/
def firstAt (p : ByteArray → Bool) (l : List ByteArray) : Int := match l.findIdx? p with | some i => i | none => -1
theorem index_any (A : Option Addr) (l : List ByteArray) (cap x : Nat) (p : ByteArray → Bool) (w : World) (hlen : l.length ≤ 1000000)
    (hc : ∀ k (hk : k < l.length), ∃ ad, A = some ad ∧ w.cell? (ad.add k) = some (.string l[k]))
    (hf : ∀ s ∈ l, ∀ W, Below w.heap.size w W → Calls Try.prog 66 #[.string s, .pointer (some ⟨x, 0, none⟩)] W fun e w' => e = .returned (.bool (p s)) ∧ Below W.heap.size W w') :
    Calls Try.prog 85 #[.slice A l.length cap, .func (.func 66) #[] #[.pointer (some ⟨x, 0, none⟩)]] w fun e w' => e = .returned (.int .i64 (firstAt p l)) ∧ Below w.heap.size w w' := by
  have HC := Lib.hid hc
  have HF := Lib.hid hf
  clear hc hf
  go_enter Try.func85, Try.ntmps85
  go_wp2_with fail
  go_loopw [8] (fun i wr => ∃ k : Nat, k ≤ l.length ∧ i = .int .i64 k ∧ (∀ j (hj : j < l.length), j < k → p l[j] = false) ∧ Below w.heap.size w wr ∧ w.heap.size ≤ wr.heap.size) (fun i _ => 1000001 - (intOf i).toNat)
  case atStart => exact ⟨0, by omega, rfl, fun j hj h => by omega, Below.refl _ _, Nat.le_refl _⟩
  case round =>
    obtain ⟨k, hk, rfl, hno, hb⟩ := hrel
    have HN := Lib.hid hno
    have HB := Lib.hid hb
    clear hno hb
    by_cases hlt : k < l.length
    · obtain ⟨ad, rfl, hcell⟩ := HC.out k hlt
      have hcw := pw_cell_below HB.out.1 hcell
      clear hcell
      have hlt2 : (k : Int) < (l.length : Int) := by omega
      cases hp : p l[k] with
      | true =>
        have hv : firstAt p l = (k : Int) := by
          unfold firstAt
          rw [List.findIdx?_eq_some_iff_getElem.2 ⟨hlt, hp, fun j hj => by rw [HN.out j (by omega) hj]; simp⟩]
        have HV := Lib.hid hv
        generalize hs : l[k] = s at hcw hp
        have hm : s ∈ l := by rw [← hs]; exact List.getElem_mem hlt
        have HM := Lib.hid (HF.out s hm)
        rw [hp] at HM
        clear hv hm HF HC HN hs hp
        go_wp2_with fail
        refine (HM.out _ HB.out.1).mono ?_
        rintro e w5 ⟨rfl, hb⟩
        have HB5 := Lib.hid (HB.out.1.trans (hb.mono HB.out.2))
        clear hb HM HB hcw
        go_wp2
        go_ret
        exact ⟨by rw [HV.out]; rfl, HB5.out⟩
      | false =>
        have HN2 := Lib.hid (show ∀ j (hj : j < l.length), j < k + 1 → p l[j] = false from fun j hj h => by
          by_cases e : j = k
          · subst e; exact hp
          · exact HN.out j hj (by omega))
        generalize hs : l[k] = s at hcw hp
        have hm : s ∈ l := by rw [← hs]; exact List.getElem_mem hlt
        have HM := Lib.hid (HF.out s hm)
        rw [hp] at HM
        clear hm HN hs hp
        go_wp2_with fail
        refine (HM.out _ HB.out.1).mono ?_
        rintro e w5 ⟨rfl, hb⟩
        have HB5 := Lib.hid (And.intro (HB.out.1.trans (hb.mono HB.out.2)) (Nat.le_trans HB.out.2 hb.size))
        clear hb HM HB hcw
        go_wp2
        go_roundw
        case rel => exact ⟨k + 1, by omega, by go_num, HN2.out, HB5.out⟩
        case measure => simp [intOf]; omega
    · have hv : firstAt p l = -1 := by
        unfold firstAt
        rw [List.findIdx?_eq_none_iff.2 fun x hx => by
          obtain ⟨j, hj, rfl⟩ := List.getElem_of_mem hx
          exact HN.out j hj (by omega)]
      have HV := Lib.hid hv
      have hlt2 : (l.length : Int) ≤ (k : Int) := by omega
      clear hv HN HF HC
      go_wp2
      go_ret
      exact ⟨by rw [HV.out]; rfl, HB.out.1⟩
theorem firstAt_any (p : ByteArray → Bool) (l : List ByteArray) : decide (0 ≤ firstAt p l) = l.any p := by
  unfold firstAt
  cases h : l.findIdx? p with
  | none =>
    have := List.findIdx?_eq_none_iff.1 h
    rw [List.any_eq_false.2 fun x hx => by rw [this x hx]; simp]
    rfl
  | some i =>
    obtain ⟨hi, hp, _⟩ := List.findIdx?_eq_some_iff_getElem.1 h
    rw [List.any_eq_true.2 ⟨_, List.getElem_mem hi, hp⟩]
    simp
theorem contains_any (A : Option Addr) (l : List ByteArray) (cap x : Nat) (p : ByteArray → Bool) (w : World) (hlen : l.length ≤ 1000000)
    (hc : ∀ k (hk : k < l.length), ∃ ad, A = some ad ∧ w.cell? (ad.add k) = some (.string l[k]))
    (hf : ∀ s ∈ l, ∀ W, Below w.heap.size w W → Calls Try.prog 66 #[.string s, .pointer (some ⟨x, 0, none⟩)] W fun e w' => e = .returned (.bool (p s)) ∧ Below W.heap.size W w') :
    Calls Try.prog 65 #[.slice A l.length cap, .func (.func 66) #[] #[.pointer (some ⟨x, 0, none⟩)]] w fun e w' => e = .returned (.bool (l.any p)) ∧ Below w.heap.size w w' := by
  have HI := Lib.hid (index_any A l cap x p w hlen hc hf)
  have ha := firstAt_any p l
  generalize firstAt p l = n at HI ha
  rw [← ha]
  clear hc hf ha
  go_enter Try.func65, Try.ntmps65
  go_wp2_with fail
  refine HI.out.mono ?_
  rintro e w5 ⟨rfl, hb⟩
  have HB := Lib.hid hb
  clear hb HI
  go_wp2
  go_ret
  exact ⟨rfl, HB.out⟩

end Go.Proofs.Ytnieihhnchefdaa
