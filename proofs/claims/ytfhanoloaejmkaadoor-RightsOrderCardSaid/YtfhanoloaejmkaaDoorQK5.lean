/- Contracts and laws that the statement of LawRightsOrder leans on (packed from this claim's own texts): part 5. -/
import Derived.WalkKit
import Derived.WalkLawsBesides
import Derived.WalkSpells
import Derived.Below
import Derived.Lib.Hide
import Derived.Test.YtfhanoloaejmkaaDoorQK1
import Derived.Test.YtfhanoloaejmkaaDoorQK2
import Derived.Test.YtfhanoloaejmkaaDoorQK3
import Derived.Test.YtfhanoloaejmkaaDoorQK4
section

namespace Go.Proofs.YtfhanoloaejmkaaDoor
open Go.RowKit Go.Proofs.YtfhanoloaejmkaaDoorW.PrintWords
set_option linter.unusedVariables false
def joinB (l : List ByteArray) : ByteArray := ofBytes (l.flatMap bytes)
def wire_join.f (l0 : List ByteArray) : Option ByteArray :=
  if l0.length ≤ 140737488355328 ∧ (joinB l0).size ≤ 140737488355328 then some (joinB l0) else none
theorem join_flat (l : List ByteArray) : Lib.join (l.map (·.data.toList)) (⟨#[]⟩ : ByteArray).data.toList = l.flatMap bytes := by
  cases l with
  | nil => rfl
  | cons x l =>
    rw [List.map_cons, Lib.join_cons]
    have h : (⟨#[]⟩ : ByteArray).data.toList = [] := rfl
    rw [h]
    unfold Lib.joinTail
    rw [List.flatMap_cons, List.flatMap_def, List.map_map]
    show _ = x.data.toList ++ _
    congr 2
theorem add_at (b o j : Nat) : (⟨b, o, none⟩ : Addr).add j = ⟨b, o + j, none⟩ := by
  unfold Addr.add
  split <;> simp_all
theorem spot_none {w : World} {b o : Nat} {sp : Option Nat} {v : Value} (h : w.cell? ⟨b, o, sp⟩ = some v) : sp = none := by
  unfold World.cell? at h
  split at h
  · cases sp with
    | none => rfl
    | some x => simp at h
  · exact absurd h (by simp)
theorem join_any (A : Option Addr) (c : Nat) (l : List ByteArray) (w : World) (hr : Kd.C Kd.string w A l.length l) (hc : l.length ≤ c) (h1 : l.length ≤ 140737488355328) (h2 : (joinB l).size ≤ 140737488355328) :
    Calls Tryd.prog 76 #[.slice A l.length c, .string ⟨#[]⟩] w fun e w' => e = .returned (.string (joinB l)) ∧ Below w.heap.size w w' := by
  rcases Nat.eq_zero_or_pos l.length with h0 | h0
  · obtain rfl : l = [] := List.eq_nil_of_length_eq_zero h0
    refine (Tryd.strings_Join_none A c _ w).mono ?_
    rintro e w' ⟨rfl, rfl⟩
    exact ⟨rfl, Below.refl _ _⟩
  · obtain ⟨ad, rfl, hcells⟩ := hr.2.2 h0
    obtain ⟨b, o, sp⟩ := ad
    have hcell : ∀ (j : Nat) x, l[j]? = some x → w.cell? ((⟨b, o, sp⟩ : Addr).add j) = some (.string x) := by
      intro j x hx
      obtain ⟨cs, hl, rfl, hz⟩ := hcells j x hx
      have := hz 0 (.string x) rfl
      rwa [show j * Kd.string.sz + 0 = j from by simp [Kd.string, Kd.scalar]] at this
    have hsp : sp = none := by
      have := hcell 0 l[0] (List.getElem?_eq_getElem h0)
      rw [show (⟨b, o, sp⟩ : Addr).add 0 = ⟨b, o, sp⟩ from rfl] at this
      exact spot_none this
    subst hsp
    have h3 := Tryd.strings_Join b o c l (⟨#[]⟩ : ByteArray) w ?_ ?_ h1 hc ?_
    · rw [join_flat] at h3
      exact h3
    · intro j x hx
      have := hcell j x hx
      rwa [add_at] at this
    · have := hcell 0 l[0] (List.getElem?_eq_getElem h0)
      rw [add_at] at this
      exact World.block_lt_of_cell? w _ this
    · rw [join_flat]
      rwa [joinB, size_ofBytes] at h2
theorem wire_join.calls (A0 : Option Addr) (c0 : Nat) (l0 : List ByteArray) (r : ByteArray) (w : World) (hr0 : Kd.C Kd.string w A0 l0.length l0) (hc0 : l0.length ≤ c0) (h : wire_join.f l0 = some r) :
    Calls Tryd.prog 62 #[.slice A0 l0.length c0] w fun e w' => e = .returned (.string r) ∧ Below w.heap.size w w' := by
  unfold wire_join.f at h
  split at h
  · rename_i hsz
    obtain ⟨h1, h2⟩ := hsz
    obtain rfl := Option.some.inj h
    have H := Lib.hid (join_any A0 c0 l0 w hr0 hc0 h1 h2)
    clear hr0 hc0 h h1 h2
    go_enter Tryd.func62, Tryd.ntmps62
    go_wp2_with fail
    refine (H.out).mono ?_
    rintro e w' ⟨rfl, hb⟩
    have HB := Lib.hid hb
    clear hb
    go_wp2
    go_ret
    exact ⟨rfl, HB.out⟩
  · exact absurd h (by simp)
end Go.Proofs.YtfhanoloaejmkaaDoor
end
section

namespace Go.Proofs.YtfhanoloaejmkaaDoor
open Go.RowKit Go.Proofs.YtfhanoloaejmkaaDoorW.PrintWords
set_option linter.unusedVariables false
set_option linter.unusedSimpArgs false
theorem less_lt : ∀ (x y : List UInt8), Op.bytesLess x y = decide (x < y)
  | [], [] => by simp [Op.bytesLess]
  | _ :: _, [] => by simp [Op.bytesLess]
  | [], _ :: _ => by simp [Op.bytesLess]
  | a :: x, b :: y => by
    rw [Op.bytesLess, less_lt x y]
    by_cases h1 : a < b
    · simp [h1, List.cons_lt_cons_iff]
    · by_cases h2 : a = b
      · subst h2; simp
      · have h3 : (a == b) = false := beq_eq_false_iff_ne.mpr h2
        simp [h1, h2, List.cons_lt_cons_iff]
theorem lessB (a b : ByteArray) : Op.bytesLess a.toList b.toList = ltB a b := by
  rw [less_lt, bytes_toList, bytes_toList]; rfl
theorem rowC {w : World} {A : Option Addr} {l : List ByteArray} (h : Kd.C Kd.string w A l.length l) (h0 : 0 < l.length) : ∃ b o, A = some ⟨b, o, none⟩ ∧ ∀ j, j < l.length → w.cell? ⟨b, o + j, none⟩ = some (.string (nth l j)) := by
  obtain ⟨ad, rfl, hcells⟩ := h.2.2 h0
  obtain ⟨b, o, sp⟩ := ad
  have hcell : ∀ (j : Nat) x, l[j]? = some x → w.cell? ((⟨b, o, sp⟩ : Addr).add j) = some (.string x) := by
    intro j x hx
    obtain ⟨cs, hl, rfl, hz⟩ := hcells j x hx
    have := hz 0 (.string x) rfl
    rwa [show j * Kd.string.sz + 0 = j from by simp [Kd.string, Kd.scalar]] at this
  have hsp : sp = none := by
    have := hcell 0 l[0] (List.getElem?_eq_getElem h0)
    rw [show (⟨b, o, sp⟩ : Addr).add 0 = ⟨b, o, sp⟩ from rfl] at this
    exact spot_none this
  subst hsp
  refine ⟨b, o, rfl, fun j hj => ?_⟩
  have := hcell j l[j] (List.getElem?_eq_getElem hj)
  rw [add_at] at this
  rw [this, nth_get hj]
theorem search_any (A : Option Addr) (c : Nat) (l : List ByteArray) (x : ByteArray) (w : World) (hr : Kd.C Kd.string w A l.length l) (hl : l.length < 4611686018427387904) :
    Calls Tryd.prog 56 #[.slice A l.length c, .string x] w fun e w' => e = .returned (.tuple #[.int .i64 (searchN l x : Nat), .bool (searchB l x)]) ∧ Drawn0 w w' := by
  rcases Nat.eq_zero_or_pos l.length with h0 | h0
  · obtain rfl : l = [] := List.eq_nil_of_length_eq_zero h0
    refine (Any2.slices_BinarySearch_string_empty Tryd.lays2_26 A c x w).mono ?_
    rintro e w' ⟨rfl, rfl⟩
    exact ⟨rfl, Drawn0.refl _⟩
  · obtain ⟨b, o, rfl, hc⟩ := rowC hr h0
    refine (Any2.slices_BinarySearch_string Tryd.lays2_26 b o l.length c (nth l) x w hl hc).mono ?_
    rintro e w' ⟨rfl, hw⟩
    have e1 : (fun t => Op.bytesLess (nth l t).toList x.toList) = fun t => ltB (nth l t) x := funext fun t => lessB _ _
    rw [e1]
    exact ⟨rfl, ⟨hw⟩⟩
def rights_place.f (l : List ByteArray) (x : ByteArray) : Option (Int × Bool) := if l.length ≤ 140737488355328 then some ((searchN l x : Nat), searchB l x) else none
theorem rights_place.calls (A0 : Option Addr) (c0 : Nat) (l0 : List ByteArray) (a1 : ByteArray) (r1 : Int) (r2 : Bool) (w : World) (hr0 : Kd.C Kd.string w A0 l0.length l0) (hc0 : l0.length ≤ c0) (h : rights_place.f l0 a1 = some (r1, r2)) :
    Calls Tryd.prog 34 #[.slice A0 l0.length c0, .string a1] w fun e w' => e = .returned (.tuple #[.int .i64 r1, .bool r2]) ∧ Below w.heap.size w w' := by
  unfold rights_place.f at h
  split at h
  · rename_i hsz
    simp only [Option.some.injEq, Prod.mk.injEq] at h
    obtain ⟨rfl, rfl⟩ := h
    have H := Lib.hid (search_any A0 c0 l0 a1 w hr0 (by omega))
    generalize searchN l0 a1 = N at H ⊢
    generalize searchB l0 a1 = R at H ⊢
    clear hr0 hc0 hsz
    go_enter Tryd.func34, Tryd.ntmps34
    go_wp2_with fail
    refine (H.out).mono ?_
    rintro e w' ⟨rfl, hb⟩
    have HB := Lib.hid hb.below
    clear hb
    go_wp2
    go_ret2
    exact ⟨rfl, HB.out⟩
  · exact absurd h (by simp)
end Go.Proofs.YtfhanoloaejmkaaDoor
end
section

namespace Go.Proofs.YtfhanoloaejmkaaDoor
open Go.RowKit Go.Proofs.YtfhanoloaejmkaaDoorW.PrintWords
set_option linter.unusedVariables false
def bits_Len64.f (a0 : Int) : Option Int := if 0 ≤ a0 ∧ a0 ≤ 18446744073709551615 then some (Lib.bitLen a0.toNat) else none
theorem bits_Len64.calls (a0 : Int) (r : Int) (w : World) (h : bits_Len64.f a0 = some r) :
    Calls Tryd.prog 63 #[.int .u64 a0] w fun e w' => e = .returned (.int .i64 r) ∧ Drawn0 w w' := by
  unfold bits_Len64.f at h
  split at h
  · rename_i hs
    obtain rfl := Option.some.inj h
    refine (Tryd.bits_Len64 a0 w hs.1 hs.2).mono ?_
    rintro e w' ⟨rfl, rfl⟩
    exact ⟨rfl, Drawn0.refl _⟩
  · exact absurd h (by simp)
end Go.Proofs.YtfhanoloaejmkaaDoor
end
