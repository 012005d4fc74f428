/- The contract of rights.place: where a text stands in a list, by halving. -/
import Derived.Test.YtfhanoloaejmkaaDoorLays
import Derived.Test.YtfhanoloaejmkaaDoorRights
import Derived.Test.YtfhanoloaejmkaaDoorJoin
import Derived.Test.YtfhanoloaejmkaaDoorWWords
import Derived.WalkKit
import Derived.WalkLawsBesides
import Derived.WalkSpells
import Derived.Below
import Derived.Lib.Hide
namespace Go.Proofs.YtfhanoloaejmkaaDoor
open Go.RowKit Go.Proofs.YtfhanoloaejmkaaDoorW.PrintWords
set_option linter.unusedVariables false
set_option linter.unusedSimpArgs false

theorem less_lt : ∀ (x y : List UInt8), Op.bytesLess x y = decide (x < y)
  | [], [] => by simp [Op.bytesLess]
  | _ :: _, [] => by simp [Op.bytesLess]
  | [], _ :: _ => by simp [Op.bytesLess]
  | a :: x, b :: y => by
    rw [Op.bytesLess, less_lt x y]
    by_cases h1 : a < b
    · simp [h1, List.cons_lt_cons_iff]
    · by_cases h2 : a = b
      · subst h2; simp
      · have h3 : (a == b) = false := beq_eq_false_iff_ne.mpr h2
        simp [h1, h2, List.cons_lt_cons_iff]
theorem lessB (a b : ByteArray) : Op.bytesLess a.toList b.toList = ltB a b := by
  rw [less_lt, bytes_toList, bytes_toList]; rfl
/-- A row of texts that is read: its cells, at a plain address. -/
theorem rowC {w : World} {A : Option Addr} {l : List ByteArray} (h : Kd.C Kd.string w A l.length l) (h0 : 0 < l.length) : ∃ b o, A = some ⟨b, o, none⟩ ∧ ∀ j, j < l.length → w.cell? ⟨b, o + j, none⟩ = some (.string (nth l j)) := by
  obtain ⟨ad, rfl, hcells⟩ := h.2.2 h0
  obtain ⟨b, o, sp⟩ := ad
  have hcell : ∀ (j : Nat) x, l[j]? = some x → w.cell? ((⟨b, o, sp⟩ : Addr).add j) = some (.string x) := by
    intro j x hx
    obtain ⟨cs, hl, rfl, hz⟩ := hcells j x hx
    have := hz 0 (.string x) rfl
    rwa [show j * Kd.string.sz + 0 = j from by simp [Kd.string, Kd.scalar]] at this
  have hsp : sp = none := by
    have := hcell 0 l[0] (List.getElem?_eq_getElem h0)
    rw [show (⟨b, o, sp⟩ : Addr).add 0 = ⟨b, o, sp⟩ from rfl] at this
    exact spot_none this
  subst hsp
  refine ⟨b, o, rfl, fun j hj => ?_⟩
  have := hcell j l[j] (List.getElem?_eq_getElem hj)
  rw [add_at] at this
  rw [this, nth_get hj]

theorem search_any (A : Option Addr) (c : Nat) (l : List ByteArray) (x : ByteArray) (w : World) (hr : Kd.C Kd.string w A l.length l) (hl : l.length < 4611686018427387904) :
    Calls Tryd.prog 56 #[.slice A l.length c, .string x] w fun e w' => e = .returned (.tuple #[.int .i64 (searchN l x : Nat), .bool (searchB l x)]) ∧ Drawn0 w w' := by
  rcases Nat.eq_zero_or_pos l.length with h0 | h0
  · obtain rfl : l = [] := List.eq_nil_of_length_eq_zero h0
    refine (Any2.slices_BinarySearch_string_empty Tryd.lays2_26 A c x w).mono ?_
    rintro e w' ⟨rfl, rfl⟩
    exact ⟨rfl, Drawn0.refl _⟩
  · obtain ⟨b, o, rfl, hc⟩ := rowC hr h0
    refine (Any2.slices_BinarySearch_string Tryd.lays2_26 b o l.length c (nth l) x w hl hc).mono ?_
    rintro e w' ⟨rfl, hw⟩
    have e1 : (fun t => Op.bytesLess (nth l t).toList x.toList) = fun t => ltB (nth l t) x := funext fun t => lessB _ _
    rw [e1]
    exact ⟨rfl, ⟨hw⟩⟩

def rights_place.f (l : List ByteArray) (x : ByteArray) : Option (Int × Bool) := if l.length ≤ 140737488355328 then some ((searchN l x : Nat), searchB l x) else none
theorem rights_place.calls (A0 : Option Addr) (c0 : Nat) (l0 : List ByteArray) (a1 : ByteArray) (r1 : Int) (r2 : Bool) (w : World) (hr0 : Kd.C Kd.string w A0 l0.length l0) (hc0 : l0.length ≤ c0) (h : rights_place.f l0 a1 = some (r1, r2)) :
    Calls Tryd.prog 34 #[.slice A0 l0.length c0, .string a1] w fun e w' => e = .returned (.tuple #[.int .i64 r1, .bool r2]) ∧ Below w.heap.size w w' := by
  unfold rights_place.f at h
  split at h
  · rename_i hsz
    simp only [Option.some.injEq, Prod.mk.injEq] at h
    obtain ⟨rfl, rfl⟩ := h
    have H := Lib.hid (search_any A0 c0 l0 a1 w hr0 (by omega))
    generalize searchN l0 a1 = N at H ⊢
    generalize searchB l0 a1 = R at H ⊢
    clear hr0 hc0 hsz
    go_enter Tryd.func34, Tryd.ntmps34
    go_wp2_with fail
    refine (H.out).mono ?_
    rintro e w' ⟨rfl, hb⟩
    have HB := Lib.hid hb.below
    clear hb
    go_wp2
    go_ret2
    exact ⟨rfl, HB.out⟩
  · exact absurd h (by simp)

end Go.Proofs.YtfhanoloaejmkaaDoor
