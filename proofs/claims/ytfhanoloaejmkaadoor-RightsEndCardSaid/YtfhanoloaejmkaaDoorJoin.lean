/- The contract of wire.join: the texts one behind the other. -/
import Derived.Test.YtfhanoloaejmkaaDoorShelf
import Derived.Test.YtfhanoloaejmkaaDoorBytes
import Derived.Test.YtfhanoloaejmkaaDoorWWords
import Derived.WalkKit
import Derived.WalkLawsBesides
import Derived.WalkSpells
import Derived.Below
import Derived.Lib.Hide
namespace Go.Proofs.YtfhanoloaejmkaaDoor
open Go.RowKit Go.Proofs.YtfhanoloaejmkaaDoorW.PrintWords
set_option linter.unusedVariables false

def joinB (l : List ByteArray) : ByteArray := ofBytes (l.flatMap bytes)
def wire_join.f (l0 : List ByteArray) : Option ByteArray :=
  if l0.length ≤ 140737488355328 ∧ (joinB l0).size ≤ 140737488355328 then some (joinB l0) else none

theorem join_flat (l : List ByteArray) : Lib.join (l.map (·.data.toList)) (⟨#[]⟩ : ByteArray).data.toList = l.flatMap bytes := by
  cases l with
  | nil => rfl
  | cons x l =>
    rw [List.map_cons, Lib.join_cons]
    have h : (⟨#[]⟩ : ByteArray).data.toList = [] := rfl
    rw [h]
    unfold Lib.joinTail
    rw [List.flatMap_cons, List.flatMap_def, List.map_map]
    show _ = x.data.toList ++ _
    congr 2

theorem add_at (b o j : Nat) : (⟨b, o, none⟩ : Addr).add j = ⟨b, o + j, none⟩ := by
  unfold Addr.add
  split <;> simp_all
theorem pw_cell_below' {w w1 : World} (h : Below w.heap.size w w1) {a : Addr} {v : Value} (hc : w.cell? a = some v) : w1.cell? a = some v := (h.cell (World.block_lt_of_cell? w a hc)).trans hc
theorem spot_none {w : World} {b o : Nat} {sp : Option Nat} {v : Value} (h : w.cell? ⟨b, o, sp⟩ = some v) : sp = none := by
  unfold World.cell? at h
  split at h
  · cases sp with
    | none => rfl
    | some x => simp at h
  · exact absurd h (by simp)

theorem join_any (A : Option Addr) (c : Nat) (l : List ByteArray) (w : World) (hr : Kd.C Kd.string w A l.length l) (hc : l.length ≤ c) (h1 : l.length ≤ 140737488355328) (h2 : (joinB l).size ≤ 140737488355328) :
    Calls Tryd.prog 76 #[.slice A l.length c, .string ⟨#[]⟩] w fun e w' => e = .returned (.string (joinB l)) ∧ Below w.heap.size w w' := by
  rcases Nat.eq_zero_or_pos l.length with h0 | h0
  · obtain rfl : l = [] := List.eq_nil_of_length_eq_zero h0
    refine (Tryd.strings_Join_none A c _ w).mono ?_
    rintro e w' ⟨rfl, rfl⟩
    exact ⟨rfl, Below.refl _ _⟩
  · obtain ⟨ad, rfl, hcells⟩ := hr.2.2 h0
    obtain ⟨b, o, sp⟩ := ad
    have hcell : ∀ (j : Nat) x, l[j]? = some x → w.cell? ((⟨b, o, sp⟩ : Addr).add j) = some (.string x) := by
      intro j x hx
      obtain ⟨cs, hl, rfl, hz⟩ := hcells j x hx
      have := hz 0 (.string x) rfl
      rwa [show j * Kd.string.sz + 0 = j from by simp [Kd.string, Kd.scalar]] at this
    have hsp : sp = none := by
      have := hcell 0 l[0] (List.getElem?_eq_getElem h0)
      rw [show (⟨b, o, sp⟩ : Addr).add 0 = ⟨b, o, sp⟩ from rfl] at this
      exact spot_none this
    subst hsp
    have h3 := Tryd.strings_Join b o c l (⟨#[]⟩ : ByteArray) w ?_ ?_ h1 hc ?_
    · rw [join_flat] at h3
      exact h3
    · intro j x hx
      have := hcell j x hx
      rwa [add_at] at this
    · have := hcell 0 l[0] (List.getElem?_eq_getElem h0)
      rw [add_at] at this
      exact World.block_lt_of_cell? w _ this
    · rw [join_flat]
      rwa [joinB, size_ofBytes] at h2

theorem wire_join.calls (A0 : Option Addr) (c0 : Nat) (l0 : List ByteArray) (r : ByteArray) (w : World) (hr0 : Kd.C Kd.string w A0 l0.length l0) (hc0 : l0.length ≤ c0) (h : wire_join.f l0 = some r) :
    Calls Tryd.prog 62 #[.slice A0 l0.length c0] w fun e w' => e = .returned (.string r) ∧ Below w.heap.size w w' := by
  unfold wire_join.f at h
  split at h
  · rename_i hsz
    obtain ⟨h1, h2⟩ := hsz
    obtain rfl := Option.some.inj h
    have H := Lib.hid (join_any A0 c0 l0 w hr0 hc0 h1 h2)
    clear hr0 hc0 h h1 h2
    go_enter Tryd.func62, Tryd.ntmps62
    go_wp2_with fail
    refine (H.out).mono ?_
    rintro e w' ⟨rfl, hb⟩
    have HB := Lib.hid hb
    clear hb
    go_wp2
    go_ret
    exact ⟨rfl, HB.out⟩
  · exact absurd h (by simp)

end Go.Proofs.YtfhanoloaejmkaaDoor
