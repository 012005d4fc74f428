/- How the arguments of the statements are read: numbers of their kinds, rows of bools. -/
import Derived.Test.YtpgbhgpjfjeomaaDraw
import Derived.Deep.Grids
namespace Go.Proofs.Ytpgbhgpjfjeomaa
open Go.ChangeShapes Go.WideShapes Go.RowKit Go.Deep

theorem u64_of {a : Int} (w : (Lit.int .u64 a).wf = true) : ∃ n : Nat, a = n ∧ U64 n := by
  have hx : 0 ≤ a ∧ a ≤ 18446744073709551615 := by simpa [Lit.wf, IntKind.min, IntKind.max, IntKind.signed, IntKind.bits] using w
  exact ⟨a.toNat, by omega, by unfold U64; omega⟩
theorem i64_of {a : Int} (w : (Lit.int .i64 a).wf = true) : -9223372036854775808 ≤ a ∧ a ≤ 9223372036854775807 := by
  simpa [Lit.wf, IntKind.min, IntKind.max, IntKind.signed, IntKind.bits] using w
theorem bools_of {H : Type} {enc : TypeId × Value → H} {P : Program} {W : World} {t e : TypeId} {A : Option Addr} {len cap : Nat} {d : DataW H} {ps : List MemPlace}
    (ht : P.underlying t = some (.slice e)) (he : P.underlying e = some .bool) (hc : P.cellsOf e = 1) (h : DataW.Trod enc P W 0 (fun _ => true) true t (.slice A len cap) d ps) :
    ∃ (_ : len ≤ 9223372036854775807) (bs : Nat → Bool), 0 < len → ∃ ad, A = some ad ∧ ∀ j, j < len → W.cell? (ad.add j) = some (.bool (bs j)) := by
  obtain ⟨fuel, hf⟩ := h
  rcases open_bools ht he hc hf with ⟨hcs, _⟩ | ⟨a, l, c, B, hcs, _, hl, hm, _, hcell⟩
  · simp [Value.cells] at hcs
    obtain ⟨rfl, rfl, rfl⟩ := hcs
    exact ⟨by omega, fun _ => false, fun h => absurd h (by omega)⟩
  · simp [Value.cells] at hcs
    obtain ⟨rfl, rfl, rfl⟩ := hcs
    unfold maxLen at hm
    exact ⟨by omega, B, fun _ => ⟨_, rfl, fun j hj => hcell j (by omega)⟩⟩

end Go.Proofs.Ytpgbhgpjfjeomaa
