/- How the arguments of the statements are read: rows of texts, rows of rows of numbers, structs: cells that a kind describes. -/
import Derived.Test.YtnieihhnchefdaaWMore
import Derived.Deep.Grids
import Derived.ChangeArms
namespace Go.Proofs.Ytnieihhnchefdaa
open Go.ChangeShapes Go.WideShapes Go.RowKit Go.Deep Go.Proofs.YtnieihhnchefdaaW.PrintWords
set_option linter.unusedVariables false

/-- What is read as of a type is of a kind, and good. -/
def Opens {α : Type} (P : Program) (t : TypeId) (d : Kd α) (good : α → Prop) : Prop :=
  ∀ (H : Type) (enc : TypeId × Value → H) (W : World) (fuel : Nat) (cs : List Value) (x : DataW H × List MemPlace), DataW.trod enc P W 0 (fun _ => true) true fuel t cs = some x → ∃ a, d.K W a cs ∧ good a
theorem Opens.int {P : Program} {t : TypeId} {k : IntKind} (ht : P.underlying t = some (.int k)) : Opens P t (Kd.int k) (fun n => (Lit.int k n).wf = true) := by
  intro H enc W fuel cs x h
  obtain ⟨n, rfl, _, hn⟩ := DataW.trod_int ht h
  exact ⟨n, rfl, hn⟩
theorem Opens.bool {P : Program} {t : TypeId} (ht : P.underlying t = some .bool) : Opens P t Kd.bool (fun _ => True) := by
  intro H enc W fuel cs x h
  obtain ⟨b, rfl, _⟩ := DataW.trod_bool ht h
  exact ⟨b, rfl, trivial⟩
theorem Opens.string {P : Program} {t : TypeId} (ht : P.underlying t = some .string) : Opens P t Kd.string (fun s => s.size ≤ 9223372036854775807) := by
  intro H enc W fuel cs x h
  obtain ⟨s, rfl, _, hs⟩ := DataW.trod_string ht h
  exact ⟨s, rfl, hs⟩
theorem Opens.slice {α : Type} [Inhabited α] {P : Program} {t e : TypeId} {d : Kd α} {good : α → Prop} (ht : P.underlying t = some (.slice e)) (hc : P.cellsOf e = d.sz) (he : Opens P e d good) (q : Nat) :
    Opens P t (Kd.slice q d) (fun xs => xs.length ≤ 9223372036854775807 ∧ ∀ x ∈ xs, good x) := by
  intro H enc W fuel cs x h
  rcases open_slice ht h with ⟨rfl, _⟩ | ⟨a, len, cap, m, n, D, Pl, rfl, hb, hl, hm, hmm, rfl, hx⟩
  · exact ⟨[], ⟨none, 0, rfl, Nat.le_refl _, rfl, Nat.zero_le _, fun h => absurd h (Nat.lt_irrefl _)⟩, Nat.zero_le _, fun _ h => absurd h (by simp)⟩
  have hml : len ≤ m := by rw [hmm]; split <;> omega
  have hm' : cap ≤ 9223372036854775807 := hm
  have each : ∀ i, i < len → ∃ y : α, (∃ c, c.length = d.sz ∧ d.K W y c ∧ ∀ j u, c[j]? = some u → W.cell? (a.add (i * d.sz + j)) = some u) ∧ good y := by
    intro i hi
    obtain ⟨cs', h1, h2⟩ := hx i (by omega)
    obtain ⟨y, hy, hg⟩ := he H enc W n cs' _ h2
    obtain ⟨_, hlen, hcell⟩ := World.cells?_some h1
    refine ⟨y, ⟨cs', d.K_len hy, hy, fun j u hj => ?_⟩, hg⟩
    have hjl : j < cs'.length := by
      by_cases hjl : j < cs'.length
      · exact hjl
      · rw [List.getElem?_eq_none (by omega)] at hj; simp at hj
    have := hcell j (by rw [hlen] at hjl; exact hjl)
    rw [Deep.add_add, hc] at this
    rw [this, hj]
  obtain ⟨Y, hY⟩ := choose_lt each
  refine ⟨(List.range len).map Y, ⟨some a, cap, by simp, by simpa using hl, by simp, by simp; omega, fun _ => ⟨a, rfl, fun j p hj => ?_⟩⟩, by simp; omega, fun z hz => ?_⟩
  · have hjl : j < len := by
      by_cases hjl : j < len
      · exact hjl
      · rw [List.getElem?_eq_none (by simp; omega)] at hj; simp at hj
    have : p = Y j := by simpa [hjl] using hj.symm
    rw [this]
    exact (hY j hjl).1
  · obtain ⟨j, hj, rfl⟩ := List.mem_map.1 hz
    exact (hY j (List.mem_range.1 hj)).2
theorem Opens.arg {α : Type} {H : Type} {enc : TypeId × Value → H} {P : Program} {W : World} {t : TypeId} {v : Value} {d : DataW H} {ps : List MemPlace} {kd : Kd α} {good : α → Prop} (ho : Opens P t kd good)
    (h : DataW.Trod enc P W 0 (fun _ => true) true t v d ps) : ∃ a, kd.K W a v.cells.toList ∧ good a := by
  obtain ⟨fuel, hf⟩ := h
  exact ho H enc W fuel _ _ hf
theorem Opens.slice_arg {α : Type} {H : Type} {enc : TypeId × Value → H} {P : Program} {W : World} {t : TypeId} {A : Option Addr} {len cap : Nat} {d : DataW H} {ps : List MemPlace} {q : Nat} {kd : Kd α} {good : List α → Prop}
    (ho : Opens P t (Kd.slice q kd) good) (h : DataW.Trod enc P W 0 (fun _ => true) true t (.slice A len cap) d ps) : ∃ xs : List α, xs.length = len ∧ len ≤ cap ∧ kd.C W A xs.length xs ∧ good xs := by
  obtain ⟨xs, ⟨A', c, hcs, hl, hC⟩, hg⟩ := ho.arg h
  simp only [Value.cells, List.cons.injEq, and_true, Value.slice.injEq] at hcs
  obtain ⟨rfl, rfl, rfl⟩ := hcs
  exact ⟨xs, rfl, hl, hC, hg⟩

end Go.Proofs.Ytnieihhnchefdaa
