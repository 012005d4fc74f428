/- The second form: no row is longer than the bulk of what was read. -/
import Derived.Test.YtngdpoghfacokaaDoorRows
import Derived.Test.YtngdpoghfacokaaDoorArgs
namespace Go.Proofs.YtngdpoghfacokaaDoor
open Go.ChangeShapes Go.WideShapes Go.RowKit Go.Deep
set_option linter.unusedVariables false

theorem bulk_pos {H : Type} (d : DataW H) : 1 ≤ Rows.uptoBulk d := by
  cases d with
  | lit l => cases l <;> simp [Rows.uptoBulk]
  | _ => simp [Rows.uptoBulk]
theorem bulkAll_len {H : Type} (l : List (DataW H)) : l.length ≤ Rows.uptoBulkAll l := by
  induction l with
  | nil => simp
  | cons d l ih => have := bulk_pos d; simp only [Rows.uptoBulkAll, List.length_cons]; omega
theorem bulk_slice {H : Type} {enc : TypeId × Value → H} {P : Program} {W : World} {t e : TypeId} {A : Option Addr} {len cap : Nat} {d : DataW H} {ps : List MemPlace} (ht : P.underlying t = some (.slice e))
    (h : DataW.Trod enc P W 0 (fun _ => true) true t (.slice A len cap) d ps) : len ≤ Rows.uptoBulk d := by
  obtain ⟨fuel, hf⟩ := h
  rcases open_slice ht hf with ⟨h0, _⟩ | ⟨a, l, c, m, n, D, Pl, h0, hb, hl, hm, hmm, hx, _⟩
  · simp only [Value.cells, List.cons.injEq, and_true, Value.slice.injEq] at h0
    omega
  · simp only [Value.cells, List.cons.injEq, and_true, Value.slice.injEq] at h0
    obtain ⟨_, rfl, _⟩ := h0
    have hd : d = _ := congrArg Prod.fst hx
    rw [hd]
    have := bulkAll_len ((List.range len).map D)
    simp only [Rows.uptoBulk]
    rw [List.length_map, List.length_range] at this
    omega

end Go.Proofs.YtngdpoghfacokaaDoor
