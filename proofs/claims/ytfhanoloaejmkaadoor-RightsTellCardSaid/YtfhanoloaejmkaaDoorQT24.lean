/- Contracts and laws that the statement of LawRightsTell leans on (packed from this claim's own texts): part 24. -/
import Derived.Test.YtfhanoloaejmkaaDoorQT23
section

namespace Go.Proofs.YtfhanoloaejmkaaDoor
open Go.ChangeShapes Go.WideShapes Go.RowKit Go.Deep Go.Proofs.YtfhanoloaejmkaaDoorW.PrintWords
set_option linter.unusedVariables false
theorem weigh {H : Type} {P : Program} {t : TypeId} {fs : Array Field} {parts : List (DataW H)} (ht : P.underlying t = some (.struct fs)) {j : Nat} {u : TypeId} {bytes : List UInt8} (hj : (fs.toList.map (·.type))[j]? = some u) (hd : parts[j]? = some (.lit (.string bytes)))
  (hw : ∀ n ∈ (DataW.agg parts : DataW H).weights P t, n ≤ reachBytes) : bytes.length ≤ reachBytes := by
 refine hw _ ?_
 have e : (DataW.agg parts : DataW H).weights P t = DataW.weightsEach P (fs.toList.map (·.type)) parts := by simp [DataW.weights, ht]
 rw [e]
 exact DataW.weights_mem_each hj hd _ (by simp [DataW.weights])
theorem array5 {α : Type} {cs : Array α} (h : cs.size = 5) : ∃ c0 c1 c2 c3 c4, cs = #[c0, c1, c2, c3, c4] := by
 obtain ⟨l⟩ := cs
 match l, h with
 | [c0, c1, c2, c3, c4], _ => exact ⟨c0, c1, c2, c3, c4, rfl⟩
def rtFields : Array Field := #[⟨"Owner", 9, 0, false, "", "", 0⟩, ⟨"File", 9, 1, false, "", "", 16⟩, ⟨"Epoch", 3, 2, false, "", "", 32⟩, ⟨"Readers", 24, 3, false, "", "", 40⟩, ⟨"Writers", 24, 4, false, "", "", 64⟩]
theorem rtUnder : Tryd.prog.underlying 26 = some (.struct rtFields) := Tryd.underlying26
theorem strs_open : Opens Tryd.prog 24 (Kd.slice 9 Kd.string) (fun l => l.length ≤ 9223372036854775807 ∧ ∀ s ∈ l, s.size ≤ 9223372036854775807) := Opens.slice Tryd.underlying24 (by kernel_rfl) (Opens.string Tryd.underlying9) _
theorem row_open {H : Type} {enc : TypeId × Value → H} {W : World} {n : Nat} {c : Value} {x : DataW H × List MemPlace} (h : DataW.trod enc Tryd.prog W 0 (fun _ => true) true n 24 [c] = some x) : ∃ A k l, c = .slice A l.length k ∧ l.length ≤ k ∧ Kd.C Kd.string W A l.length l := by
 obtain ⟨xs, ⟨A', k, hcs, hl, hC⟩, hg⟩ := strs_open H enc W n _ _ h
 simp only [List.cons.injEq, and_true] at hcs
 exact ⟨A', k, xs, hcs, hl, hC⟩
set_option maxRecDepth 100000 in
theorem rt_open {H : Type} {enc : TypeId × Value → H} {W : World} {v : Value} {d : DataW H} {ps : List MemPlace} {base : Nat} {r : Reach} (hv : Value.okWide Tryd.prog W r base 26 v) (h : DataW.Trod enc Tryd.prog W 0 (fun _ => true) true 26 v d ps)
  (hw : ∀ n ∈ d.weights Tryd.prog 26, n ≤ reachBytes) :
  ∃ R A c A' c', v = .agg #[.string R.o, .string R.f, .int .i64 R.e, .slice A R.rs.length c, .slice A' R.ws.length c'] ∧ RowsAt W 0 R A c A' c' ∧ R.o.size ≤ 140737488355328 ∧ R.f.size ≤ 140737488355328 ∧ (-9223372036854775808 ≤ R.e ∧ R.e ≤ 9223372036854775807) := by
 obtain ⟨cs, rfl, hsz⟩ := okWide_struct rtUnder hv
 have h5 : Tryd.prog.cellsOf 26 = 5 := by kernel_rfl
 obtain ⟨c0, c1, c2, c3, c4, rfl⟩ := array5 (hsz.trans h5)
 obtain ⟨fuel, hf⟩ := h
 obtain ⟨xs, n, _, hx, hl, hlen, hF⟩ := DataW.trod_struct rtUnder hf
 simp only [Prod.mk.injEq] at hx
 obtain ⟨rfl, -⟩ := hx
 match xs, hlen with
 | [y0, y1, y2, y3, y4], _ =>
  have h0 : DataW.trod enc Tryd.prog W 0 (fun _ => true) true n 9 [c0] = some y0 := hF 0 _ rfl
  have h1 : DataW.trod enc Tryd.prog W 0 (fun _ => true) true n 9 [c1] = some y1 := hF 1 _ rfl
  have h2 : DataW.trod enc Tryd.prog W 0 (fun _ => true) true n 3 [c2] = some y2 := hF 2 _ rfl
  have h3 : DataW.trod enc Tryd.prog W 0 (fun _ => true) true n 24 [c3] = some y3 := hF 3 _ rfl
  have h4 : DataW.trod enc Tryd.prog W 0 (fun _ => true) true n 24 [c4] = some y4 := hF 4 _ rfl
  obtain ⟨s0, e0, rfl, _⟩ := DataW.trod_string Tryd.underlying9 h0
  obtain ⟨s1, e1, rfl, _⟩ := DataW.trod_string Tryd.underlying9 h1
  obtain ⟨z2, e2, rfl, hz⟩ := DataW.trod_int Tryd.underlying3 h2
  obtain ⟨A, k, l, rfl, hlk, hC⟩ := row_open h3
  obtain ⟨A', k', l', rfl, hlk', hC'⟩ := row_open h4
  injection e0 with e0 _
  injection e1 with e1 _
  injection e2 with e2 _
  subst e0 e1 e2
  have b0 := weigh (j := 0) (u := 9) rtUnder rfl rfl hw
  have b1 := weigh (j := 1) (u := 9) rtUnder rfl rfl hw
  rw [Array.length_toList] at b0 b1
  exact ⟨⟨s0, s1, z2, l, l'⟩, A, k, A', k', rfl, ⟨hC, hlk, hC', hlk', fun _ _ => Nat.zero_le _, fun _ _ => Nat.zero_le _⟩, Nat.le_trans (show s0.size ≤ reachBytes from b0) (show (140737488351232 : Nat) ≤ 140737488355328 by omega), Nat.le_trans (show s1.size ≤ reachBytes from b1) (show (140737488351232 : Nat) ≤ 140737488355328 by omega), i64_wf hz⟩
end Go.Proofs.YtfhanoloaejmkaaDoor
end
