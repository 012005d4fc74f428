/- Contracts and laws that the statement of LawRightsUndo,LawRightsBack,LawRightsErrs leans on (packed from this claim's own texts): part 20. -/
import Derived.Test.YtfhanoloaejmkaaDoorQM19
section

namespace Go.Proofs.YtfhanoloaejmkaaDoor
open Go.Proofs.YtfhanoloaejmkaaDoor.Ref
set_option linter.unusedVariables false
theorem can_not {r : Rt} (h : rightR r = true) {u : ByteArray} (hc : canF r u false = false) : u ≠ r.o ∧ u ∉ r.rs ∧ u ∉ r.ws := by
  rw [can_read h, decide_eq_false_iff_not] at hc
  exact ⟨fun e => hc (Or.inl e), fun e => hc (Or.inr (Or.inl e)), fun e => hc (Or.inr (Or.inr e))⟩
theorem undo_same {r : Rt} {u : ByteArray} (h2 : u ∉ r.rs) (h3 : u ∉ r.ws) (x : Bool) : struck (putIn r u x) u = ⟨r.o, r.f, r.e + 1, r.rs, r.ws⟩ := by
  unfold putIn struck
  cases x
  · rw [if_neg (by simp)]
    show (⟨r.o, r.f, r.e + 1, dropL (insL r.rs u) u, dropL r.ws u⟩ : Rt) = _
    rw [drop_ins h2, drop_none h3]
  · rw [if_pos rfl]
    show (⟨r.o, r.f, r.e + 1, dropL r.rs u, dropL (insL r.ws u) u⟩ : Rt) = _
    rw [drop_none h2, drop_ins h3]
theorem undo_law {r : Rt} (h : rightR r = true) {u : ByteArray} (hu : rightN (bytes u) = true) (x : Bool) (hc : canF r u false = false) (hl : r.rs.length + r.ws.length < 5) :
    ∃ S, grantF r u x = (S, 0) ∧ rightR S = true ∧ canF S u x = true ∧ canF S u true = x ∧ (r.e = 7 → revokeF S u = (noRt, 9)) ∧ (r.e ≠ 7 → ∃ T V, revokeF S u = (T, 0) ∧ grantF T u (!x) = (V, 0) ∧ rightR T = true ∧ rightR V = true ∧ T.e = r.e + 1 ∧ V.e = T.e ∧ T.rs.length = r.rs.length ∧ T.ws.length = r.ws.length ∧
      (∀ v b, canF T v b = canF r v b) ∧ canF T u false = false ∧ canF V u false = true ∧ canF V u true = (!x)) := by
  obtain ⟨n1, n2, n3⟩ := can_not h hc
  have hS := put_right h hu hc hl x
  have cS := put_can h hS hc
  have hSo : u ≠ (putIn r u x).o := by rw [cS.2.2.2.1]; exact n1
  have eS : grantF r u x = (putIn r u x, 0) := by rw [grant_cases h hu, if_neg (by rw [hc]; simp), if_neg (by omega)]
  have rv := revoke_cases hS hu
  rw [if_pos ⟨cS.1, hSo⟩, cS.2.2.1] at rv
  refine ⟨putIn r u x, eS, hS, ?_, cS.2.1, fun h7 => by rw [rv, if_pos h7], fun h7 => ?_⟩
  · cases x
    · exact cS.1
    · exact cS.2.1
  rw [if_neg h7] at rv
  have hT := struck_right hS u (by rw [cS.2.2.1]; exact h7)
  have eT := undo_same n2 n3 (r := r) x
  rw [eT] at rv hT
  have cT : ∀ v b, canF ⟨r.o, r.f, r.e + 1, r.rs, r.ws⟩ v b = canF r v b := fun v b => by rw [can_of h, can_of hT]
  have hcT : canF ⟨r.o, r.f, r.e + 1, r.rs, r.ws⟩ u false = false := by rw [cT]; exact hc
  have hV := put_right hT hu hcT hl (!x)
  have cV := put_can hT hV hcT
  have eV : grantF ⟨r.o, r.f, r.e + 1, r.rs, r.ws⟩ u (!x) = (putIn ⟨r.o, r.f, r.e + 1, r.rs, r.ws⟩ u (!x), 0) := by rw [grant_cases hT hu, if_neg (by rw [hcT]; simp), if_neg (by show ¬ 5 ≤ r.rs.length + r.ws.length; omega)]
  exact ⟨_, _, rv, eV, hT, hV, rfl, cV.2.2.1, rfl, rfl, cT, hcT, cV.1, cV.2.1⟩
end Go.Proofs.YtfhanoloaejmkaaDoor
end
