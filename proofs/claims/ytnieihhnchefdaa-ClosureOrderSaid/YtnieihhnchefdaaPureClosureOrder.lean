/- In which order terms are held, and how often, does not matter: the printed law tells true for all rows of numbers. -/
import Derived.Test.YtnieihhnchefdaaEv4
import Derived.Test.YtnieihhnchefdaaHubO
namespace Go.Proofs.Ytnieihhnchefdaa.Pure
open Go.RowKit Go.Proofs.Ytnieihhnchefdaa Go.Proofs.Ytnieihhnchefdaa.Ref Go.Proofs.Ytnieihhnchefdaa.PA Go.Proofs.YtnieihhnchefdaaW.PrintWords Go.Proofs.YtnieihhnchefdaaW.PrintLast
set_option linter.unusedVariables false

theorem rd_tm (us : List T) (i : Nat) (h : i < us.length) : rdOf ByteArray.empty (us.map tm) (i : Int) = tm us[i] := by
  unfold rdOf
  rw [Int.toNat_natCast, List.getD_eq_getElem?_getD, List.getElem?_map, List.getElem?_eq_getElem h]
  rfl
theorem order_loop (us : List T) (hu : ∀ t ∈ us, Wf t) (hl : us.length ≤ 6) (l1 : List Int) (g1 : ∀ x ∈ l1, (Lit.int .i64 x).wf = true) (a2 : Int) (h2 : (Lit.int .i64 a2).wf = true) (m i : Nat) (hm : i + m = us.length)
    (bs : List T) (hb1 : ∀ t ∈ bs, t ∈ us) (hb2 : ∀ j : Nat, j < i → ∀ h : us.length - 1 - j < us.length, us[us.length - 1 - j] ∈ bs) (hb3 : bs.length = 2 * i) :
    Ev (fun k => letterlocklaw4_ClosureOrder.l0 k l1 a2 (us.map tm) (us.length : Int) (bs.map tm) (i : Int)) true := by
  induction m generalizing i bs with
  | succ m ih =>
    obtain ⟨p, hp, hp0, hp1⟩ := pick4_val a2 (wrap64 ((us.length : Int) + 1)) h2 (by rw [w64 (by omega) (by omega)]; omega)
    rw [w64 (n := (us.length : Int) + 1) (by omega) (by omega)] at hp1
    obtain ⟨p, rfl⟩ := Int.eq_ofNat_of_zero_le hp0
    have e1 : Int.tmod (wrap64 ((i : Int) + (p : Int))) (us.length : Int) = (((i + p) % us.length : Nat) : Int) := by
      rw [w64 (by omega) (by omega), Int.tmod_eq_emod_of_nonneg (by omega), Int.natCast_emod, Int.natCast_add]
    have e2 : wrap64 (wrap64 ((us.length : Int) - 1) - (i : Int)) = ((us.length - 1 - i : Nat) : Int) := by
      rw [w64 (n := (us.length : Int) - 1) (by omega) (by omega), w64 (by omega) (by omega)]; omega
    have hlt : (i + p) % us.length < us.length := Nat.mod_lt _ (by omega)
    have hlt2 : us.length - 1 - i < us.length := by omega
    have hN : (bs.map tm).length + 2 < 8796093022208 := by rw [List.length_map]; omega
    refine Ev.step (fun _ => rfl) (Ev.pos (by omega) (Ev.put hp (Ev.neg (by omega) ?_)))
    rw [e1, e2, rd_tm us _ hlt, rd_tm us _ hlt2]
    refine Ev.pos (by omega) (Ev.pos (by rw [List.length_map]; omega) (Ev.pos (by omega) (Ev.pos (by rw [List.length_map]; omega) (Ev.put rfl (Ev.pos hN ?_)))))
    rw [w64 (n := (i : Int) + 1) (by omega) (by omega)]
    have := ih (i + 1) (by omega) (bs ++ [us[(i + p) % us.length], us[us.length - 1 - i]]) (by
      intro t ht
      rcases List.mem_append.1 ht with ht | ht
      · exact hb1 t ht
      · simp only [List.mem_cons, List.not_mem_nil, or_false] at ht
        rcases ht with rfl | rfl
        · exact List.getElem_mem _
        · exact List.getElem_mem _) (by
      intro j hj h
      by_cases e : j = i
      · subst e; exact List.mem_append.2 (Or.inr (by simp))
      · exact List.mem_append.2 (Or.inl (hb2 j (by omega) h))) (by simp only [List.length_append, List.length_cons, List.length_nil]; omega)
    rw [List.map_append] at this
    exact this
  | zero =>
    have hmem : ∀ t, t ∈ us ↔ t ∈ bs := by
      intro t
      refine ⟨fun ht => ?_, hb1 t⟩
      obtain ⟨j, hj, rfl⟩ := List.getElem_of_mem ht
      have := hb2 (us.length - 1 - j) (by omega) (by omega)
      have e : us.length - 1 - (us.length - 1 - j) = j := by omega
      simp only [e] at this
      exact this
    obtain ⟨_, ⟨g, hg, _, rfl⟩, h4⟩ := grown4_ev l1 g1
    have hbw : ∀ t ∈ bs, Wf t := fun t ht => hu t (hb1 t ht)
    have d1 := derives_tm hu (by omega) hg
    have d2 := derives_tm hbw (by omega) hg
    have d3 := apart_tm hu (by omega)
    have d4 := apart_tm hbw (by omega)
    have hh := fun x => had_congr hmem x
    rw [← tog_congr hh g] at d2
    rw [← LT_congr (hadL_nodup us) (hadL_nodup bs) hh] at d4
    have hf := had_few hu (by omega)
    exact Ev.step (fun _ => rfl) (Ev.neg (by omega) (Ev.bind h4 (Ev.put d1 (Ev.put d2 (Ev.put d3 (Ev.put d4 (Ev.pos rfl (Ev.pos rfl (Ev.pos rfl (Ev.pos rfl (Ev.pos (by simp) (Ev.bind (same4_ev _ (by rw [LT_len]; omega)) (Ev.now _)))))))))))))

theorem ClosureOrder (l0 : List (List Int)) (l1 : List Int) (a2 : Int) (g0 : l0.length ≤ 9223372036854775807 ∧ ∀ x ∈ l0, x.length ≤ 9223372036854775807 ∧ ∀ y ∈ x, (Lit.int .i64 y).wf = true)
    (g1 : l1.length ≤ 9223372036854775807 ∧ ∀ x ∈ l1, (Lit.int .i64 x).wf = true) (w2 : (Lit.int .i64 a2).wf = true) : ∃ k, letterlocklaw4_ClosureOrder.f k l0 l1 a2 = some true := by
  refine Ev.rounds ?_
  obtain ⟨us, h1, h2, h3⟩ := some4_ev l0 (fun x hx => (g0.2 x hx).2) g0.1
  unfold letterlocklaw4_ClosureOrder.f
  refine Ev.put shown4_val (Ev.pos rfl ?_)
  by_cases h : (l0.length : Int) > 12
  · rw [decide_eq_true h]
    exact Ev.step (fun _ => rfl) (Ev.now _)
  rw [decide_eq_false h]
  refine Ev.step (fun _ => rfl) (Ev.bind h3 ?_)
  rw [List.length_map]
  exact order_loop us (fun t ht => (h2 t ht).1) (by omega) l1 g1.2 a2 w2 us.length 0 (by omega) [] (fun t ht => by simp at ht) (fun j hj => by omega) rfl

end Go.Proofs.Ytnieihhnchefdaa.Pure
