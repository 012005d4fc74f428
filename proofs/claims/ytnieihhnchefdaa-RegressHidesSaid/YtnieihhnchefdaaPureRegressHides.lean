/- Who holds a state can tell all earlier ones and their keys, and none later: the printed law tells true for every number and any two epochs. -/
import Derived.Test.YtnieihhnchefdaaEvDerives
import Derived.Test.YtnieihhnchefdaaHubH
namespace Go.Proofs.Ytnieihhnchefdaa.Pure
open Go.RowKit Go.Proofs.Ytnieihhnchefdaa Go.Proofs.Ytnieihhnchefdaa.Ref Go.Proofs.Ytnieihhnchefdaa.PA Go.Proofs.YtnieihhnchefdaaW.PrintWords Go.Proofs.YtnieihhnchefdaaW.PrintLast
set_option linter.unusedVariables false

theorem RegressHides : letterlocklaw6_RegressHides.Pure := by
  intro a0 a1 a2 h0 h1 h2
  refine Ev.rounds ?_
  have hn : 0 ≤ a0 ∧ a0 ≤ 18446744073709551615 := by simpa [Lit.wf, IntKind.min, IntKind.max, IntKind.signed, IntKind.bits] using h0
  obtain ⟨n, rfl⟩ := Int.eq_ofNat_of_zero_le hn.1
  have hn : n < 18446744073709551616 := by omega
  obtain ⟨x, hx, hx0, hx1⟩ := pick_val a1 8 h1 (by decide)
  obtain ⟨y, hy, hy0, hy1⟩ := pick_val a2 8 h2 (by decide)
  obtain ⟨x, rfl⟩ := Int.eq_ofNat_of_zero_le hx0
  obtain ⟨y, rfl⟩ := Int.eq_ofNat_of_zero_le hy0
  have hs : (nameB ⟨#[114, 111, 111, 116]⟩ ⟨#[120]⟩).size ≤ 1010 := by decide
  have hr := secret_ev ⟨#[114, 111, 111, 116]⟩ ⟨#[120]⟩ n (by decide) (by decide) hn
  rw [secret_tm _ _ n hs hn] at hr
  have hok := rootT_ok ⟨#[114, 111, 111, 116]⟩ ⟨#[120]⟩ n hs hn
  have hlen := rootT_len ⟨#[114, 111, 111, 116]⟩ ⟨#[120]⟩ n hs hn
  have htog : ∀ S : List T, (∀ u ∈ S, (∃ a, u = .one .h a) ∨ ∃ m, m ≠ n ∧ u = .atom m) → ∀ j, (∀ i, i ≤ j → hT i (rootT ⟨#[114, 111, 111, 116]⟩ ⟨#[120]⟩ n) ∉ S) → tog S (hT j (rootT ⟨#[114, 111, 111, 116]⟩ ⟨#[120]⟩ n)) = false := by
    intro S hS j hj
    refine tog_hT_false ?_ j hj
    have h1 := hj 0 (Nat.zero_le _)
    simp only [hT] at h1
    unfold rootT at h1 ⊢
    simp only [tog]
    rw [contains_false h1, contains_false (fun h => by rcases hS _ h with ⟨a, e⟩ | ⟨m, hm, e⟩ <;> simp at e), contains_false (fun h => by
      rcases hS _ h with ⟨a, e⟩ | ⟨m, hm, e⟩
      · simp at e
      · exact hm (by simpa using e.symm))]
    rfl
  have hnk : ∀ i u, hT i (rootT ⟨#[114, 111, 111, 116]⟩ ⟨#[120]⟩ n) ≠ keyT u := fun i u => hT_ne_key i _ _ u (by decide)
  have hone : ∀ i, ∃ b, hT i (rootT ⟨#[114, 111, 111, 116]⟩ ⟨#[120]⟩ n) = .one .h b := fun i => hT_one i _
  generalize rootT ⟨#[114, 111, 111, 116]⟩ ⟨#[120]⟩ n = t at hr hok hlen htog hnk hone
  have hst : ∀ e : Nat, e ≤ 7 → Ev (fun k => regress_State.f k (tm t) (e : Int)) (tm (hT (7 - e) t), 0) := fun e he => by
    have := state_ev (tm t) (e : Int) (by rw [size_tm]; omega)
    rwa [state_tm e 3 t he hok (by omega) (by omega)] at this
  have hl : ∀ e, (enc (hT e t)).length = e + (enc t).length := fun e => len_hT e t
  have hk : ∀ e : Nat, e ≤ 7 → Ev (fun k => regress_Key.f k (tm (hT e t))) (tm (keyT (hT e t)), 0) := fun e he => by
    have := key_ev (tm (hT e t)) (by rw [size_tm, hl]; omega)
    rwa [key_tm (3 + e) (hT e t) (ok_hT e 3 t hok) (by omega) (by omega) (by rw [hl]; omega)] at this
  have hwt : ∀ e : Nat, e ≤ 7 → Wf (hT e t) := fun e he => ⟨ok_mono (ok_hT e 3 t hok) (by omega), by rw [hl]; omega⟩
  have hwk : ∀ e : Nat, e ≤ 7 → Wf (keyT (hT e t)) := fun e he => by
    have h3 := len_text keyB (by decide)
    rw [show keyB.size = 3 from rfl] at h3
    refine ⟨ok_mono (d := 12) ?_ (by omega), by have := hl e; simp only [keyT, enc, List.length_cons, List.length_append] at h3 ⊢; omega⟩
    exact ⟨show (bytes keyB).length ≤ 4000 by rw [keyB_len]; omega, (show ok 10 (hT e t) from ok_mono (ok_hT e 3 t hok) (by omega)), fun e => by simp at e⟩
  have htt : ∀ a b, hT a t = hT b t → a = b := fun a b h => by have := congrArg (fun u => (enc u).length) h; simp only [hl] at this; omega
  -- the number that is held beside is another one
  have hm : ∃ m : Nat, IntKind.u64.wrap ((n : Int) + 1) = (m : Int) ∧ m < 18446744073709551616 ∧ m ≠ n := ⟨(n + 1) % 18446744073709551616, by rw [IntKind.wrap_u64]; omega, by omega, by omega⟩
  obtain ⟨m, hmw, hm1, hm2⟩ := hm
  have hwm : Wf (.atom m) := ⟨hm1, by have := len_atom m hm1; omega⟩
  have hS : ∀ u ∈ [hT (7 - x) t, T.atom m], (∃ a, u = .one .h a) ∨ ∃ k, k ≠ n ∧ u = .atom k := by
    intro u hu
    rcases List.mem_cons.1 hu with rfl | hu
    · exact Or.inl (hone _)
    · rw [List.mem_singleton.1 hu]; exact Or.inr ⟨m, hm2, rfl⟩
  have hcl : ClosedT [hT (7 - x) t, T.atom m] := closed_plain fun u hu => by
    rcases hS u hu with ⟨a, e⟩ | ⟨k, _, e⟩
    · exact Or.inl ⟨_, _, e⟩
    · exact Or.inr ⟨_, e⟩
  have hwS : ∀ u ∈ [hT (7 - x) t, T.atom m], Wf u := by
    intro u hu
    rcases List.mem_cons.1 hu with rfl | hu
    · exact hwt _ (by omega)
    · rw [List.mem_singleton.1 hu]; exact hwm
  have hone1 : tog [hT (7 - x) t, T.atom m] (hT (7 - y) t) = decide ((y : Int) ≤ (x : Int)) := by
    by_cases e : y ≤ x
    · rw [decide_eq_true (by omega), show 7 - y = (7 - x) + (x - y) from by omega, ← hT_hT]
      exact tog_hT_true (tog_mem (by simp)) _
    · rw [decide_eq_false (by omega)]
      refine htog _ hS _ fun i hi h => ?_
      rcases List.mem_cons.1 h with h | h
      · have := htt _ _ h; omega
      · obtain ⟨b, hb⟩ := hone i
        rw [hb] at h
        simp at h
  have htwo1 : tog [hT (7 - x) t, T.atom m] (keyT (hT (7 - y) t)) = decide ((y : Int) ≤ (x : Int)) := by
    rw [← hone1]
    have h1 : keyT (hT (7 - y) t) ∉ [hT (7 - x) t, T.atom m] := fun h => by
      rcases List.mem_cons.1 h with h | h
      · exact hnk _ _ h.symm
      · simp [keyT] at h
    have h2 : T.two .p (.text (bytes keyB)) (hT (7 - y) t) ∉ [hT (7 - x) t, T.atom m] := fun h => by
      rcases hS _ h with ⟨a, e⟩ | ⟨k, _, e⟩ <;> simp at e
    unfold keyT at h1 ⊢
    rw [tog, contains_false h1, tog, contains_false h2]
    simp [tog]
  have d1 := derives_tm (ts := [hT (7 - x) t, T.atom m]) (t := hT (7 - y) t) hwS (by simp) (hwt _ (by omega))
  have d2 := derives_tm (ts := [hT (7 - x) t, T.atom m]) (t := keyT (hT (7 - y) t)) hwS (by simp) (hwk _ (by omega))
  rw [tog_closed hcl, hone1] at d1
  rw [tog_closed hcl, htwo1] at d2
  have hck : ClosedT [keyT (hT (7 - x) t)] := closed_plain (fun u hu => by rw [List.mem_singleton.1 hu]; exact Or.inl ⟨_, _, rfl⟩)
  have d3 := derives_tm (ts := [keyT (hT (7 - x) t)]) (t := hT (7 - x) t) (fun u hu => by rw [List.mem_singleton.1 hu]; exact hwk _ (by omega)) (by simp) (hwt _ (by omega))
  rw [tog_closed hck, htog [keyT (hT (7 - x) t)] (fun u hu => by rw [List.mem_singleton.1 hu]; exact Or.inl ⟨_, rfl⟩) (7 - x) (fun i hi h => hnk i _ (List.mem_singleton.1 h))] at d3
  have hat : Ev (fun k => term_OfAtom.f k (IntKind.u64.wrap ((n : Int) + 1))) (tm (.atom m)) := by
    have := ofAtom_ev m hm1
    rw [hmw]
    rwa [atomB_tm] at this
  unfold letterlocklaw6_RegressHides.f
  refine Ev.bind shown6_ev (Ev.pos rfl (Ev.bind hr (Ev.put hx (Ev.put hy (Ev.bind (hst x (by omega)) (Ev.bind (hst y (by omega)) (Ev.bind (hk _ (by omega)) (Ev.pos rfl (Ev.pos rfl ?_)))))))))
  refine Ev.step (fun _ => rfl) ?_
  refine Ev.bind hat (Ev.put rfl (Ev.put d1 (Ev.put d2 (Ev.bind (hk _ (by omega)) (Ev.put d3 (Ev.pos rfl (Ev.pos rfl (Ev.pos rfl (Ev.pos (by simp) (Ev.pos (by simp) (Ev.now _)))))))))))

end Go.Proofs.Ytnieihhnchefdaa.Pure
