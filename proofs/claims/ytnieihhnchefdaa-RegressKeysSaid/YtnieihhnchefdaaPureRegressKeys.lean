/- A key is no state, nor another state's key, and tells neither: the printed law tells true for every number and any two epochs. -/
import Derived.Test.YtnieihhnchefdaaEvDerives
import Derived.Test.YtnieihhnchefdaaHubK
namespace Go.Proofs.Ytnieihhnchefdaa.Pure
open Go.RowKit Go.Proofs.Ytnieihhnchefdaa Go.Proofs.Ytnieihhnchefdaa.Ref Go.Proofs.Ytnieihhnchefdaa.PA Go.Proofs.YtnieihhnchefdaaW.PrintWords Go.Proofs.YtnieihhnchefdaaW.PrintLast
set_option linter.unusedVariables false


theorem RegressKeys : letterlocklaw6_RegressKeys.Pure := by
  intro a0 a1 a2 h0 h1 h2
  refine Ev.rounds ?_
  have hn : 0 ≤ a0 ∧ a0 ≤ 18446744073709551615 := by simpa [Lit.wf, IntKind.min, IntKind.max, IntKind.signed, IntKind.bits] using h0
  obtain ⟨n, rfl⟩ := Int.eq_ofNat_of_zero_le hn.1
  have hn : n < 18446744073709551616 := by omega
  obtain ⟨x, hx, hx0, hx1⟩ := pick_val a1 8 h1 (by decide)
  obtain ⟨y, hy, hy0, hy1⟩ := pick_val a2 8 h2 (by decide)
  obtain ⟨x, rfl⟩ := Int.eq_ofNat_of_zero_le hx0
  obtain ⟨y, rfl⟩ := Int.eq_ofNat_of_zero_le hy0
  have hs : (nameB ⟨#[114, 111, 111, 116]⟩ ⟨#[120]⟩).size ≤ 1010 := by decide
  have hr := secret_ev ⟨#[114, 111, 111, 116]⟩ ⟨#[120]⟩ n (by decide) (by decide) hn
  rw [secret_tm _ _ n hs hn] at hr
  have hok := rootT_ok ⟨#[114, 111, 111, 116]⟩ ⟨#[120]⟩ n hs hn
  have hlen := rootT_len ⟨#[114, 111, 111, 116]⟩ ⟨#[120]⟩ n hs hn
  have htog : ∀ S : List T, (∀ u ∈ S, ∃ a, u = .one .h a) → ∀ j, (∀ i, i ≤ j → hT i (rootT ⟨#[114, 111, 111, 116]⟩ ⟨#[120]⟩ n) ∉ S) → tog S (hT j (rootT ⟨#[114, 111, 111, 116]⟩ ⟨#[120]⟩ n)) = false := by
    intro S hS j hj
    refine tog_hT_false ?_ j hj
    have h1 := hj 0 (Nat.zero_le _)
    simp only [hT] at h1
    unfold rootT at h1 ⊢
    simp only [tog]
    rw [contains_false h1, contains_false (fun h => by obtain ⟨a, e⟩ := hS _ h; simp at e), contains_false (fun h => by obtain ⟨a, e⟩ := hS _ h; simp at e)]
    rfl
  have hnk : ∀ i u, hT i (rootT ⟨#[114, 111, 111, 116]⟩ ⟨#[120]⟩ n) ≠ keyT u := fun i u => hT_ne_key i _ _ u (by decide)
  generalize rootT ⟨#[114, 111, 111, 116]⟩ ⟨#[120]⟩ n = t at hr hok hlen htog hnk
  have hst : ∀ e : Nat, e ≤ 7 → Ev (fun k => regress_State.f k (tm t) (e : Int)) (tm (hT (7 - e) t), 0) := fun e he => by
    have := state_ev (tm t) (e : Int) (by rw [size_tm]; omega)
    rwa [state_tm e 3 t he hok (by omega) (by omega)] at this
  have hl : ∀ e, (enc (hT e t)).length = e + (enc t).length := fun e => len_hT e t
  have hk : ∀ e : Nat, e ≤ 7 → Ev (fun k => regress_Key.f k (tm (hT e t))) (tm (keyT (hT e t)), 0) := fun e he => by
    have := key_ev (tm (hT e t)) (by rw [size_tm, hl]; omega)
    rwa [key_tm (3 + e) (hT e t) (ok_hT e 3 t hok) (by omega) (by omega) (by rw [hl]; omega)] at this
  have hwt : ∀ e : Nat, e ≤ 7 → Wf (hT e t) := fun e he => ⟨ok_mono (ok_hT e 3 t hok) (by omega), by rw [hl]; omega⟩
  have hwk : ∀ e : Nat, e ≤ 7 → Wf (keyT (hT e t)) := fun e he => by
    have h3 := len_text keyB (by decide)
    rw [show keyB.size = 3 from rfl] at h3
    refine ⟨ok_mono (d := 12) ?_ (by omega), by have := hl e; simp only [keyT, enc, List.length_cons, List.length_append] at h3 ⊢; omega⟩
    exact ⟨show (bytes keyB).length ≤ 4000 by rw [keyB_len]; omega, (show ok 10 (hT e t) from ok_mono (ok_hT e 3 t hok) (by omega)), fun e => by simp at e⟩
  have hkk : ∀ a b : T, keyT a = keyT b → a = b := fun a b h => by
    simp only [keyT, T.one.injEq, T.two.injEq] at h
    exact h.2.2.2
  have htt : ∀ a b, hT a t = hT b t → a = b := fun a b h => by have := congrArg (fun u => (enc u).length) h; simp only [hl] at this; omega
  have e1 : (enc (keyT (hT (7 - x) t)) == enc (keyT (hT (7 - y) t))) = ((x : Int) == (y : Int)) := by
    by_cases e : x = y
    · subst e; simp
    · have h3 : ¬ enc (keyT (hT (7 - x) t)) = enc (keyT (hT (7 - y) t)) := fun h => by
        have := congrArg List.length h
        simp only [keyT, enc, List.length_cons, List.length_append, hl] at this; omega
      rw [beq_eq_false_iff_ne.mpr h3, beq_eq_false_iff_ne.mpr (by omega)]
  have e2 : ¬ enc (keyT (hT (7 - x) t)) = enc (hT (7 - y) t) := fun h => hnk (7 - y) _ (enc_inj (hwt _ (by omega)).1 (hwk _ (by omega)).1 h.symm)
  have e3 : (enc (keyT (hT (7 - x) t)) == enc t) = false := beq_eq_false_iff_ne.mpr fun h => hnk 0 _ (enc_inj (hwt 0 (by omega)).1 (hwk (7 - x) (by omega)).1 h.symm)
  have hcl : ClosedT [keyT (hT (7 - x) t)] := closed_plain (fun u hu => by rw [List.mem_singleton.1 hu]; exact Or.inl ⟨_, _, rfl⟩)
  have d1 := derives_tm (ts := [keyT (hT (7 - x) t)]) (t := hT (7 - y) t) (fun u hu => by rw [List.mem_singleton.1 hu]; exact hwk _ (by omega)) (by simp) (hwt _ (by omega))
  have d2 := derives_tm (ts := [keyT (hT (7 - x) t)]) (t := keyT (hT (7 - y) t)) (fun u hu => by rw [List.mem_singleton.1 hu]; exact hwk _ (by omega)) (by simp) (hwk _ (by omega))
  rw [tog_closed hcl] at d1 d2
  have hf : ∀ j, j ≤ 7 → tog [keyT (hT (7 - x) t)] (hT j t) = false := fun j hj => htog _ (fun u hu => by rw [List.mem_singleton.1 hu]; exact ⟨_, rfl⟩) j (fun i hi h => hnk i _ (List.mem_singleton.1 h))
  rw [hf _ (by omega)] at d1
  have e4 : tog [keyT (hT (7 - x) t)] (keyT (hT (7 - y) t)) = ((x : Int) == (y : Int)) := by
    by_cases e : x = y
    · subst e
      rw [tog_mem (by simp)]; simp
    · rw [beq_eq_false_iff_ne.mpr (by omega)]
      have h9 : keyT (hT (7 - y) t) ∉ [keyT (hT (7 - x) t)] := fun h => by
        have := htt _ _ (hkk _ _ (List.mem_singleton.1 h)); omega
      unfold keyT at h9 ⊢
      simp only [tog]
      have hf' := hf (7 - y) (by omega)
      unfold keyT at hf'
      rw [contains_false h9, contains_false (fun h => by simp at h), hf']
      rfl
  rw [e4] at d2
  unfold letterlocklaw6_RegressKeys.f
  refine Ev.bind shown6_ev (Ev.bind hr (Ev.pos rfl ?_))
  refine Ev.step (fun _ => rfl) (Ev.put hx (Ev.put hy (Ev.bind (hst x (by omega)) (Ev.bind (hst y (by omega)) (Ev.bind (hk _ (by omega)) (Ev.bind (hk _ (by omega)) ?_))))))
  refine Ev.pos rfl (Ev.pos rfl (Ev.pos rfl (Ev.pos rfl (Ev.neg (by rw [tm_list, tm_list, e1]; simp) (Ev.neg (by rw [tm_list, tm_list]; exact e2) ?_)))))
  rw [tm_list, tm_list, e3]
  refine Ev.step (fun _ => rfl) (Ev.put d1 (Ev.put d2 (Ev.pos rfl (Ev.pos rfl (Ev.neg (by simp) (Ev.const ?_))))))
  simp

end Go.Proofs.Ytnieihhnchefdaa.Pure
