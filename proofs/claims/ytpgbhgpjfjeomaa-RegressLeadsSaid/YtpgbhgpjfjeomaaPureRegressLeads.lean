import Derived.Test.YtpgbhgpjfjeomaaEvSecret
namespace Go.Proofs.Ytpgbhgpjfjeomaa.Pure
open Go.RowKit Go.Proofs.Ytpgbhgpjfjeomaa Go.Proofs.Ytpgbhgpjfjeomaa.Ref Go.Proofs.Ytpgbhgpjfjeomaa.PA Go.Proofs.YtpgbhgpjfjeomaaW.PrintWords Go.Proofs.YtpgbhgpjfjeomaaW.PrintLast
set_option linter.unusedVariables false

theorem tm_list (t : T) : (tm t).toList = enc t := by rw [bytes_toList, bytes_tm]

theorem RegressLeads : letterlocklaw6_RegressLeads.Pure := by
  intro a0 a1 a2 h0 h1 h2
  refine Ev.rounds ?_
  have hn : 0 ≤ a0 ∧ a0 ≤ 18446744073709551615 := by simpa [Lit.wf, IntKind.min, IntKind.max, IntKind.signed, IntKind.bits] using h0
  obtain ⟨n, rfl⟩ := Int.eq_ofNat_of_zero_le hn.1
  have hn : n < 18446744073709551616 := by omega
  obtain ⟨x, hx, hx0, hx1⟩ := pick_val a1 8 h1 (by decide)
  obtain ⟨y, hy, hy0, hy1⟩ := pick_val a2 8 h2 (by decide)
  obtain ⟨x, rfl⟩ := Int.eq_ofNat_of_zero_le hx0
  obtain ⟨y, rfl⟩ := Int.eq_ofNat_of_zero_le hy0
  have hs : (nameB ⟨#[114, 111, 111, 116]⟩ ⟨#[120]⟩).size ≤ 1000 := by decide
  have hr := secret_ev ⟨#[114, 111, 111, 116]⟩ ⟨#[120]⟩ n (by decide) (by decide) hn
  rw [secret_tm _ _ n hs hn] at hr
  have hok := rootT_ok ⟨#[114, 111, 111, 116]⟩ ⟨#[120]⟩ n hs hn
  have hlen := rootT_len ⟨#[114, 111, 111, 116]⟩ ⟨#[120]⟩ n hs hn
  generalize rootT ⟨#[114, 111, 111, 116]⟩ ⟨#[120]⟩ n = t at hr hok hlen
  have hst : ∀ e : Nat, e ≤ 7 → Ev (fun k => regress_State.f k (tm t) (e : Int)) (tm (hT (7 - e) t), 0) := fun e he => by
    have := state_ev (tm t) (e : Int) (by rw [size_tm]; omega)
    rwa [state_tm e 3 t he hok (by omega) (by omega)] at this
  have hmx : mx (x : Int) (y : Int) = ((max x y : Nat) : Int) := by unfold mx; split <;> omega
  have hmn : mn (x : Int) (y : Int) = ((min x y : Nat) : Int) := by unfold mn; split <;> omega
  have hl : ∀ e, (enc (hT e t)).length = e + (enc t).length := fun e => len_hT e t
  have hk : ∀ e : Nat, e ≤ 7 → Ev (fun k => regress_Key.f k (tm (hT e t))) (tm (keyT (hT e t)), 0) := fun e he => by
    have := key_ev (tm (hT e t)) (by rw [size_tm, hl]; omega)
    rwa [key_tm (3 + e) (hT e t) (ok_hT e 3 t hok) (by omega) (by omega) (by rw [hl]; omega)] at this
  have hb : Ev (fun k => regress_Back.f k (tm (hT (7 - max x y) t)) ((max x y - min x y : Nat) : Int)) (tm (hT (7 - min x y) t), 0) := by
    have := back_ev (tm (hT (7 - max x y) t)) ((max x y - min x y : Nat) : Int) (by rw [size_tm, hl]; omega) (by omega)
    rwa [back_tm (max x y - min x y) 10 _ (ok_mono (ok_hT (7 - max x y) 3 t hok) (by omega)) (by omega) (by rw [hl]; omega), hT_hT, show 7 - max x y + (max x y - min x y) = 7 - min x y from by omega] at this
  have h8 : Ev (fun k => regress_State.f k (tm t) 8) (⟨#[]⟩, 9) := by
    have := state_ev (tm t) 8 (by rw [size_tm]; omega)
    rwa [show stateF (tm t) 8 = (⟨#[]⟩, 9) from by unfold stateF; rw [if_pos (right_tm ⟨ok_mono hok (by omega), by omega⟩)]; rfl] at this
  have h9 : Ev (fun k => regress_State.f k (tm t) (-1)) (⟨#[]⟩, 9) := by
    have := state_ev (tm t) (-1) (by rw [size_tm]; omega)
    rwa [show stateF (tm t) (-1) = (⟨#[]⟩, 9) from by unfold stateF; rw [if_pos (right_tm ⟨ok_mono hok (by omega), by omega⟩)]; rfl] at this
  have h7 := hst 7 (by omega)
  unfold letterlocklaw6_RegressLeads.f
  refine Ev.bind shown6_ev (Ev.pos rfl (Ev.bind hr (Ev.put hx (Ev.put hy ?_))))
  rw [hmx, hmn]
  refine Ev.bind (hst (max x y) (by omega)) (Ev.bind (hst (min x y) (by omega)) ?_)
  rw [show wrap64 (((max x y : Nat) : Int) - ((min x y : Nat) : Int)) = ((max x y - min x y : Nat) : Int) from by rw [w64 (by omega) (by omega)]; omega]
  refine Ev.bind hb (Ev.bind (hk _ (by omega)) (Ev.bind (hk _ (by omega)) (Ev.bind h7 (Ev.bind h8 (Ev.bind h9 (Ev.const ?_))))))
  have e1 : (enc (hT (7 - max x y) t) == enc (hT (7 - min x y) t)) = ((x : Int) == (y : Int)) := by
    by_cases e : x = y
    · subst e; rw [show max x x = min x x from by omega]; simp
    · have h3 : ¬ enc (hT (7 - max x y) t) = enc (hT (7 - min x y) t) := fun h => by
        have := congrArg List.length h; rw [hl, hl] at this; omega
      rw [beq_eq_false_iff_ne.mpr h3, beq_eq_false_iff_ne.mpr (by omega)]
  have e2 : (enc (keyT (hT (7 - max x y) t)) == enc (keyT (hT (7 - min x y) t))) = ((x : Int) == (y : Int)) := by
    by_cases e : x = y
    · subst e; rw [show max x x = min x x from by omega]; simp
    · have h3 : ¬ enc (keyT (hT (7 - max x y) t)) = enc (keyT (hT (7 - min x y) t)) := fun h => by
        have := congrArg List.length h
        simp only [keyT, enc, List.length_cons, List.length_append, hl] at this; omega
      rw [beq_eq_false_iff_ne.mpr h3, beq_eq_false_iff_ne.mpr (by omega)]
  have e3 : (enc (keyT (hT (7 - max x y) t)) != enc (hT (7 - max x y) t)) = true := bne_iff_ne.mpr fun h => by
    have := congrArg List.length h
    have := len_key (hT (7 - max x y) t)
    omega
  simp only [tm_list, if_true, e1, e2, e3, Nat.sub_self, hT]
  simp

end Go.Proofs.Ytpgbhgpjfjeomaa.Pure
