import Derived.Test.YtpgbhgpjfjeomaaEvRef
import Derived.Test.YtpgbhgpjfjeomaaEvBase
import Derived.Test.YtpgbhgpjfjeomaaHubJ
namespace Go.Proofs.Ytpgbhgpjfjeomaa.Pure
open Go.RowKit Go.Proofs.Ytpgbhgpjfjeomaa Go.Proofs.Ytpgbhgpjfjeomaa.Ref Go.Proofs.Ytpgbhgpjfjeomaa.PA Go.Proofs.YtpgbhgpjfjeomaaW.PrintWords Go.Proofs.YtpgbhgpjfjeomaaW.PrintLast
set_option linter.unusedVariables false

theorem parts_val (s : ByteArray) (h : s.size ≤ 9223372036854774000) : term_Parts.f s = some (partsF s) := by
  unfold term_Parts.f; rw [if_pos h]
theorem joins_loop (t : T) (n m i : Nat) (hm : i + m = n) (hn : n ≤ 100) (hw : ∀ j, j ≤ n → Wf (hT j t)) :
    Ev (fun k => letterlocklaw6_RegressJoins.l0 k (tm t) (n : Int) (tm (hT m t)) (i : Int)) true := by
  induction m generalizing i with
  | zero =>
    refine Ev.step (fun _ => rfl) (Ev.neg (by omega) (Ev.const ?_))
    show some ((tm t).toList == (tm t).toList) = some true
    simp
  | succ m ih =>
    have h1 : Wf (.one .h (hT m t)) := by rw [← hT_succ]; exact hw _ (by omega)
    have hs : (tm (.one .h (hT m t))).size ≤ 9223372036854774000 := by rw [size_tm]; have := h1.2; omega
    rw [hT_succ]
    refine Ev.step (fun _ => rfl) (Ev.pos (by omega) (Ev.put (parts_val _ hs) ?_))
    rw [parts_hash h1]
    refine Ev.pos rfl (Ev.pos rfl (Ev.put (kind_val _ hs) (Ev.pos (kind_hash h1) (Ev.pos (show (0 : Int) < 1 by decide) ?_))))
    rw [w64 (by omega) (by omega)]
    exact ih (i + 1) (by omega)

theorem RegressJoins : letterlocklaw6_RegressJoins.Pure := by
  intro l0 a1 a2 h0 h1 h2 h3 h4
  refine Ev.rounds ?_
  obtain ⟨s, hr, he⟩ := grown_ev l0 h2
  have hss := right_size hr
  obtain ⟨n, hn, hn0, hn1⟩ := pick_val a1 24 h3 (by decide)
  obtain ⟨m, hm, hm0, hm1⟩ := pick_val a2 24 h4 (by decide)
  obtain ⟨n, rfl⟩ := Int.eq_ofNat_of_zero_le hn0
  obtain ⟨m, rfl⟩ := Int.eq_ofNat_of_zero_le hm0
  obtain ⟨t, ht, rfl⟩ := right_tm_of hr
  have hB : ∀ i : Nat, i ≤ 100 → Ev (fun k => regress_Back.f k (tm t) (i : Int)) (hashesF i (tm t)) := fun i hi => by
    have := back_ev (tm t) (i : Int) (by omega) (by omega)
    rwa [back_right hr] at this
  unfold letterlocklaw6_RegressJoins.f
  refine Ev.bind shown6_ev (Ev.pos rfl (Ev.bind he (Ev.put hn (Ev.put hm (Ev.bind (hB n (by omega)) ?_)))))
  have hz := hB (n + m) (by omega)
  have ho := hB 0 (by omega)
  have hw : wrap64 ((n : Int) + (m : Int)) = ((n + m : Nat) : Int) := by rw [w64 (by omega) (by omega)]; omega
  rw [hw]
  rcases hashes_codes n (tm t) hr with ⟨c1, c2⟩ | c1
  · obtain ⟨d1, d2⟩ := hashes_inv n t ht c1
    have hj : hashesF (n + m) (tm t) = hashesF m (hashesF n (tm t)).1 := by rw [hashes_join, if_pos c1]
    have hy := back_ev (hashesF n (tm t)).1 (m : Int) (by have := right_size c2; omega) (by omega)
    rw [back_right c2] at hy
    rw [hj] at hz
    refine Ev.bind hy (Ev.bind hz (Ev.bind ho (Ev.pos rfl (Ev.step (fun _ => rfl) (Ev.neg (by simp [hashesF]) (Ev.pos c1 (Ev.pos rfl (Ev.pos rfl ?_))))))))
    have hgo : Ev (fun k => letterlocklaw6_RegressJoins.j1 k (tm t) (n : Int) (hashesF n (tm t)).1 false) true := by
      rw [d1]
      exact Ev.step (fun _ => rfl) (joins_loop t n n 0 (by omega) (by omega) d2)
    rcases hashes_codes m (hashesF n (tm t)).1 c2 with ⟨e1, e2⟩ | e1
    · exact Ev.pos e1 hgo
    · rw [e1]
      exact Ev.neg (by simp) hgo
  · have hj : hashesF (n + m) (tm t) = (⟨#[]⟩, 10) := by rw [hashes_join, c1, if_neg (by simp)]
    rw [c1]
    rw [hj] at hz
    obtain ⟨y, hy⟩ : ∃ y, Ev (fun k => regress_Back.f k (⟨#[]⟩ : ByteArray) (m : Int)) y := ⟨_, back_ev _ _ (by decide) (by omega)⟩
    refine Ev.bind hy (Ev.bind hz (Ev.bind ho (Ev.pos rfl (Ev.step (fun _ => rfl) (Ev.neg (by simp [hashesF]) (Ev.neg (by simp) (Ev.pos rfl (Ev.pos rfl (Ev.pos (by rw [bytes_toList]; rfl) (Ev.const ?_))))))))))
    rw [bytes_toList]
    rfl

end Go.Proofs.Ytpgbhgpjfjeomaa.Pure
