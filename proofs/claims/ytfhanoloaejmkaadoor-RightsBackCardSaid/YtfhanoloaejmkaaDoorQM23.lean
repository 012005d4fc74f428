/- Contracts and laws that the statement of LawRightsUndo,LawRightsBack,LawRightsErrs leans on (packed from this claim's own texts): part 23. -/
import Derived.Test.YtfhanoloaejmkaaDoorQM19
import Derived.Test.YtfhanoloaejmkaaDoorQM22
section

namespace Go.Proofs.YtfhanoloaejmkaaDoor
open Go.RowKit Go.Proofs.YtfhanoloaejmkaaDoorW.PrintWords Go.Proofs.YtfhanoloaejmkaaDoorW.PrintLast Go.Proofs.YtfhanoloaejmkaaDoor.Ref Go.Proofs.YtfhanoloaejmkaaDoor.PC
set_option linter.unusedVariables false
set_option linter.unusedSimpArgs false
theorem takeB_f (s : ByteArray) (h : s.size ≤ 1000000) : wire_TakeAll.f s 5 4000 = some (takeAllF 5 4000 s) := by
  unfold wire_TakeAll.f; rw [if_pos ⟨h, by omega, by omega, by omega, by omega⟩]; rfl
theorem take_len (s : ByteArray) : (takeAllF 5 4000 s).1.length ≤ 5 ∧ ∀ x ∈ (takeAllF 5 4000 s).1, x.size ≤ 4000 := by
  by_cases h : (takeAllF 5 4000 s).2 = 0
  · have := takeAll_inv (s := s) (l := (takeAllF 5 4000 s).1) (by rw [← h])
    exact this.2
  · have : (takeAllF 5 4000 s).1 = [] := by
      unfold takeAllF at h ⊢
      split
      · rename_i h1
        rw [if_pos h1] at h
        split
        · rfl
        · rename_i h2
          rw [if_neg h2] at h
          have : ∀ (n : Nat) (q : ByteArray) (acc : List ByteArray), (takeGo 4000 n q acc).2 ≠ 0 → (takeGo 4000 n q acc).1 = [] := by
            intro n
            induction n with
            | zero =>
              intro q acc hq
              rw [takeGo] at hq ⊢
              split
              · rename_i e; rw [if_pos e] at hq; exact absurd rfl hq
              · rfl
            | succ n ih =>
              intro q acc hq
              rw [takeGo] at hq ⊢
              split
              · rename_i e; rw [if_pos e] at hq; exact ih _ _ hq
              · rfl
          exact this _ _ _ h
      · rfl
    rw [this]
    exact ⟨by simp, by simp⟩
theorem take_ev (s : ByteArray) (h : s.size ≤ 100000) : Ev (fun k => rights_Take.f k s) ((takeR s).1.o, (takeR s).1.f, (takeR s).1.e, (takeR s).1.rs, (takeR s).1.ws, (takeR s).2) := by
  have hj : ∀ (l : List ByteArray), Ev (fun k => rights_Take.j0 k s l true) (noRt.o, noRt.f, noRt.e, noRt.rs, noRt.ws, 2) := fun l => Ev.step (fun _ => rfl) (Ev.now _)
  have hl := take_len s
  unfold rights_Take.f
  refine Ev.put (takeB_f s (by omega)) ?_
  unfold takeR
  by_cases c1 : (takeAllF 5 4000 s).2 = 0
  · refine Ev.pos c1 ?_
    by_cases c2 : (takeAllF 5 4000 s).1.length = 5
    · rw [if_pos ⟨c1, c2⟩, show (((takeAllF 5 4000 s).1.length : Int) != 5) = false by rw [c2]; rfl]
      generalize (takeAllF 5 4000 s).1 = l at hl c2
      have h2 : (nth l 2).size ≤ 4000 := hl.2 _ (nth_mem (by omega))
      have h3 : (nth l 3).size ≤ 4000 := hl.2 _ (nth_mem (by omega))
      have h4 : (nth l 4).size ≤ 4000 := hl.2 _ (nth_mem (by omega))
      have h0 : (nth l 0).size ≤ 4000 := hl.2 _ (nth_mem (by omega))
      have h1 : (nth l 1).size ≤ 4000 := hl.2 _ (nth_mem (by omega))
      have hn := (takeF_size (nth l 2)).2
      have hm : wrap64 (mn (takeF (nth l 2)).1 8) = least8 (takeF (nth l 2)).1 := by
        unfold mn least8
        split
        · exact w64 (by omega) (by omega)
        · exact w64 (by omega) (by omega)
      have hsm : smallR (rtOf l (least8 (takeF (nth l 2)).1)) = true := by
        have e8 : -9223372036854775808 ≤ least8 (takeF (nth l 2)).1 ∧ least8 (takeF (nth l 2)).1 ≤ 9223372036854775807 := by unfold least8; split <;> omega
        have t3 := take_len (nth l 3)
        have t4 := take_len (nth l 4)
        exact small_mk (by show (nth l 0).size ≤ _; omega) (by show (nth l 1).size ≤ _; omega) e8 (by show (takeAllF 5 4000 (nth l 3)).1.length ≤ _; omega) (by show (takeAllF 5 4000 (nth l 4)).1.length ≤ _; omega) (fun x hx => Nat.le_trans (t3.2 x hx) (by omega)) (fun x hx => Nat.le_trans (t4.2 x hx) (by omega))
      refine Ev.step (fun _ => rfl) ?_
      refine Ev.pos (by omega) (Ev.pos (by omega) (Ev.pos (by omega) ?_))
      rw [show rdOf ByteArray.empty l 2 = nth l 2 from rdOf_nth l 2, show rdOf ByteArray.empty l 3 = nth l 3 from rdOf_nth l 3, show rdOf ByteArray.empty l 4 = nth l 4 from rdOf_nth l 4, show rdOf ByteArray.empty l 0 = nth l 0 from rdOf_nth l 0, show rdOf ByteArray.empty l 1 = nth l 1 from rdOf_nth l 1]
      refine Ev.put (show wire_Take.f (nth l 2) = some (takeF (nth l 2)) by unfold wire_Take.f; rw [if_pos (by omega)]) ?_
      refine Ev.pos (by omega) (Ev.put (takeB_f _ (by omega)) (Ev.pos (by omega) (Ev.put (takeB_f _ (by omega)) ?_)))
      rw [hm]
      refine Ev.put (put_f (rtOf l (least8 (takeF (nth l 2)).1)) hsm) ?_
      by_cases c3 : (putF (rtOf l (least8 (takeF (nth l 2)).1))).2 = 0
      · by_cases c4 : (putF (rtOf l (least8 (takeF (nth l 2)).1))).1 = s
        · exact ev_cast (Ev.pos c3 (Ev.pos ((list_eq _ _).2 c4) (Ev.now _))) (by rw [if_pos ⟨c3, c4⟩]; rfl)
        · exact ev_cast (Ev.pos c3 (Ev.neg (fun e => c4 ((list_eq _ _).1 e)) (Ev.now _))) (by rw [if_neg (fun e => c4 e.2)]; rfl)
      · exact ev_cast (Ev.neg c3 (Ev.now _)) (by rw [if_neg (fun e => c3 e.1)]; rfl)
    · rw [show (((takeAllF 5 4000 s).1.length : Int) != 5) = true by rw [bne_iff_ne]; omega]
      exact ev_cast (hj _) (by rw [if_neg (fun e => c2 e.2)])
  · exact ev_cast (Ev.neg c1 (hj _)) (by rw [if_neg (fun e => c1 e.1)])
theorem take_call (s : ByteArray) (w : World) (HTB : Aside0 (Tabs w)) (h : s.size ≤ 100000) : Calls Tryd.prog 22 #[.string s] w (Told w (takeR s)) := by
  obtain ⟨K, hk⟩ := take_ev s h
  exact (rights_Take.calls K s _ _ _ _ _ _ w HTB (hk K (Nat.le_refl _))).mono fun e w' ⟨v3, v4, he, h3, h4, hb⟩ => told_of he h3 h4 hb
theorem take_at {w : World} (HTB : Aside0 (Tabs w)) {s : ByteArray} (hs : s.size ≤ 100000) {S : Rt × Int} (hS : takeR s = S) :
    ∀ W : World, Below w.heap.size w W → Calls Tryd.prog 22 #[.string s] W (Told W S) :=
  fun W hb => hS ▸ take_call s W ⟨HTB.out.below hb⟩ hs
end Go.Proofs.YtfhanoloaejmkaaDoor
end
