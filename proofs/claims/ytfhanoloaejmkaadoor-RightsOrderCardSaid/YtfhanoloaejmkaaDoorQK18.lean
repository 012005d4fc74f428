/- Contracts and laws that the statement of LawRightsOrder leans on (packed from this claim's own texts): part 18. -/
import Derived.Test.YtfhanoloaejmkaaDoorQK10
import Derived.Test.YtfhanoloaejmkaaDoorQK14
import Derived.Test.YtfhanoloaejmkaaDoorQK16
import Derived.Test.YtfhanoloaejmkaaDoorQK17
section

namespace Go.Proofs.YtfhanoloaejmkaaDoor
open Go.RowKit Go.Proofs.YtfhanoloaejmkaaDoorW.PrintWords Go.Proofs.YtfhanoloaejmkaaDoorW.PrintLast Go.Proofs.YtfhanoloaejmkaaDoor.Ref Go.Proofs.YtfhanoloaejmkaaDoor.PC
set_option linter.unusedVariables false
set_option linter.unusedSimpArgs false
theorem drop_eq {l m : List ByteArray} {i : Nat} (h : i < l.length) (h2 : i < m.length) : (l.drop i = m.drop i) ↔ (l[i] = m[i] ∧ l.drop (i + 1) = m.drop (i + 1)) := by
  rw [List.drop_eq_getElem_cons h, List.drop_eq_getElem_cons h2, List.cons_eq_cons]
theorem same_l1 (a b : Rt) (hl : a.ws.length = b.ws.length) (hs : a.ws.length ≤ 1000000) (m i : Nat) (hm : i + m = a.ws.length) :
    Ev (fun k => letterlockref7_Same.l1 k (i : Int) a.o a.f a.e a.rs a.ws b.o b.f b.e b.rs b.ws) (decide (a.ws.drop i = b.ws.drop i)) := by
  induction m generalizing i with
  | zero =>
    rw [List.drop_eq_nil_of_le (by omega), List.drop_eq_nil_of_le (by omega), decide_eq_true rfl]
    exact Ev.step (fun _ => rfl) (Ev.neg (by omega) (Ev.now _))
  | succ m ih =>
    have hi : i < a.ws.length := by omega
    have hi2 : i < b.ws.length := by omega
    refine Ev.step (fun _ => rfl) (Ev.pos (by omega) (Ev.pos (by omega) (Ev.pos (by omega) ?_)))
    rw [rdOf_nth, nth_get hi, rdOf_nth, nth_get hi2, w64 (n := (i : Int) + 1) (by omega) (by omega)]
    by_cases h : a.ws[i] = b.ws[i]
    · exact Ev.pos ((list_eq _ _).2 h) (ev_cast (ih (i + 1) (by omega)) (decide_eq_decide.2 ((drop_eq hi hi2).trans ⟨fun e => e.2, fun e => ⟨h, e⟩⟩).symm))
    · exact Ev.neg (fun e => h ((list_eq _ _).1 e)) (ev_cast (Ev.now _) (decide_eq_false (fun e => h ((drop_eq hi hi2).1 e).1)).symm)
theorem same_l0 (a b : Rt) (hr : a.rs.length = b.rs.length) (hl : a.ws.length = b.ws.length) (hs0 : a.rs.length ≤ 1000000) (hs : a.ws.length ≤ 1000000) (m i : Nat) (hm : i + m = a.rs.length) :
    Ev (fun k => letterlockref7_Same.l0 k (i : Int) a.o a.f a.e a.rs a.ws b.o b.f b.e b.rs b.ws) (decide (a.rs.drop i = b.rs.drop i) && decide (a.ws = b.ws)) := by
  induction m generalizing i with
  | zero =>
    rw [List.drop_eq_nil_of_le (by omega), List.drop_eq_nil_of_le (by omega), decide_eq_true rfl, Bool.true_and]
    exact Ev.step (fun _ => rfl) (Ev.neg (by omega) (same_l1 a b hl hs a.ws.length 0 (by omega)))
  | succ m ih =>
    have hi : i < a.rs.length := by omega
    have hi2 : i < b.rs.length := by omega
    refine Ev.step (fun _ => rfl) (Ev.pos (by omega) (Ev.pos (by omega) (Ev.pos (by omega) ?_)))
    rw [rdOf_nth, nth_get hi, rdOf_nth, nth_get hi2, w64 (n := (i : Int) + 1) (by omega) (by omega)]
    by_cases h : a.rs[i] = b.rs[i]
    · exact Ev.pos ((list_eq _ _).2 h) (ev_cast (ih (i + 1) (by omega)) (congrArg (· && _) (decide_eq_decide.2 ((drop_eq hi hi2).trans ⟨fun e => e.2, fun e => ⟨h, e⟩⟩).symm)))
    · refine Ev.neg (fun e => h ((list_eq _ _).1 e)) (ev_cast (Ev.now _) ?_)
      rw [decide_eq_false (fun e => h ((drop_eq hi hi2).1 e).1), Bool.false_and]
theorem same_ev (a b : Rt) (h1 : a.rs.length ≤ 1000000) (h2 : a.ws.length ≤ 1000000) (h3 : b.rs.length ≤ 1000000) (h4 : b.ws.length ≤ 1000000) :
    Ev (fun k => letterlockref7_Same.f k a.o a.f a.e a.rs a.ws b.o b.f b.e b.rs b.ws) (sameR a b) := by
  have hj : ∀ x : Bool, (∀ k, letterlockref7_Same.j0 (k + 1) x a.o a.f a.e a.rs a.ws b.o b.f b.e b.rs b.ws = if x = true then some false else letterlockref7_Same.l0 k 0 a.o a.f a.e a.rs a.ws b.o b.f b.e b.rs b.ws) := fun x k => rfl
  have bad : Ev (fun k => letterlockref7_Same.j0 k true a.o a.f a.e a.rs a.ws b.o b.f b.e b.rs b.ws) false := Ev.step (hj true) (Ev.pos rfl (Ev.now _))
  unfold letterlockref7_Same.f sameR
  by_cases c1 : a.o = b.o
  · refine Ev.pos ((list_eq _ _).2 c1) ?_
    by_cases c2 : a.f = b.f
    · refine Ev.pos ((list_eq _ _).2 c2) ?_
      by_cases c3 : a.e = b.e
      · refine Ev.pos c3 ?_
        rw [decide_eq_true c1, decide_eq_true c2, decide_eq_true c3, Bool.true_and, Bool.true_and, Bool.true_and]
        by_cases c4 : a.rs.length = b.rs.length
        · refine Ev.pos (by omega) ?_
          by_cases c5 : a.ws.length = b.ws.length
          · rw [show ((a.ws.length : Int) != (b.ws.length : Int)) = false by rw [c5]; simp]
            exact Ev.step (hj false) (Ev.neg (by simp) (same_l0 a b c4 c5 h1 h2 a.rs.length 0 (by omega)))
          · rw [show ((a.ws.length : Int) != (b.ws.length : Int)) = true by rw [bne_iff_ne]; omega]
            exact ev_cast bad (by rw [decide_eq_false (p := a.ws = b.ws) (fun e => c5 (by rw [e])), Bool.and_false])
        · exact Ev.neg (by omega) (ev_cast bad (by rw [decide_eq_false (fun e => c4 (by rw [e])), Bool.false_and]))
      · exact Ev.neg c3 (ev_cast bad (by rw [decide_eq_false c3]; simp))
    · exact Ev.neg (fun e => c2 ((list_eq _ _).1 e)) (ev_cast bad (by rw [decide_eq_false c2]; simp))
  · exact Ev.neg (fun e => c1 ((list_eq _ _).1 e)) (ev_cast bad (by rw [decide_eq_false c1]; simp))
theorem same_call (a b : Rt) (A : Option Addr) (c : Nat) (A' : Option Addr) (c' : Nat) (D : Option Addr) (d : Nat) (D' : Option Addr) (d' : Nat) (w : World) (ha : smallR a = true) (hb : smallR b = true) {B B' : Nat} (h : RowsAt w B a A c A' c') (h' : RowsAt w B' b D d D' d') :
    Calls Tryd.prog 20 #[.agg #[.string a.o, .string a.f, .int .i64 a.e, .slice A a.rs.length c, .slice A' a.ws.length c'], .agg #[.string b.o, .string b.f, .int .i64 b.e, .slice D b.rs.length d, .slice D' b.ws.length d']] w fun e w' => e = .returned (.bool (sameR a b)) ∧ Below w.heap.size w w' := by
  obtain ⟨a1, a2, a3, a4, a5, a6, a7⟩ := small_parts ha
  obtain ⟨b1, b2, b3, b4, b5, b6, b7⟩ := small_parts hb
  obtain ⟨K, hk⟩ := same_ev a b (by omega) (by omega) (by omega) (by omega)
  exact letterlockref7_Same.calls K a.o a.f a.e A c a.rs A' c' a.ws b.o b.f b.e D d b.rs D' d' b.ws _ w h.h1 h.h2 h.h3 h.h4 h'.h1 h'.h2 h'.h3 h'.h4 (hk K (Nat.le_refl _))
theorem rightB_f (r : Rt) (h : smallR r = true) : rights_Right.f r.o r.f r.e r.rs r.ws = some (rightR r) := by
  unfold rights_Right.f; rw [if_pos (show smallR ⟨r.o, r.f, r.e, r.rs, r.ws⟩ = true from h)]
theorem putB_f (l : List ByteArray) (hl : l.length ≤ 1000) (h : ∀ s ∈ l, s.size ≤ 100000) : wire_PutAll.f l = some (allB l) := by
  unfold wire_PutAll.f; rw [if_pos ⟨hl, fun s hs => Nat.le_trans (h s hs) (by omega)⟩]
theorem put_f (r : Rt) (h : smallR r = true) : rights_Put.f r.o r.f r.e r.rs r.ws = some (putF r) := by
  unfold rights_Put.f putF
  rw [rightB_f r h]
  show (if rightR r = true then _ else _) = _
  by_cases c : rightR r = true
  · rw [if_pos c, if_pos c]
    obtain ⟨p1, p2, p3, p4, p5, p6, p7, p8, p9⟩ := right_parts c
    have hw : IntKind.u64.wrap r.e = r.e := by show r.e % 18446744073709551616 = r.e; omega
    have e1 : wire_Put.f (IntKind.u64.wrap r.e) = some (numB r.e.toNat) := by
      rw [hw]; unfold wire_Put.f; rw [if_pos (by omega)]
    have e2 := putB_f r.rs (by omega) fun s hs => Nat.le_trans (name_size (p7 s hs).1) (by omega)
    have e3 := putB_f r.ws (by omega) fun s hs => Nat.le_trans (name_size (p8 s hs).1) (by omega)
    have e4 := putB_f (bagR r) (by show 5 ≤ 1000; omega) fun s hs => Nat.le_trans (bag_small c s hs) (by omega)
    rw [e1, e2, e3]
    show (wire_PutAll.f (bagR r)).bind _ = _
    rw [e4]
    rfl
  · rw [if_neg c, if_neg c]
theorem put_call (r : Rt) (A : Option Addr) (c : Nat) (A' : Option Addr) (c' : Nat) (w : World) (HTB : Aside0 (Tabs w)) (hs : smallR r = true) {B : Nat} (h : RowsAt w B r A c A' c') :
    Calls Tryd.prog 19 #[.agg #[.string r.o, .string r.f, .int .i64 r.e, .slice A r.rs.length c, .slice A' r.ws.length c']] w fun e w' => e = .returned (.tuple #[.string (putF r).1, .int .i64 (putF r).2]) ∧ Below w.heap.size w w' :=
  rights_Put.calls r.o r.f r.e A c r.rs A' c' r.ws _ _ w HTB h.h1 h.h2 h.h3 h.h4 (put_f r hs)
end Go.Proofs.YtfhanoloaejmkaaDoor
end
section

namespace Go.Proofs.YtfhanoloaejmkaaDoor
open Go.RowKit Go.Proofs.YtfhanoloaejmkaaDoorW.PrintWords Go.Proofs.YtfhanoloaejmkaaDoorW.PrintLast Go.Proofs.YtfhanoloaejmkaaDoor.Ref
set_option linter.unusedVariables false
theorem grant_at {w : World} (HTB : Aside0 (Tabs w)) {r : Rt} (hs : smallR r = true) {u : ByteArray} (hu : u.size ≤ 1000000) (b : Bool) {S : Rt × Int} (hS : grantF r u b = S) (A : Option Addr) (c : Nat) (A' : Option Addr) (c' : Nat) :
    ∀ W : World, Below w.heap.size w W → RowsAt W 0 r A c A' c' → Calls Tryd.prog 14 #[.agg #[.string r.o, .string r.f, .int .i64 r.e, .slice A r.rs.length c, .slice A' r.ws.length c'], .string u, .bool b] W (Told W S) :=
  fun W hb h => hS ▸ grant_call r u b A c A' c' W ⟨HTB.out.below hb⟩ hs hu h
theorem right_at {w : World} (HTB : Aside0 (Tabs w)) {r : Rt} (hs : smallR r = true) {S : Bool} (hS : rightR r = S) (A : Option Addr) (c : Nat) (A' : Option Addr) (c' : Nat) :
    ∀ W : World, Below w.heap.size w W → RowsAt W 0 r A c A' c' → Calls Tryd.prog 17 #[.agg #[.string r.o, .string r.f, .int .i64 r.e, .slice A r.rs.length c, .slice A' r.ws.length c']] W fun e w' => e = .returned (.bool S) ∧ Below W.heap.size W w' :=
  fun W hb h => hS ▸ right_call r A c A' c' W ⟨HTB.out.below hb⟩ hs h
theorem put_at {w : World} (HTB : Aside0 (Tabs w)) {r : Rt} (hs : smallR r = true) {S : ByteArray × Int} (hS : putF r = S) (A : Option Addr) (c : Nat) (A' : Option Addr) (c' : Nat) :
    ∀ W : World, Below w.heap.size w W → RowsAt W 0 r A c A' c' → Calls Tryd.prog 19 #[.agg #[.string r.o, .string r.f, .int .i64 r.e, .slice A r.rs.length c, .slice A' r.ws.length c']] W fun e w' => e = .returned (.tuple #[.string S.1, .int .i64 S.2]) ∧ Below W.heap.size W w' :=
  fun W hb h => hS ▸ put_call r A c A' c' W ⟨HTB.out.below hb⟩ hs h
theorem same_at {a b : Rt} (ha : smallR a = true) (hb : smallR b = true) {S : Bool} (hS : sameR a b = S) (A : Option Addr) (c : Nat) (A' : Option Addr) (c' : Nat) (D : Option Addr) (d : Nat) (D' : Option Addr) (d' : Nat) :
    ∀ W : World, RowsAt W 0 a A c A' c' → RowsAt W 0 b D d D' d' → Calls Tryd.prog 20 #[.agg #[.string a.o, .string a.f, .int .i64 a.e, .slice A a.rs.length c, .slice A' a.ws.length c'], .agg #[.string b.o, .string b.f, .int .i64 b.e, .slice D b.rs.length d, .slice D' b.ws.length d']] W fun e w' => e = .returned (.bool S) ∧ Below W.heap.size W w' :=
  fun W h h' => hS ▸ same_call a b A c A' c' D d D' d' W ha hb h h'
theorem done_at {w : World} {A : Option Addr} {l : List (Int × Int)} (hr : Kd.C actK w A l.length l) (c : Nat) (hl : l.length ≤ 9223372036854775807) (ha : ∀ a ∈ l, actOk a) {R : Rt} (hR : doneF l = R) :
    ∀ W : World, Below w.heap.size w W → Calls Tryd.prog 18 #[.slice A l.length c] W (TheR W R) :=
  fun W hb => hR ▸ done_any A c l W (Kd.C_below hr hb) hl ha
theorem grant_ok {r : Rt} (h : rightR r = true) {u : ByteArray} (hu : rightN (bytes u) = true) {b : Bool} (h0 : (grantF r u b).2 = 0) : grantF r u b = (putIn r u b, 0) ∧ canF r u false = false ∧ r.rs.length + r.ws.length < 5 ∧ rightR (putIn r u b) = true := by
  rw [grant_cases h hu] at h0 ⊢
  split at h0
  · cases h0
  · rename_i c1
    split at h0
    · cases h0
    · rename_i c2
      rw [if_neg c1, if_neg c2]
      have c1' : canF r u false = false := by simpa using c1
      exact ⟨rfl, c1', by omega, put_right h hu c1' (by omega) b⟩
theorem rt_ext {a b : Rt} (h1 : a.o = b.o) (h2 : a.f = b.f) (h3 : a.e = b.e) (h4 : a.rs = b.rs) (h5 : a.ws = b.ws) : a = b := by cases a; cases b; simp_all
theorem order_law {r : Rt} (h : rightR r = true) {u v : ByteArray} (hu : rightN (bytes u) = true) (hv : rightN (bytes v) = true) (x y : Bool) (h1 : (grantF r u x).2 = 0) (h2 : (grantF (grantF r u x).1 v y).2 = 0) (h3 : (grantF r v y).2 = 0) (h4 : (grantF (grantF r v y).1 u x).2 = 0) :
    (grantF (grantF r u x).1 v y).1 = (grantF (grantF r v y).1 u x).1 ∧ rightR (grantF (grantF r u x).1 v y).1 = true := by
  obtain ⟨e1, _, _, r1⟩ := grant_ok h hu h1
  obtain ⟨e3, _, _, r3⟩ := grant_ok h hv h3
  rw [e1] at h2 ⊢
  rw [e3] at h4 ⊢
  obtain ⟨e2, _, _, r2⟩ := grant_ok r1 hv h2
  obtain ⟨e4, _, _, r4⟩ := grant_ok r3 hu h4
  rw [e2, e4]
  refine ⟨?_, r2⟩
  have p2 := right_parts r2
  have p4 := right_parts r4
  refine rt_ext ?_ ?_ ?_ (rises_ext p2.2.2.2.2.1 p4.2.2.2.2.1 fun a => ?_) (rises_ext p2.2.2.2.2.2.1 p4.2.2.2.2.2.1 fun a => ?_)
  · unfold putIn; cases x <;> cases y <;> rfl
  · unfold putIn; cases x <;> cases y <;> rfl
  · unfold putIn; cases x <;> cases y <;> rfl
  · show a ∈ (putIn (putIn r u x) v y).rs ↔ a ∈ (putIn (putIn r v y) u x).rs
    rw [put_mem.2.1, put_mem.2.1, put_mem.2.1, put_mem.2.1]
    exact ⟨fun e => e.elim (fun e => Or.inr (Or.inl e)) (fun e => e.elim Or.inl fun e => Or.inr (Or.inr e)), fun e => e.elim (fun e => Or.inr (Or.inl e)) (fun e => e.elim Or.inl fun e => Or.inr (Or.inr e))⟩
  · show a ∈ (putIn (putIn r u x) v y).ws ↔ a ∈ (putIn (putIn r v y) u x).ws
    rw [put_mem.2.2, put_mem.2.2, put_mem.2.2, put_mem.2.2]
    exact ⟨fun e => e.elim (fun e => Or.inr (Or.inl e)) (fun e => e.elim Or.inl fun e => Or.inr (Or.inr e)), fun e => e.elim (fun e => Or.inr (Or.inl e)) (fun e => e.elim Or.inl fun e => Or.inr (Or.inr e))⟩
end Go.Proofs.YtfhanoloaejmkaaDoor
end
section

namespace Go.Proofs.YtfhanoloaejmkaaDoor
open Go.RowKit Go.Proofs.YtfhanoloaejmkaaDoorW.PrintWords Go.Proofs.YtfhanoloaejmkaaDoorW.PrintLast Go.Proofs.YtfhanoloaejmkaaDoor.Ref
set_option linter.unusedVariables false
set_option linter.unusedSimpArgs false
set_option maxHeartbeats 8000000 in
set_option maxRecDepth 100000 in
theorem order_any (A : Option Addr) (c : Nat) (l : List (Int × Int)) (a b : Int) (x y : Bool) (w : World) (HTB : Aside0 (Tabs w)) (hr : Kd.C actK w A l.length l) (g : l.length ≤ 9223372036854775807 ∧ ∀ a ∈ l, (Lit.int .i64 a.1).wf = true ∧ (Lit.int .i64 a.2).wf = true) (ha0 : (Lit.int .i64 a).wf = true) (hb0 : (Lit.int .i64 b).wf = true) :
    Calls Tryd.prog 6 #[.slice A l.length c, .int .i64 a, .int .i64 b, .bool x, .bool y] w fun e w' => e = .returned (.bool true) ∧ Below w.heap.size w w' := by
  have H1 := Lib.hid (shown_call w HTB)
  have hA := i64_wf ha0
  have hB := i64_wf hb0
  obtain ⟨r, hr0⟩ : ∃ r, doneF l = r := ⟨_, rfl⟩
  have HD := Lib.hid (done_at hr c g.1 (acts_ok g.2) hr0)
  have HG : Hid (Good7 r) := Lib.hid (hr0 ▸ good_done l)
  have HWa := Lib.hid (fun W => who_call a W hA)
  have HWb := Lib.hid (fun W => who_call b W hB)
  have hu := who_good a
  have hv := who_good b
  generalize whoF a = u at HWa hu
  generalize whoF b = v at HWb hv
  have hr1 := HG.out.1
  obtain ⟨S, hS⟩ : ∃ S, grantF r u x = S := ⟨_, rfl⟩
  obtain ⟨T, hT⟩ : ∃ T, grantF S.1 v y = T := ⟨_, rfl⟩
  obtain ⟨P, hP⟩ : ∃ P, grantF r v y = P := ⟨_, rfl⟩
  obtain ⟨Q, hQ⟩ : ∃ Q, grantF P.1 u x = Q := ⟨_, rfl⟩
  have sr := right_small hr1
  have sS : smallR S.1 = true := hS ▸ grant_small
  have sT : smallR T.1 = true := hT ▸ grant_small
  have sP : smallR P.1 = true := hP ▸ grant_small
  have sQ : smallR Q.1 = true := hQ ▸ grant_small
  have HL : Hid (S.2 = 0 → T.2 = 0 → P.2 = 0 → Q.2 = 0 → T.1 = Q.1 ∧ rightR T.1 = true) := Lib.hid (by
    intro h1 h2 h3 h4
    have := order_law hr1 hu hv x y (by rw [hS]; exact h1) (by rw [hS, hT]; exact h2) (by rw [hP]; exact h3) (by rw [hP, hQ]; exact h4)
    rwa [hS, hT, hP, hQ] at this)
  have HGS := Lib.hid (fun A c A' c' => grant_at HTB sr (name_small hu) x hS A c A' c')
  have HGT := Lib.hid (fun A c A' c' => grant_at HTB sS (name_small hv) y hT A c A' c')
  have HGP := Lib.hid (fun A c A' c' => grant_at HTB sr (name_small hv) y hP A c A' c')
  have HGQ := Lib.hid (fun A c A' c' => grant_at HTB sP (name_small hu) x hQ A c A' c')
  have HPT := Lib.hid (fun A c A' c' => put_at HTB sT rfl A c A' c')
  have HPQ := Lib.hid (fun A c A' c' => put_at HTB sQ rfl A c A' c')
  have HSM := Lib.hid (fun A c A' c' D d D' d' => same_at sT sQ rfl A c A' c' D d D' d')
  have HRT := Lib.hid (fun A c A' c' => right_at HTB sT rfl A c A' c')
  clear hr0 hu hv hr1 hS hT hP hQ sr sS sT sP sQ hA hB ha0 hb0 hr g
  go_enter Tryd.func6, Tryd.ntmps6
  have HB := Lib.hid (Below.refl w.heap.size w)
  go_wp2_with fail
  refine (H1.out).mono ?_
  rintro e W1 ⟨rfl, hb⟩
  replace HB := Lib.hid (below_step HB.out hb)
  clear hb
  go_wp2_with fail
  refine (HD.out _ HB.out).mono ?_
  rintro e W2 ⟨Ar, cr, Br, dr, rfl, hr, hb0⟩
  obtain ⟨hb, hr'⟩ := boxed hb0 hr
  have HXr := Lib.hid (box_new W2 r (.slice Ar r.rs.length cr) (.slice Br r.ws.length dr))
  have hlr := hb0.size
  replace HB := Lib.hid (below_step HB.out hb)
  have HRr := Lib.hid (hr'.lower (Nat.zero_le _))
  clear hr hb0 hb hr' hlr
  go_wp2_with fail
  refine (HWa.out _).mono ?_
  rintro e W3 ⟨rfl, hb⟩
  replace HB := Lib.hid (below_step HB.out hb)
  replace HXr := Lib.hid (HXr.out.below hb)
  replace HRr := Lib.hid (HRr.out.below hb)
  clear hb
  go_wp2_with fail
  refine (HWb.out _).mono ?_
  rintro e W4 ⟨rfl, hb⟩
  replace HB := Lib.hid (below_step HB.out hb)
  replace HXr := Lib.hid (HXr.out.below hb)
  replace HRr := Lib.hid (HRr.out.below hb)
  clear hb
  by_cases huv : u = v
  · have e0 : (u.toList == v.toList) = true := by rw [huv]; simp
    clear huv
    go_wp2
    go_ret
    exact ⟨rfl, HB.out⟩
  · have e0 : (u.toList == v.toList) = false := by rw [beq_eq_false_iff_ne]; exact fun e => huv ((list_eq _ _).1 e)
    clear huv
    obtain ⟨qr0, qr1, qr2, qr3, qr4⟩ := HXr.out.cell
    go_wp2_with fail
    refine (HGS.out Ar cr Br dr _ HB.out HRr.out).mono ?_
    rintro e W5 ⟨As, cs, Bs, ds, rfl, hr, hb0⟩
    clear qr0 qr1 qr2 qr3 qr4
    obtain ⟨hb, hr'⟩ := boxed hb0 hr
    have HXs := Lib.hid (box_new W5 S.1 (.slice As S.1.rs.length cs) (.slice Bs S.1.ws.length ds))
    have hls := hb0.size
    replace HB := Lib.hid (below_step HB.out hb)
    replace HXr := Lib.hid (HXr.out.below hb)
    replace HRr := Lib.hid (HRr.out.below hb)
    have HRs := Lib.hid (hr'.lower (Nat.zero_le _))
    clear hr hb0 hb hr' hls
    clear e0
    obtain ⟨qs0, qs1, qs2, qs3, qs4⟩ := HXs.out.cell
    go_wp2_with fail
    refine (HGT.out As cs Bs ds _ HB.out HRs.out).mono ?_
    rintro e W6 ⟨At, ct, Bt, dt, rfl, hr, hb0⟩
    clear qs0 qs1 qs2 qs3 qs4
    obtain ⟨hb, hr'⟩ := boxed hb0 hr
    have HXt := Lib.hid (box_new W6 T.1 (.slice At T.1.rs.length ct) (.slice Bt T.1.ws.length dt))
    have hlt := hb0.size
    replace HB := Lib.hid (below_step HB.out hb)
    replace HXr := Lib.hid (HXr.out.below hb)
    replace HRr := Lib.hid (HRr.out.below hb)
    replace HXs := Lib.hid (HXs.out.below hb)
    replace HRs := Lib.hid (HRs.out.below hb)
    have HRt := Lib.hid (hr'.lower (Nat.zero_le _))
    clear hr hb0 hb hr' hlt
    obtain ⟨qr0, qr1, qr2, qr3, qr4⟩ := HXr.out.cell
    go_wp2_with fail
    refine (HGP.out Ar cr Br dr _ HB.out HRr.out).mono ?_
    rintro e W7 ⟨Ap, cp, Bp, dp, rfl, hr, hb0⟩
    clear qr0 qr1 qr2 qr3 qr4
    obtain ⟨hb, hr'⟩ := boxed hb0 hr
    have HXp := Lib.hid (box_new W7 P.1 (.slice Ap P.1.rs.length cp) (.slice Bp P.1.ws.length dp))
    have hlp := hb0.size
    replace HB := Lib.hid (below_step HB.out hb)
    replace HXr := Lib.hid (HXr.out.below hb)
    replace HRr := Lib.hid (HRr.out.below hb)
    replace HXs := Lib.hid (HXs.out.below hb)
    replace HRs := Lib.hid (HRs.out.below hb)
    replace HXt := Lib.hid (HXt.out.below hb)
    replace HRt := Lib.hid (HRt.out.below hb)
    have HRp := Lib.hid (hr'.lower (Nat.zero_le _))
    clear hr hb0 hb hr' hlp
    obtain ⟨qp0, qp1, qp2, qp3, qp4⟩ := HXp.out.cell
    go_wp2_with fail
    refine (HGQ.out Ap cp Bp dp _ HB.out HRp.out).mono ?_
    rintro e W8 ⟨Aq, cq, Bq, dq, rfl, hr, hb0⟩
    clear qp0 qp1 qp2 qp3 qp4
    obtain ⟨hb, hr'⟩ := boxed hb0 hr
    have HXq := Lib.hid (box_new W8 Q.1 (.slice Aq Q.1.rs.length cq) (.slice Bq Q.1.ws.length dq))
    have hlq := hb0.size
    replace HB := Lib.hid (below_step HB.out hb)
    replace HXr := Lib.hid (HXr.out.below hb)
    replace HRr := Lib.hid (HRr.out.below hb)
    replace HXs := Lib.hid (HXs.out.below hb)
    replace HRs := Lib.hid (HRs.out.below hb)
    replace HXt := Lib.hid (HXt.out.below hb)
    replace HRt := Lib.hid (HRt.out.below hb)
    replace HXp := Lib.hid (HXp.out.below hb)
    replace HRp := Lib.hid (HRp.out.below hb)
    have HRq := Lib.hid (hr'.lower (Nat.zero_le _))
    clear hr hb0 hb hr' hlq
    by_cases nS : S.2 = 0
    · have zS : (S.2 != 0) = false := by rw [nS]; rfl
      by_cases nT : T.2 = 0
      · have zT : (T.2 != 0) = false := by rw [nT]; rfl
        by_cases nP : P.2 = 0
        · have zP : (P.2 != 0) = false := by rw [nP]; rfl
          by_cases nQ : Q.2 = 0
          · have zQ : (Q.2 != 0) = false := by rw [nQ]; rfl
            obtain ⟨hTQ, hRT⟩ := HL.out nS nT nP nQ
            clear nS nT nP nQ HL
            have g1 := HSM.out
            rw [show sameR T.1 Q.1 = true from (same_iff _ _).2 hTQ] at g1
            replace HSM := Lib.hid g1
            have g2 := HRT.out
            rw [hRT] at g2
            replace HRT := Lib.hid g2
            have hp1 : putF Q.1 = putF T.1 := by rw [hTQ]
            have g3 := HPQ.out
            rw [hp1] at g3
            replace HPQ := Lib.hid g3
            have hp2 : (putF T.1).2 = 0 := by unfold putF; rw [if_pos hRT]
            rw [show putF T.1 = ((putF T.1).1, 0) from Prod.ext rfl hp2] at g3
            replace HPQ := Lib.hid g3
            have g4 := HPT.out
            rw [show putF T.1 = ((putF T.1).1, 0) from Prod.ext rfl hp2] at g4
            replace HPT := Lib.hid g4
            clear g1 g2 g3 g4 hp1 hp2 hTQ hRT
            generalize (putF T.1).1 = pt at HPT HPQ
            obtain ⟨qt0, qt1, qt2, qt3, qt4⟩ := HXt.out.cell
            go_wp2_with fail
            refine (HPT.out At ct Bt dt _ HB.out HRt.out).mono ?_
            rintro e W9 ⟨rfl, hb⟩
            clear qt0 qt1 qt2 qt3 qt4
            replace HB := Lib.hid (below_step HB.out hb)
            replace HXr := Lib.hid (HXr.out.below hb)
            replace HRr := Lib.hid (HRr.out.below hb)
            replace HXs := Lib.hid (HXs.out.below hb)
            replace HRs := Lib.hid (HRs.out.below hb)
            replace HXt := Lib.hid (HXt.out.below hb)
            replace HRt := Lib.hid (HRt.out.below hb)
            replace HXp := Lib.hid (HXp.out.below hb)
            replace HRp := Lib.hid (HRp.out.below hb)
            replace HXq := Lib.hid (HXq.out.below hb)
            replace HRq := Lib.hid (HRq.out.below hb)
            clear hb
            obtain ⟨qq0, qq1, qq2, qq3, qq4⟩ := HXq.out.cell
            go_wp2_with fail
            refine (HPQ.out Aq cq Bq dq _ HB.out HRq.out).mono ?_
            rintro e W10 ⟨rfl, hb⟩
            clear qq0 qq1 qq2 qq3 qq4
            replace HB := Lib.hid (below_step HB.out hb)
            replace HXr := Lib.hid (HXr.out.below hb)
            replace HRr := Lib.hid (HRr.out.below hb)
            replace HXs := Lib.hid (HXs.out.below hb)
            replace HRs := Lib.hid (HRs.out.below hb)
            replace HXt := Lib.hid (HXt.out.below hb)
            replace HRt := Lib.hid (HRt.out.below hb)
            replace HXp := Lib.hid (HXp.out.below hb)
            replace HRp := Lib.hid (HRp.out.below hb)
            replace HXq := Lib.hid (HXq.out.below hb)
            replace HRq := Lib.hid (HRq.out.below hb)
            clear hb
            have ep : (pt.toList == pt.toList) = true := by simp
            obtain ⟨qt0, qt1, qt2, qt3, qt4⟩ := HXt.out.cell
            obtain ⟨qq0, qq1, qq2, qq3, qq4⟩ := HXq.out.cell
            go_wp2_with fail
            refine (HSM.out At ct Bt dt Aq cq Bq dq _ HRt.out HRq.out).mono ?_
            rintro e W11 ⟨rfl, hb⟩
            clear qt0 qt1 qt2 qt3 qt4 qq0 qq1 qq2 qq3 qq4
            replace HB := Lib.hid (below_step HB.out hb)
            replace HXr := Lib.hid (HXr.out.below hb)
            replace HRr := Lib.hid (HRr.out.below hb)
            replace HXs := Lib.hid (HXs.out.below hb)
            replace HRs := Lib.hid (HRs.out.below hb)
            replace HXt := Lib.hid (HXt.out.below hb)
            replace HRt := Lib.hid (HRt.out.below hb)
            replace HXp := Lib.hid (HXp.out.below hb)
            replace HRp := Lib.hid (HRp.out.below hb)
            replace HXq := Lib.hid (HXq.out.below hb)
            replace HRq := Lib.hid (HRq.out.below hb)
            clear hb
            obtain ⟨qt0, qt1, qt2, qt3, qt4⟩ := HXt.out.cell
            go_wp2_with fail
            refine (HRT.out At ct Bt dt _ HB.out HRt.out).mono ?_
            rintro e W12 ⟨rfl, hb⟩
            clear qt0 qt1 qt2 qt3 qt4
            replace HB := Lib.hid (below_step HB.out hb)
            replace HXr := Lib.hid (HXr.out.below hb)
            replace HRr := Lib.hid (HRr.out.below hb)
            replace HXs := Lib.hid (HXs.out.below hb)
            replace HRs := Lib.hid (HRs.out.below hb)
            replace HXt := Lib.hid (HXt.out.below hb)
            replace HRt := Lib.hid (HRt.out.below hb)
            replace HXp := Lib.hid (HXp.out.below hb)
            replace HRp := Lib.hid (HRp.out.below hb)
            replace HXq := Lib.hid (HXq.out.below hb)
            replace HRq := Lib.hid (HRq.out.below hb)
            clear hb
            go_wp2
            go_ret
            exact ⟨rfl, HB.out⟩
          · have zQ : (Q.2 != 0) = true := by rw [bne_iff_ne]; exact nQ
            clear nS nT nP nQ
            go_wp2
            go_ret
            exact ⟨rfl, HB.out⟩
        · have zP : (P.2 != 0) = true := by rw [bne_iff_ne]; exact nP
          clear nS nT nP
          go_wp2
          go_ret
          exact ⟨rfl, HB.out⟩
      · have zT : (T.2 != 0) = true := by rw [bne_iff_ne]; exact nT
        clear nS nT
        go_wp2
        go_ret
        exact ⟨rfl, HB.out⟩
    · have zS : (S.2 != 0) = true := by rw [bne_iff_ne]; exact nS
      clear nS
      go_wp2
      go_ret
      exact ⟨rfl, HB.out⟩
end Go.Proofs.YtfhanoloaejmkaaDoor
end
