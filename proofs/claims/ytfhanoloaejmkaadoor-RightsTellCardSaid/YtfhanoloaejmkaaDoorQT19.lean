/- Contracts and laws that the statement of LawRightsTell leans on (packed from this claim's own texts): part 19. -/
import Derived.Test.YtfhanoloaejmkaaDoorQT11
import Derived.Test.YtfhanoloaejmkaaDoorQT15
import Derived.Test.YtfhanoloaejmkaaDoorQT17
import Derived.Test.YtfhanoloaejmkaaDoorQT18
section

namespace Go.Proofs.YtfhanoloaejmkaaDoor
open Go.RowKit Go.Proofs.YtfhanoloaejmkaaDoorW.PrintWords Go.Proofs.YtfhanoloaejmkaaDoorW.PrintLast Go.Proofs.YtfhanoloaejmkaaDoor.Ref Go.Proofs.YtfhanoloaejmkaaDoor.PC
set_option linter.unusedVariables false
set_option linter.unusedSimpArgs false
theorem drop_eq {l m : List ByteArray} {i : Nat} (h : i < l.length) (h2 : i < m.length) : (l.drop i = m.drop i) ↔ (l[i] = m[i] ∧ l.drop (i + 1) = m.drop (i + 1)) := by
 rw [List.drop_eq_getElem_cons h, List.drop_eq_getElem_cons h2, List.cons_eq_cons]
theorem same_l1 (a b : Rt) (hl : a.ws.length = b.ws.length) (hs : a.ws.length ≤ 1000000) (m i : Nat) (hm : i + m = a.ws.length) :
  Ev (fun k => letterlockref7_Same.l1 k (i : Int) a.o a.f a.e a.rs a.ws b.o b.f b.e b.rs b.ws) (decide (a.ws.drop i = b.ws.drop i)) := by
 induction m generalizing i with
 | zero =>
  rw [List.drop_eq_nil_of_le (by omega), List.drop_eq_nil_of_le (by omega), decide_eq_true rfl]
  exact Ev.step (fun _ => rfl) (Ev.neg (by omega) (Ev.now _))
 | succ m ih =>
  have hi : i < a.ws.length := by omega
  have hi2 : i < b.ws.length := by omega
  refine Ev.step (fun _ => rfl) (Ev.pos (by omega) (Ev.pos (by omega) (Ev.pos (by omega) ?_)))
  rw [rdOf_nth, nth_get hi, rdOf_nth, nth_get hi2, w64 (n := (i : Int) + 1) (by omega) (by omega)]
  by_cases h : a.ws[i] = b.ws[i]
  ·exact Ev.pos ((list_eq _ _).2 h) (ev_cast (ih (i + 1) (by omega)) (decide_eq_decide.2 ((drop_eq hi hi2).trans ⟨fun e => e.2, fun e => ⟨h, e⟩⟩).symm))
  ·exact Ev.neg (fun e => h ((list_eq _ _).1 e)) (ev_cast (Ev.now _) (decide_eq_false (fun e => h ((drop_eq hi hi2).1 e).1)).symm)
theorem same_l0 (a b : Rt) (hr : a.rs.length = b.rs.length) (hl : a.ws.length = b.ws.length) (hs0 : a.rs.length ≤ 1000000) (hs : a.ws.length ≤ 1000000) (m i : Nat) (hm : i + m = a.rs.length) :
  Ev (fun k => letterlockref7_Same.l0 k (i : Int) a.o a.f a.e a.rs a.ws b.o b.f b.e b.rs b.ws) (decide (a.rs.drop i = b.rs.drop i) && decide (a.ws = b.ws)) := by
 induction m generalizing i with
 | zero =>
  rw [List.drop_eq_nil_of_le (by omega), List.drop_eq_nil_of_le (by omega), decide_eq_true rfl, Bool.true_and]
  exact Ev.step (fun _ => rfl) (Ev.neg (by omega) (same_l1 a b hl hs a.ws.length 0 (by omega)))
 | succ m ih =>
  have hi : i < a.rs.length := by omega
  have hi2 : i < b.rs.length := by omega
  refine Ev.step (fun _ => rfl) (Ev.pos (by omega) (Ev.pos (by omega) (Ev.pos (by omega) ?_)))
  rw [rdOf_nth, nth_get hi, rdOf_nth, nth_get hi2, w64 (n := (i : Int) + 1) (by omega) (by omega)]
  by_cases h : a.rs[i] = b.rs[i]
  ·exact Ev.pos ((list_eq _ _).2 h) (ev_cast (ih (i + 1) (by omega)) (congrArg (· && _) (decide_eq_decide.2 ((drop_eq hi hi2).trans ⟨fun e => e.2, fun e => ⟨h, e⟩⟩).symm)))
  ·refine Ev.neg (fun e => h ((list_eq _ _).1 e)) (ev_cast (Ev.now _) ?_)
   rw [decide_eq_false (fun e => h ((drop_eq hi hi2).1 e).1), Bool.false_and]
theorem same_ev (a b : Rt) (h1 : a.rs.length ≤ 1000000) (h2 : a.ws.length ≤ 1000000) (h3 : b.rs.length ≤ 1000000) (h4 : b.ws.length ≤ 1000000) :
  Ev (fun k => letterlockref7_Same.f k a.o a.f a.e a.rs a.ws b.o b.f b.e b.rs b.ws) (sameR a b) := by
 have hj : ∀ x : Bool, (∀ k, letterlockref7_Same.j0 (k + 1) x a.o a.f a.e a.rs a.ws b.o b.f b.e b.rs b.ws = if x = true then some false else letterlockref7_Same.l0 k 0 a.o a.f a.e a.rs a.ws b.o b.f b.e b.rs b.ws) := fun x k => rfl
 have bad : Ev (fun k => letterlockref7_Same.j0 k true a.o a.f a.e a.rs a.ws b.o b.f b.e b.rs b.ws) false := Ev.step (hj true) (Ev.pos rfl (Ev.now _))
 unfold letterlockref7_Same.f sameR
 by_cases c1 : a.o = b.o
 ·refine Ev.pos ((list_eq _ _).2 c1) ?_
  by_cases c2 : a.f = b.f
  ·refine Ev.pos ((list_eq _ _).2 c2) ?_
   by_cases c3 : a.e = b.e
   ·refine Ev.pos c3 ?_
    rw [decide_eq_true c1, decide_eq_true c2, decide_eq_true c3, Bool.true_and, Bool.true_and, Bool.true_and]
    by_cases c4 : a.rs.length = b.rs.length
    ·refine Ev.pos (by omega) ?_
     by_cases c5 : a.ws.length = b.ws.length
     ·rw [show ((a.ws.length : Int) != (b.ws.length : Int)) = false by rw [c5]; simp]
      exact Ev.step (hj false) (Ev.neg (by simp) (same_l0 a b c4 c5 h1 h2 a.rs.length 0 (by omega)))
     ·rw [show ((a.ws.length : Int) != (b.ws.length : Int)) = true by rw [bne_iff_ne]; omega]
      exact ev_cast bad (by rw [decide_eq_false (p := a.ws = b.ws) (fun e => c5 (by rw [e])), Bool.and_false])
    ·exact Ev.neg (by omega) (ev_cast bad (by rw [decide_eq_false (fun e => c4 (by rw [e])), Bool.false_and]))
   ·exact Ev.neg c3 (ev_cast bad (by rw [decide_eq_false c3]; simp))
  ·exact Ev.neg (fun e => c2 ((list_eq _ _).1 e)) (ev_cast bad (by rw [decide_eq_false c2]; simp))
 ·exact Ev.neg (fun e => c1 ((list_eq _ _).1 e)) (ev_cast bad (by rw [decide_eq_false c1]; simp))
theorem same_call (a b : Rt) (A : Option Addr) (c : Nat) (A' : Option Addr) (c' : Nat) (D : Option Addr) (d : Nat) (D' : Option Addr) (d' : Nat) (w : World) (ha : smallR a = true) (hb : smallR b = true) {B B' : Nat} (h : RowsAt w B a A c A' c') (h' : RowsAt w B' b D d D' d') :
  Calls Tryd.prog 20 #[.agg #[.string a.o, .string a.f, .int .i64 a.e, .slice A a.rs.length c, .slice A' a.ws.length c'], .agg #[.string b.o, .string b.f, .int .i64 b.e, .slice D b.rs.length d, .slice D' b.ws.length d']] w fun e w' => e = .returned (.bool (sameR a b)) ∧ Below w.heap.size w w' := by
 obtain ⟨a1, a2, a3, a4, a5, a6, a7⟩ := small_parts ha
 obtain ⟨b1, b2, b3, b4, b5, b6, b7⟩ := small_parts hb
 obtain ⟨K, hk⟩ := same_ev a b (by omega) (by omega) (by omega) (by omega)
 exact letterlockref7_Same.calls K a.o a.f a.e A c a.rs A' c' a.ws b.o b.f b.e D d b.rs D' d' b.ws _ w h.h1 h.h2 h.h3 h.h4 h'.h1 h'.h2 h'.h3 h'.h4 (hk K (Nat.le_refl _))
theorem rightB_f (r : Rt) (h : smallR r = true) : rights_Right.f r.o r.f r.e r.rs r.ws = some (rightR r) := by
 unfold rights_Right.f; rw [if_pos (show smallR ⟨r.o, r.f, r.e, r.rs, r.ws⟩ = true from h)]
theorem putB_f (l : List ByteArray) (hl : l.length ≤ 1000) (h : ∀ s ∈ l, s.size ≤ 100000) : wire_PutAll.f l = some (allB l) := by
 unfold wire_PutAll.f; rw [if_pos ⟨hl, fun s hs => Nat.le_trans (h s hs) (by omega)⟩]
theorem put_f (r : Rt) (h : smallR r = true) : rights_Put.f r.o r.f r.e r.rs r.ws = some (putF r) := by
 unfold rights_Put.f putF
 rw [rightB_f r h]
 show (if rightR r = true then _ else _) = _
 by_cases c : rightR r = true
 ·rw [if_pos c, if_pos c]
  obtain ⟨p1, p2, p3, p4, p5, p6, p7, p8, p9⟩ := right_parts c
  have hw : IntKind.u64.wrap r.e = r.e := by show r.e % 18446744073709551616 = r.e; omega
  have e1 : wire_Put.f (IntKind.u64.wrap r.e) = some (numB r.e.toNat) := by
   rw [hw]; unfold wire_Put.f; rw [if_pos (by omega)]
  have e2 := putB_f r.rs (by omega) fun s hs => Nat.le_trans (name_size (p7 s hs).1) (by omega)
  have e3 := putB_f r.ws (by omega) fun s hs => Nat.le_trans (name_size (p8 s hs).1) (by omega)
  have e4 := putB_f (bagR r) (by show 5 ≤ 1000; omega) fun s hs => Nat.le_trans (bag_small c s hs) (by omega)
  rw [e1, e2, e3]
  show (wire_PutAll.f (bagR r)).bind _ = _
  rw [e4]
  rfl
 ·rw [if_neg c, if_neg c]
theorem put_call (r : Rt) (A : Option Addr) (c : Nat) (A' : Option Addr) (c' : Nat) (w : World) (HTB : Aside0 (Tabs w)) (hs : smallR r = true) {B : Nat} (h : RowsAt w B r A c A' c') :
  Calls Tryd.prog 19 #[.agg #[.string r.o, .string r.f, .int .i64 r.e, .slice A r.rs.length c, .slice A' r.ws.length c']] w fun e w' => e = .returned (.tuple #[.string (putF r).1, .int .i64 (putF r).2]) ∧ Below w.heap.size w w' :=
 rights_Put.calls r.o r.f r.e A c r.rs A' c' r.ws _ _ w HTB h.h1 h.h2 h.h3 h.h4 (put_f r hs)
end Go.Proofs.YtfhanoloaejmkaaDoor
end
section

namespace Go.Proofs.YtfhanoloaejmkaaDoor
open Go.RowKit Go.Proofs.YtfhanoloaejmkaaDoorW.PrintWords Go.Proofs.YtfhanoloaejmkaaDoorW.PrintLast Go.Proofs.YtfhanoloaejmkaaDoor.Ref
set_option linter.unusedVariables false
theorem grant_at {w : World} (HTB : Aside0 (Tabs w)) {r : Rt} (hs : smallR r = true) {u : ByteArray} (hu : u.size ≤ 1000000) (b : Bool) {S : Rt × Int} (hS : grantF r u b = S) (A : Option Addr) (c : Nat) (A' : Option Addr) (c' : Nat) :
  ∀ W : World, Below w.heap.size w W → RowsAt W 0 r A c A' c' → Calls Tryd.prog 14 #[.agg #[.string r.o, .string r.f, .int .i64 r.e, .slice A r.rs.length c, .slice A' r.ws.length c'], .string u, .bool b] W (Told W S) :=
 fun W hb h => hS ▸ grant_call r u b A c A' c' W ⟨HTB.out.below hb⟩ hs hu h
theorem revoke_at {w : World} (HTB : Aside0 (Tabs w)) {r : Rt} (hs : smallR r = true) {u : ByteArray} (hu : u.size ≤ 1000000) {S : Rt × Int} (hS : revokeF r u = S) (A : Option Addr) (c : Nat) (A' : Option Addr) (c' : Nat) :
  ∀ W : World, Below w.heap.size w W → RowsAt W 0 r A c A' c' → Calls Tryd.prog 15 #[.agg #[.string r.o, .string r.f, .int .i64 r.e, .slice A r.rs.length c, .slice A' r.ws.length c'], .string u] W (Told W S) :=
 fun W hb h => hS ▸ revoke_call r u A c A' c' W ⟨HTB.out.below hb⟩ hs hu h
theorem can_at {w : World} (HTB : Aside0 (Tabs w)) {r : Rt} (hs : smallR r = true) (u : ByteArray) (b : Bool) {S : Bool} (hS : canF r u b = S) (A : Option Addr) (c : Nat) (A' : Option Addr) (c' : Nat) :
  ∀ W : World, Below w.heap.size w W → RowsAt W 0 r A c A' c' → Calls Tryd.prog 16 #[.agg #[.string r.o, .string r.f, .int .i64 r.e, .slice A r.rs.length c, .slice A' r.ws.length c'], .string u, .bool b] W fun e w' => e = .returned (.bool S) ∧ Below W.heap.size W w' :=
 fun W hb h => hS ▸ can_call r u b A c A' c' W ⟨HTB.out.below hb⟩ hs h
theorem right_at {w : World} (HTB : Aside0 (Tabs w)) {r : Rt} (hs : smallR r = true) {S : Bool} (hS : rightR r = S) (A : Option Addr) (c : Nat) (A' : Option Addr) (c' : Nat) :
  ∀ W : World, Below w.heap.size w W → RowsAt W 0 r A c A' c' → Calls Tryd.prog 17 #[.agg #[.string r.o, .string r.f, .int .i64 r.e, .slice A r.rs.length c, .slice A' r.ws.length c']] W fun e w' => e = .returned (.bool S) ∧ Below W.heap.size W w' :=
 fun W hb h => hS ▸ right_call r A c A' c' W ⟨HTB.out.below hb⟩ hs h
theorem put_at {w : World} (HTB : Aside0 (Tabs w)) {r : Rt} (hs : smallR r = true) {S : ByteArray × Int} (hS : putF r = S) (A : Option Addr) (c : Nat) (A' : Option Addr) (c' : Nat) :
  ∀ W : World, Below w.heap.size w W → RowsAt W 0 r A c A' c' → Calls Tryd.prog 19 #[.agg #[.string r.o, .string r.f, .int .i64 r.e, .slice A r.rs.length c, .slice A' r.ws.length c']] W fun e w' => e = .returned (.tuple #[.string S.1, .int .i64 S.2]) ∧ Below W.heap.size W w' :=
 fun W hb h => hS ▸ put_call r A c A' c' W ⟨HTB.out.below hb⟩ hs h
theorem same_at {a b : Rt} (ha : smallR a = true) (hb : smallR b = true) {S : Bool} (hS : sameR a b = S) (A : Option Addr) (c : Nat) (A' : Option Addr) (c' : Nat) (D : Option Addr) (d : Nat) (D' : Option Addr) (d' : Nat) :
  ∀ W : World, RowsAt W 0 a A c A' c' → RowsAt W 0 b D d D' d' → Calls Tryd.prog 20 #[.agg #[.string a.o, .string a.f, .int .i64 a.e, .slice A a.rs.length c, .slice A' a.ws.length c'], .agg #[.string b.o, .string b.f, .int .i64 b.e, .slice D b.rs.length d, .slice D' b.ws.length d']] W fun e w' => e = .returned (.bool S) ∧ Below W.heap.size W w' :=
 fun W h h' => hS ▸ same_call a b A c A' c' D d D' d' W ha hb h h'
end Go.Proofs.YtfhanoloaejmkaaDoor
end
