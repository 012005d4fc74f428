/- The contracts of rights.Grant and rights.Revoke. -/
import Derived.Test.YtfhanoloaejmkaaDoorLists
import Derived.Test.YtfhanoloaejmkaaDoorEvRights
import Derived.LoopTactic
import Derived.RegionTactic
import Derived.Deep.RegionHeld3
import Derived.Deep.RegionWith
import Derived.Outline
namespace Go.Proofs.YtfhanoloaejmkaaDoor
open Go.RowKit Go.Proofs.YtfhanoloaejmkaaDoorW.PrintWords Go.Proofs.YtfhanoloaejmkaaDoor.Ref
set_option linter.unusedVariables false
set_option linter.unusedSimpArgs false

theorem asked_call (r : Rt) (u : ByteArray) (A : Option Addr) (c : Nat) (A' : Option Addr) (c' : Nat) (w : World) (HTB : Aside0 (Tabs w)) (hs : smallR r = true) (hu : u.size ≤ 1000000) (h1 : Kd.C Kd.string w A r.rs.length r.rs) (h2 : r.rs.length ≤ c) (h3 : Kd.C Kd.string w A' r.ws.length r.ws) (h4 : r.ws.length ≤ c') :
    Calls Tryd.prog 31 #[.agg #[.string r.o, .string r.f, .int .i64 r.e, .slice A r.rs.length c, .slice A' r.ws.length c'], .string u] w fun e w' => e = .returned (.int .i64 (askedF r u)) ∧ Below w.heap.size w w' := by
  obtain ⟨K, h⟩ := asked_ev r u hs hu
  exact PB.rights_asked.calls K r.o r.f r.e A c r.rs A' c' r.ws u _ w HTB h1 h2 h3 h4 (h K (Nat.le_refl _))
theorem other_call (r : Rt) (u : ByteArray) (A : Option Addr) (c : Nat) (A' : Option Addr) (c' : Nat) (w : World) (hs : smallR r = true) (h1 : Kd.C Kd.string w A r.rs.length r.rs) (h2 : r.rs.length ≤ c) (h3 : Kd.C Kd.string w A' r.ws.length r.ws) (h4 : r.ws.length ≤ c') :
    Calls Tryd.prog 32 #[.agg #[.string r.o, .string r.f, .int .i64 r.e, .slice A r.rs.length c, .slice A' r.ws.length c'], .string u] w fun e w' => e = .returned (.bool (searchB r.rs u || searchB r.ws u)) ∧ Below w.heap.size w w' := by
  obtain ⟨_, _, _, q1, q2, _⟩ := small_parts hs
  refine PB.rights_other.calls r.o r.f r.e A c r.rs A' c' r.ws u _ w h1 h2 h3 h4 ?_
  unfold PB.rights_other.f
  rw [has_val _ _ (by omega), has_val _ _ (by omega)]
  cases searchB r.rs u <;> simp

/-- What stands in a box of rights. -/
def BoxAt (w : World) (b : Nat) (r : Rt) (v3 v4 : Value) : Prop := ∃ cs : Array Value, cs = #[.string r.o, .string r.f, .int .i64 r.e, v3, v4] ∧ w.heap[b]? = some (.cells cs 26 (0, 0))
theorem BoxAt.cell {w : World} {b : Nat} {r : Rt} {v3 v4 : Value} (h : BoxAt w b r v3 v4) : w.cell? ⟨b, 0, none⟩ = some (.string r.o) ∧ w.cell? ⟨b, 1, none⟩ = some (.string r.f) ∧ w.cell? ⟨b, 2, none⟩ = some (.int .i64 r.e) ∧ w.cell? ⟨b, 3, none⟩ = some v3 ∧ w.cell? ⟨b, 4, none⟩ = some v4 := by
  obtain ⟨cs, rfl, h⟩ := h
  exact ⟨blk_cell h 0, blk_cell h 1, blk_cell h 2, blk_cell h 3, blk_cell h 4⟩
theorem BoxAt.free {w : World} {b : Nat} {r : Rt} {v3 v4 : Value} (h : BoxAt w b r v3 v4) (i : Nat) : w.frozen? ⟨b, i, none⟩ = false := by
  obtain ⟨cs, rfl, h⟩ := h
  exact blk_frozen h i
theorem BoxAt.below {w w1 : World} {b : Nat} {r : Rt} {v3 v4 : Value} (h : BoxAt w b r v3 v4) (hb : Below w.heap.size w w1) : BoxAt w1 b r v3 v4 := by
  obtain ⟨cs, rfl, h⟩ := h
  exact ⟨_, rfl, by rw [hb.block b (blk_lt h)]; exact h⟩

theorem BoxAt.put {w : World} {b : Nat} {r : Rt} {v3 v4 : Value} (h : BoxAt w b r v3 v4) (r' : Rt) (v3' v4' : Value) :
    BoxAt (((((w.setCell ⟨b, 0, none⟩ (.string r'.o)).setCell ⟨b, 1, none⟩ (.string r'.f)).setCell ⟨b, 2, none⟩ (.int .i64 r'.e)).setCell ⟨b, 3, none⟩ v3').setCell ⟨b, 4, none⟩ v4') b r' v3' v4' := by
  obtain ⟨cs, rfl, h⟩ := h
  exact ⟨_, rfl, blk_set (blk_set (blk_set (blk_set (blk_set h 0 _) 1 _) 2 _) 3 _) 4 _⟩
theorem BoxAt.put_below {B : Nat} {w0 w : World} {b : Nat} (hb : Below B w0 w) (hB : B ≤ b) (r' : Rt) (v3' v4' : Value) :
    Below B w0 (((((w.setCell ⟨b, 0, none⟩ (.string r'.o)).setCell ⟨b, 1, none⟩ (.string r'.f)).setCell ⟨b, 2, none⟩ (.int .i64 r'.e)).setCell ⟨b, 3, none⟩ v3').setCell ⟨b, 4, none⟩ v4') :=
  ((((hb.setCell hB _).setCell hB _).setCell hB _).setCell hB _).setCell hB _

/-- The state between: the boxes of rights and of the result, the two lists, each in a row of its own. -/
structure St (w0 W : World) (r : Rt) (v3 v4 : Value) (l3 l4 : List ByteArray) : Prop where
  bel : Below w0.heap.size w0 W
  box : BoxAt W w0.heap.size r v3 v4
  res : BoxAt W (w0.heap.size + 1) noRt (.slice none 0 0) (.slice none 0 0)
  own3 : W.ownsRow (w0.heap.size + 2) 9 1 v3 l3.length (strs l3)
  own4 : W.ownsRow (w0.heap.size + 2) 9 1 v4 l4.length (strs l4)
  apart : ∀ k, v3.ownBlock = some k → v4.ownBlock ≠ some k
theorem St.below {w0 W W' : World} {r : Rt} {v3 v4 : Value} {l3 l4 : List ByteArray} (h : St w0 W r v3 v4 l3 l4) (hb : Below W.heap.size W W') : St w0 W' r v3 v4 l3 l4 :=
  ⟨below_step h.bel hb, h.box.below hb, h.res.below hb, pw_own_below h.own3 hb, pw_own_below h.own4 hb, h.apart⟩
theorem BoxAt.grown {w w1 : World} {b : Nat} {r : Rt} {v3 v4 : Value} {row : Option Nat} (h : BoxAt w b r v3 v4) (hg : w.grownBy w1 row) (hne : some b ≠ row) : BoxAt w1 b r v3 v4 := by
  obtain ⟨cs, rfl, h⟩ := h
  exact ⟨_, rfl, blk_grown h hg hne⟩
theorem BoxAt.far {w : World} {b : Nat} {r : Rt} {v3 v4 : Value} (h : BoxAt w b r v3 v4) {p : Addr} (hp : b ≠ p.block) (u : Value) : BoxAt (w.setCell p u) b r v3 v4 := by
  obtain ⟨cs, rfl, h⟩ := h
  exact ⟨_, rfl, blk_far h hp u⟩
theorem BoxAt.set3 {w : World} {b : Nat} {r : Rt} {v3 v4 : Value} (h : BoxAt w b r v3 v4) (u : Value) : BoxAt (w.setCell ⟨b, 3, none⟩ u) b r u v4 := by
  obtain ⟨cs, rfl, h⟩ := h
  exact ⟨_, rfl, blk_set h 3 u⟩
theorem BoxAt.set4 {w : World} {b : Nat} {r : Rt} {v3 v4 : Value} (h : BoxAt w b r v3 v4) (u : Value) : BoxAt (w.setCell ⟨b, 4, none⟩ u) b r v3 u := by
  obtain ⟨cs, rfl, h⟩ := h
  exact ⟨_, rfl, blk_set h 4 u⟩
theorem own_not {W : World} {B : Nat} {v : Value} {l : List ByteArray} (h : W.ownsRow B 9 1 v l.length (strs l)) {b : Nat} (hb : b < B) : some b ≠ v.ownBlock := fun e => by
  have := own_base h b e.symm
  omega
theorem St.set3 {w0 W W' : World} {r : Rt} {v3 v4 v3' : Value} {l3 l4 l3' : List ByteArray} (h : St w0 W r v3 v4 l3 l4) (hg : W.grownBy W' v3.ownBlock) (ho : W'.ownsRow (w0.heap.size + 2) 9 1 v3' l3'.length (strs l3')) (hat : v3'.ownBlock = v3.ownBlock ∨ ∃ b, v3'.ownBlock = some b ∧ W.heap.size ≤ b) :
    St w0 (W'.setCell ⟨w0.heap.size, 3, none⟩ v3') r v3' v4 l3' l4 := by
  have n4 : v4.ownBlock ≠ v3.ownBlock ∨ v4.ownBlock = none := by
    cases e : v4.ownBlock with
    | none => exact Or.inr rfl
    | some k => exact Or.inl fun e2 => h.apart k e2.symm e
  have o4 : W'.ownsRow (w0.heap.size + 2) 9 1 v4 l4.length (strs l4) := by
    rcases n4 with n4 | n4
    · exact own_other h.own4 hg (Or.inr n4)
    · rcases own_row h.own4 with ⟨rfl, rfl⟩ | ⟨g, cap, cur, rfl, _⟩
      · exact own_nil _ _ _ _
      · simp [Value.ownBlock] at n4
  refine ⟨(h.bel.grown hg (by have := h.bel.size; omega) (fun k hk => by have := own_base h.own3 k hk; omega)).setCell (Nat.le_refl _) _, (h.box.grown hg (own_not h.own3 (by omega))).set3 _, (h.res.grown hg (own_not h.own3 (by omega))).far (by show _ ≠ w0.heap.size; omega) _, own_setCell ho (own_not ho (by show w0.heap.size < _; omega)) _, own_setCell o4 (own_not o4 (by show w0.heap.size < _; omega)) _, fun k hk => ?_⟩
  rcases hat with hat | ⟨b, hat, hle⟩
  · exact h.apart k (hat ▸ hk)
  · intro e
    have h1 := own_lt h.own4 k e
    rw [hk] at hat
    cases hat
    omega
theorem St.set4 {w0 W W' : World} {r : Rt} {v3 v4 v4' : Value} {l3 l4 l4' : List ByteArray} (h : St w0 W r v3 v4 l3 l4) (hg : W.grownBy W' v4.ownBlock) (ho : W'.ownsRow (w0.heap.size + 2) 9 1 v4' l4'.length (strs l4')) (hat : v4'.ownBlock = v4.ownBlock ∨ ∃ b, v4'.ownBlock = some b ∧ W.heap.size ≤ b) :
    St w0 (W'.setCell ⟨w0.heap.size, 4, none⟩ v4') r v3 v4' l3 l4' := by
  have n3 : v3.ownBlock ≠ v4.ownBlock ∨ v3.ownBlock = none := by
    cases e : v3.ownBlock with
    | none => exact Or.inr rfl
    | some k => exact Or.inl fun e2 => h.apart k e e2.symm
  have o3 : W'.ownsRow (w0.heap.size + 2) 9 1 v3 l3.length (strs l3) := by
    rcases n3 with n3 | n3
    · exact own_other h.own3 hg (Or.inr n3)
    · rcases own_row h.own3 with ⟨rfl, rfl⟩ | ⟨g, cap, cur, rfl, _⟩
      · exact own_nil _ _ _ _
      · simp [Value.ownBlock] at n3
  refine ⟨(h.bel.grown hg (by have := h.bel.size; omega) (fun k hk => by have := own_base h.own4 k hk; omega)).setCell (Nat.le_refl _) _, (h.box.grown hg (own_not h.own4 (by omega))).set4 _, (h.res.grown hg (own_not h.own4 (by omega))).far (by show _ ≠ w0.heap.size; omega) _, own_setCell o3 (own_not o3 (by show w0.heap.size < _; omega)) _, own_setCell ho (own_not ho (by show w0.heap.size < _; omega)) _, fun k hk e => ?_⟩
  rcases hat with hat | ⟨b, hat, hle⟩
  · exact h.apart k hk (hat ▸ e)
  · have h1 := own_lt h.own3 k hk
    rw [e] at hat
    cases hat
    omega
/-- Behind both copies. -/
theorem St.start {w0 W W3 W4 : World} {r : Rt} {v3 v4 u3 u4 : Value} {l3 l4 : List ByteArray} (hb : Below w0.heap.size w0 W) (hx : BoxAt W w0.heap.size r u3 u4) (hy : BoxAt W (w0.heap.size + 1) noRt (.slice none 0 0) (.slice none 0 0)) (h3 : W3.ownsRow W.heap.size 9 1 v3 l3.length (strs l3)) (b3 : Below W.heap.size W W3)
    (h4 : W4.ownsRow W3.heap.size 9 1 v4 l4.length (strs l4)) (b4 : Below W3.heap.size W3 W4) : St w0 ((W4.setCell ⟨w0.heap.size, 3, none⟩ v3).setCell ⟨w0.heap.size, 4, none⟩ v4) r v3 v4 l3 l4 := by
  have hs : w0.heap.size + 2 ≤ W.heap.size := by
    obtain ⟨cs, rfl, h⟩ := hy
    have := blk_lt h
    omega
  have hs3 := b3.size
  have o3 := pw_own_below (own_weaken h3 hs) b4
  have o4 := own_weaken h4 (show w0.heap.size + 2 ≤ W3.heap.size by omega)
  have q : w0.heap.size < w0.heap.size + 2 := by omega
  refine ⟨((below_step (below_step hb b3) b4).setCell (Nat.le_refl _) _).setCell (Nat.le_refl _) _, (((hx.below b3).below b4).set3 _).set4 _, (((hy.below b3).below b4).far (by show _ ≠ w0.heap.size; omega) _).far (by show _ ≠ w0.heap.size; omega) _, own_setCell (own_setCell o3 (own_not o3 q) _) (own_not o3 q) _, own_setCell (own_setCell o4 (own_not o4 q) _) (own_not o4 q) _, fun k hk e => ?_⟩
  have := own_lt h3 k hk
  have := own_base h4 k e
  omega
theorem own_C {W : World} {B : Nat} {v : Value} {l : List ByteArray} (h : W.ownsRow B 9 1 v l.length (strs l)) : ∃ A c, v = .slice A l.length c ∧ l.length ≤ c ∧ Kd.C Kd.string W A l.length l :=
  Kd.R_reads (ok := fun _ => True) (Kd.R_of_own h (fun _ _ => trivial))
/-- What is told of the result. -/
theorem St.rows {w0 W : World} {r : Rt} {v3 v4 : Value} {l3 l4 : List ByteArray} (h : St w0 W r v3 v4 l3 l4) :
    Kd.R Kd.string 9 W w0.heap.size (fun k_ => some k_ ≠ (v4 : Value).ownBlock) v3 l3 ∧ Kd.R Kd.string 9 W w0.heap.size (fun k_ => some k_ ≠ (v3 : Value).ownBlock) v4 l4 :=
  ⟨Kd.R_of_own (own_weaken h.own3 (by omega)) (fun k hk e => h.apart k hk e.symm), Kd.R_of_own (own_weaken h.own4 (by omega)) (fun k hk e => h.apart k e.symm hk)⟩

theorem own_set {W : World} {B b i : Nat} {v : Value} {l : List ByteArray} (h : W.ownsRow B 9 1 v l.length (strs l)) (hb : b < B) (u : Value) : (W.setCell ⟨b, i, none⟩ u).ownsRow B 9 1 v l.length (strs l) := own_setCell h (own_not h hb) u
/-- What is told of the result, behind the stores into its box. -/
theorem St.fin {w0 W : World} {r : Rt} {v3 v4 : Value} {l3 l4 : List ByteArray} (h : St w0 W r v3 v4 l3 l4) (a b c d e : Value) :
    Kd.R Kd.string 9 (((((W.setCell ⟨w0.heap.size + 1, 0, none⟩ a).setCell ⟨w0.heap.size + 1, 1, none⟩ b).setCell ⟨w0.heap.size + 1, 2, none⟩ c).setCell ⟨w0.heap.size + 1, 3, none⟩ d).setCell ⟨w0.heap.size + 1, 4, none⟩ e) w0.heap.size (fun k_ => some k_ ≠ (v4 : Value).ownBlock) v3 l3 ∧
      Kd.R Kd.string 9 (((((W.setCell ⟨w0.heap.size + 1, 0, none⟩ a).setCell ⟨w0.heap.size + 1, 1, none⟩ b).setCell ⟨w0.heap.size + 1, 2, none⟩ c).setCell ⟨w0.heap.size + 1, 3, none⟩ d).setCell ⟨w0.heap.size + 1, 4, none⟩ e) w0.heap.size (fun k_ => some k_ ≠ (v3 : Value).ownBlock) v4 l4 := by
  have q : w0.heap.size + 1 < w0.heap.size + 2 := by omega
  have h3 := own_set (i := 4) (own_set (i := 3) (own_set (i := 2) (own_set (i := 1) (own_set (i := 0) h.own3 q a) q b) q c) q d) q e
  have h4 := own_set (i := 4) (own_set (i := 3) (own_set (i := 2) (own_set (i := 1) (own_set (i := 0) h.own4 q a) q b) q c) q d) q e
  exact ⟨Kd.R_of_own (own_weaken h3 (by omega)) (fun k hk e => h.apart k hk e.symm), Kd.R_of_own (own_weaken h4 (by omega)) (fun k hk e => h.apart k e.symm hk)⟩
theorem own_C' {W : World} {B c : Nat} {A : Option Addr} {l : List ByteArray} (h : W.ownsRow B 9 1 (.slice A l.length c) l.length (strs l)) : l.length ≤ c ∧ Kd.C Kd.string W A l.length l := by
  obtain ⟨A', c', e, h1, h2⟩ := own_C h
  simp only [Value.slice.injEq] at e
  obtain ⟨rfl, _, rfl⟩ := e
  exact ⟨h1, h2⟩
theorem place_call (l : List ByteArray) (u : ByteArray) (A : Option Addr) (c B : Nat) (W : World) (hl : l.length ≤ 1000000) (ho : W.ownsRow B 9 1 (.slice A l.length c) l.length (strs l)) :
    Calls Tryd.prog 34 #[.slice A l.length c, .string u] W fun e w' => e = .returned (.tuple #[.int .i64 (searchN l u : Nat), .bool (searchB l u)]) ∧ Below W.heap.size W w' :=
  rights_place.calls A c l u _ _ W (own_C' ho).2 (own_C' ho).1 (by unfold rights_place.f; rw [if_pos (by omega)])

set_option maxHeartbeats 4000000 in
set_option maxRecDepth 100000 in
theorem grant_any (r : Rt) (u : ByteArray) (wr : Bool) (A : Option Addr) (c : Nat) (A' : Option Addr) (c' : Nat) (w : World) (HTB : Aside0 (Tabs w)) (hs : smallR r = true) (hu : u.size ≤ 1000000) (h1 : Kd.C Kd.string w A r.rs.length r.rs) (h2 : r.rs.length ≤ c) (h3 : Kd.C Kd.string w A' r.ws.length r.ws) (h4 : r.ws.length ≤ c') :
    Calls Tryd.prog 14 #[.agg #[.string r.o, .string r.f, .int .i64 r.e, .slice A r.rs.length c, .slice A' r.ws.length c'], .string u, .bool wr] w fun e w' => ∃ v3_ v4_ : Value, e = .returned (.tuple #[.agg #[.string (grantF r u wr).1.o, .string (grantF r u wr).1.f, .int .i64 (grantF r u wr).1.e, v3_, v4_], .int .i64 (grantF r u wr).2]) ∧ Kd.R Kd.string 9 w' w.heap.size (fun k_ => some k_ ≠ (v4_ : Value).ownBlock) v3_ (grantF r u wr).1.rs ∧ Kd.R Kd.string 9 w' w.heap.size (fun k_ => some k_ ≠ (v3_ : Value).ownBlock) v4_ (grantF r u wr).1.ws ∧ Below w.heap.size w w' := by
  obtain ⟨R, hR⟩ : ∃ R, grantF r u wr = R := ⟨_, rfl⟩
  rw [hR]
  have HR := Lib.hid hR
  clear hR
  go_enter Tryd.func14, Tryd.ntmps14
  have hb0 : Below w.heap.size w ((w.alloc (Obj.cells #[Value.string r.o, Value.string r.f, Value.int IntKind.i64 r.e, Value.slice A r.rs.length c, Value.slice A' r.ws.length c'] 26)).alloc (Obj.cells #[Value.string { data := #[] }, Value.string { data := #[] }, Value.int IntKind.i64 0, Value.slice none 0 0, Value.slice none 0 0] 26)) := below_alloc (below_alloc (Below.refl _ _) _) _
  have hx0 : BoxAt ((w.alloc (Obj.cells #[Value.string r.o, Value.string r.f, Value.int IntKind.i64 r.e, Value.slice A r.rs.length c, Value.slice A' r.ws.length c'] 26)).alloc (Obj.cells #[Value.string { data := #[] }, Value.string { data := #[] }, Value.int IntKind.i64 0, Value.slice none 0 0, Value.slice none 0 0] 26)) w.heap.size r (.slice A r.rs.length c) (.slice A' r.ws.length c') :=
    ⟨_, rfl, by rw [(World.grownBy_alloc _ _ none).block _ (by rw [World.size_alloc]; omega) (by simp)]; exact heap_new _ _ _ rfl⟩
  have hy0 : BoxAt ((w.alloc (Obj.cells #[Value.string r.o, Value.string r.f, Value.int IntKind.i64 r.e, Value.slice A r.rs.length c, Value.slice A' r.ws.length c'] 26)).alloc (Obj.cells #[Value.string { data := #[] }, Value.string { data := #[] }, Value.int IntKind.i64 0, Value.slice none 0 0, Value.slice none 0 0] 26)) (w.heap.size + 1) noRt (.slice none 0 0) (.slice none 0 0) :=
    ⟨_, rfl, heap_new _ _ _ (by rw [World.size_alloc])⟩
  have HA := Lib.hid (asked_call r u A c A' c' _ ⟨HTB.out.below hb0⟩ hs hu (Kd.C_below h1 hb0) h2 (Kd.C_below h3 hb0) h4)
  have HB0 := Lib.hid hb0
  have HX0 := Lib.hid hx0
  have HY0 := Lib.hid hy0
  have HS := Lib.hid hs
  have HC1 := Lib.hid h1
  have HC3 := Lib.hid h3
  clear hb0 hx0 hy0 hs h1 h3
  go_wp2_with fail
  refine HA.out.mono ?_
  rintro e w1 ⟨rfl, hb⟩
  have HB1 := Lib.hid (below_step HB0.out hb)
  have HX1 := Lib.hid (HX0.out.below hb)
  have HY1 := Lib.hid (HY0.out.below hb)
  clear hb HB0 HX0 HY0 HA
  by_cases ha : askedF r u = 0
  · have hq : rightR r = true ∧ rightN (bytes u) = true := by
      unfold askedF at ha
      cases q1 : rightR r with
      | false => rw [q1] at ha; simp at ha
      | true =>
        cases q2 : rightN (bytes u) with
        | false => rw [q1, q2] at ha; simp at ha
        | true => exact ⟨rfl, rfl⟩
    obtain ⟨hq1, hq2⟩ := hq
    have hp := right_parts hq1
    obtain ⟨x0, x1, x2, x3, x4⟩ := HX1.out.cell
    rw [ha]
    clear ha
    by_cases e1 : u = r.o
    · have HN : Hid (R.1 = noRt ∧ R.2 = 5) := by
        rw [← HR.out]
        unfold grantF
        rw [if_neg (by rw [hq1]; simp), if_neg (by rw [hq2]; simp), if_pos (Or.inl e1)]
        exact ⟨rfl, rfl⟩
      have hE : (u.toList == r.o.toList) = true := by rw [e1]; simp
      clear e1 hp hq1 hq2
      obtain ⟨y0, y1, y2, y3, y4⟩ := HY1.out.cell
      have z0 := HY1.out.free 0
      have z1 := HY1.out.free 1
      have z2 := HY1.out.free 2
      have z3 := HY1.out.free 3
      have z4 := HY1.out.free 4
      go_wp2
      obtain ⟨cs, hcs, hblk⟩ := HY1.out.put noRt (.slice none 0 0) (.slice none 0 0)
      have hbl := BoxAt.put_below (b := w.heap.size + 1) HB1.out (by omega) noRt (.slice none 0 0) (.slice none 0 0)
      subst hcs
      refine bodyPost_ret (results_ct rfl _ _ (w.heap.size + 1) 26 _ (0, 0) _ rfl hblk Tryd.underlying26 rfl (by kernel_rfl)) rfl ?_
      obtain ⟨R, er⟩ := R
      obtain ⟨rfl, rfl⟩ := (show Hid (R = noRt ∧ er = 5) from HN).out
      exact ⟨_, _, rfl, Kd.R_nil _ _ _ _ _, Kd.R_nil _ _ _ _ _, hbl⟩
    · have hE : (u.toList == r.o.toList) = false := by rw [is_eq]; exact decide_eq_false e1
      have HO := Lib.hid (other_call r u A c A' c' w1 HS.out (Kd.C_below HC1.out HB1.out) h2 (Kd.C_below HC3.out HB1.out) h4)
      rw [searchB_eq hp.2.2.2.2.1, searchB_eq hp.2.2.2.2.2.1] at HO
      have HP := Lib.hid hp
      have HE1 := Lib.hid e1
      have HQ := Lib.hid (And.intro hq1 hq2)
      clear e1 hp hq1 hq2
      cases hoo : (decide (u ∈ r.rs) || decide (u ∈ r.ws)) with
      | true =>
        rw [hoo] at HO
        have HN : Hid (R.1 = noRt ∧ R.2 = 5) := by
          rw [← HR.out]
          unfold grantF
          rw [if_neg (by rw [HQ.out.1]; simp), if_neg (by rw [HQ.out.2]; simp), if_pos (by simpa [HE1.out] using hoo)]
          exact ⟨rfl, rfl⟩
        clear hoo
        go_wp2_with fail
        refine HO.out.mono ?_
        rintro e w2 ⟨rfl, hb⟩
        have HB2 := Lib.hid (below_step HB1.out hb)
        have HY2 := Lib.hid (HY1.out.below hb)
        clear hb HO HY1 HB1 x0 x1 x2 x3 x4
        obtain ⟨y0, y1, y2, y3, y4⟩ := HY2.out.cell
        have z0 := HY2.out.free 0
        have z1 := HY2.out.free 1
        have z2 := HY2.out.free 2
        have z3 := HY2.out.free 3
        have z4 := HY2.out.free 4
        go_wp2
        obtain ⟨cs, hcs, hblk⟩ := HY2.out.put noRt (.slice none 0 0) (.slice none 0 0)
        have hbl := BoxAt.put_below (b := w.heap.size + 1) HB2.out (by omega) noRt (.slice none 0 0) (.slice none 0 0)
        subst hcs
        refine bodyPost_ret (results_ct rfl _ _ (w.heap.size + 1) 26 _ (0, 0) _ rfl hblk Tryd.underlying26 rfl (by kernel_rfl)) rfl ?_
        obtain ⟨R, er⟩ := R
        obtain ⟨rfl, rfl⟩ := (show Hid (R = noRt ∧ er = 5) from HN).out
        exact ⟨_, _, rfl, Kd.R_nil _ _ _ _ _, Kd.R_nil _ _ _ _ _, hbl⟩
      | false =>
        rw [hoo] at HO
        have hno : u ∉ r.rs ∧ u ∉ r.ws := by simpa using hoo
        have HNO := Lib.hid hno
        clear hoo hno
        go_wp2_with fail
        refine HO.out.mono ?_
        rintro e w2 ⟨rfl, hb⟩
        have HB2 := Lib.hid (below_step HB1.out hb)
        have HY2 := Lib.hid (HY1.out.below hb)
        have HX2 := Lib.hid (HX1.out.below hb)
        clear hb HO HY1 HB1 HX1 x0 x1 x2 x3 x4
        obtain ⟨x0, x1, x2, x3, x4⟩ := HX2.out.cell
        have hlen : r.rs.length + r.ws.length ≤ 5 := HP.out.2.2.2.1
        by_cases h5 : r.rs.length + r.ws.length = 5
        · have HN : Hid (R.1 = noRt ∧ R.2 = 10) := by
            rw [← HR.out]
            unfold grantF
            rw [if_neg (by rw [HQ.out.1]; simp), if_neg (by rw [HQ.out.2]; simp), if_neg (by rintro (h | h | h); exact HE1.out h; exact HNO.out.1 h; exact HNO.out.2 h), if_pos (by omega)]
            exact ⟨rfl, rfl⟩
          have hge : (r.rs.length : Int) + (r.ws.length : Int) ≥ 5 := by omega
          clear h5
          obtain ⟨y0, y1, y2, y3, y4⟩ := HY2.out.cell
          have z0 := HY2.out.free 0
          have z1 := HY2.out.free 1
          have z2 := HY2.out.free 2
          have z3 := HY2.out.free 3
          have z4 := HY2.out.free 4
          go_wp2
          obtain ⟨cs, hcs, hblk⟩ := HY2.out.put noRt (.slice none 0 0) (.slice none 0 0)
          have hbl := BoxAt.put_below (b := w.heap.size + 1) HB2.out (by omega) noRt (.slice none 0 0) (.slice none 0 0)
          subst hcs
          refine bodyPost_ret (results_ct rfl _ _ (w.heap.size + 1) 26 _ (0, 0) _ rfl hblk Tryd.underlying26 rfl (by kernel_rfl)) rfl ?_
          obtain ⟨R, er⟩ := R
          obtain ⟨rfl, rfl⟩ := (show Hid (R = noRt ∧ er = 10) from HN).out
          exact ⟨_, _, rfl, Kd.R_nil _ _ _ _ _, Kd.R_nil _ _ _ _ _, hbl⟩
        · have hge : ¬ (r.rs.length : Int) + (r.ws.length : Int) ≥ 5 := by omega
          have hlt5 : r.rs.length + r.ws.length < 5 := by omega
          clear hlen h5
          have l1 : r.rs.length ≤ 1000000 := by omega
          have l2 : r.ws.length ≤ 1000000 := by omega
          go_wp2_with fail
          have HBd := Lib.hid (below_drew HB2.out)
          have HXd : Hid (BoxAt w2.drew w.heap.size r (.slice A r.rs.length c) (.slice A' r.ws.length c')) := HX2.out
          have HYd : Hid (BoxAt w2.drew (w.heap.size + 1) noRt (.slice none 0 0) (.slice none 0 0)) := HY2.out
          go_region_with
            (first
              | (go_at_call 33; (with_reducible refine (clone_any A c r.rs w2.drew (Kd.C_below HC1.out HBd.out) l1).mono ?_); rintro e w3 ⟨v3, rfl, ho3, hb3⟩; obtain ⟨A3, c3, rfl, _⟩ := own_C ho3; have HO3 := Lib.hid ho3; have HB3 := Lib.hid hb3; have HX3 := Lib.hid (HXd.out.below hb3); have HC33 := Lib.hid (Kd.C_below HC3.out (below_step HBd.out hb3)); obtain ⟨_, _, _, p3, p4⟩ := HX3.out.cell; clear ho3 hb3)
              | (go_at_call 33; (with_reducible refine (clone_any A' c' r.ws w3 HC33.out l2).mono ?_); rintro e w4 ⟨v4, rfl, ho4, hb4⟩; obtain ⟨A4, c4, rfl, _⟩ := own_C ho4; have HO4 := Lib.hid ho4; have HB4 := Lib.hid hb4; have HX4 := Lib.hid (HX3.out.below hb4); clear p3 p4; obtain ⟨_, _, _, q3, q4⟩ := HX4.out.cell; have z3 := HX4.out.free 3; have z4 := HX4.out.free 4; clear ho4 hb4))
          all_goals
            have hst := St.start (l3 := r.rs) (l4 := r.ws) HBd.out HXd.out HYd.out HO3.out HB3.out HO4.out HB4.out
            generalize ((w4.setCell ⟨w.heap.size, 3, none⟩ (.slice A3 r.rs.length c3)).setCell ⟨w.heap.size, 4, none⟩ (.slice A4 r.ws.length c4)) = W5 at hst ⊢
            have HST := Lib.hid hst
            clear hst HO3 HB3 HO4 HB4 HX3 HX4 HC33 q3 q4 z3 z4 x0 x1 x2 x3 x4 HBd HXd HYd HB2 HX2 HY2
            obtain ⟨x0, x1, x2, x3, x4⟩ := HST.out.box.cell
            cases wr with
            | false =>
              have HPL := Lib.hid (place_call r.rs u A3 c3 _ W5 l1 HST.out.own3)
              go_wp2_with fail
              refine HPL.out.mono ?_
              rintro e w6 ⟨rfl, hb⟩
              have HS6 := Lib.hid (HST.out.below hb)
              clear hb HPL HST x0 x1 x2 x3 x4
              obtain ⟨x0, x1, x2, x3, x4⟩ := HS6.out.box.cell
              have HIN := insert_any w6 (w.heap.size + 2) (.slice A3 r.rs.length c3) r.rs (searchN r.rs u) u HS6.out.own3 (by obtain ⟨cs, _, h⟩ := HS6.out.res; have := blk_lt h; omega) (search_le HP.out.2.2.2.2.1) l1
              rw [ins_take HP.out.2.2.2.2.1] at HIN
              have HIN := Lib.hid HIN
              go_wp2_with fail
              refine HIN.out.mono ?_
              rintro e w7 ⟨v', rfl, ho7, hg7, hat7⟩
              have HN : Hid (R = (⟨r.o, r.f, r.e, insL r.rs u, r.ws⟩, 0)) := by
                rw [← HR.out]
                unfold grantF
                rw [if_neg (by rw [HQ.out.1]; simp), if_neg (by rw [HQ.out.2]; simp), if_neg (by rintro (h | h | h); exact HE1.out h; exact HNO.out.1 h; exact HNO.out.2 h), if_neg (by omega)]
                rfl
              obtain ⟨A7, c7, rfl, _⟩ := own_C ho7
              have HX7 := Lib.hid (HS6.out.box.grown hg7 (own_not HS6.out.own3 (by omega)))
              have HY7 := Lib.hid (HS6.out.res.grown hg7 (own_not HS6.out.own3 (by omega)))
              have HS7 := Lib.hid (HS6.out.set3 hg7 ho7 hat7)
              clear ho7 hg7 hat7 HIN HS6 x0 x1 x2 x3 x4
              obtain ⟨x0, x1, x2, x3, x4⟩ := HX7.out.cell
              have f3 := HX7.out.free 3
              obtain ⟨y0, y1, y2, y3, y4⟩ := HY7.out.cell
              have z0 := HY7.out.free 0
              have z1 := HY7.out.free 1
              have z2 := HY7.out.free 2
              have z3 := HY7.out.free 3
              have z4 := HY7.out.free 4
              go_wp2
              obtain ⟨cs, hcs, hblk⟩ := HS7.out.res.put ⟨r.o, r.f, r.e, insL r.rs u, r.ws⟩ (.slice A7 (insL r.rs u).length c7) (.slice A4 r.ws.length c4)
              have hbl := BoxAt.put_below (b := w.heap.size + 1) HS7.out.bel (by omega) ⟨r.o, r.f, r.e, insL r.rs u, r.ws⟩ (.slice A7 (insL r.rs u).length c7) (.slice A4 r.ws.length c4)
              subst hcs
              refine bodyPost_ret (results_ct rfl _ _ (w.heap.size + 1) 26 _ (0, 0) _ rfl hblk Tryd.underlying26 rfl (by kernel_rfl)) rfl ?_
              have hrw := HS7.out.fin (.string r.o) (.string r.f) (.int .i64 r.e) (.slice A7 (insL r.rs u).length c7) (.slice A4 r.ws.length c4)
              obtain rfl := HN.out
              exact ⟨_, _, rfl, hrw.1, hrw.2, hbl⟩
            | true =>
              have HPL := Lib.hid (place_call r.ws u A4 c4 _ W5 l2 HST.out.own4)
              go_wp2_with fail
              refine HPL.out.mono ?_
              rintro e w6 ⟨rfl, hb⟩
              have HS6 := Lib.hid (HST.out.below hb)
              clear hb HPL HST x0 x1 x2 x3 x4
              obtain ⟨x0, x1, x2, x3, x4⟩ := HS6.out.box.cell
              have HIN := insert_any w6 (w.heap.size + 2) (.slice A4 r.ws.length c4) r.ws (searchN r.ws u) u HS6.out.own4 (by obtain ⟨cs, _, h⟩ := HS6.out.res; have := blk_lt h; omega) (search_le HP.out.2.2.2.2.2.1) l2
              rw [ins_take HP.out.2.2.2.2.2.1] at HIN
              have HIN := Lib.hid HIN
              go_wp2_with fail
              refine HIN.out.mono ?_
              rintro e w7 ⟨v', rfl, ho7, hg7, hat7⟩
              have HN : Hid (R = (⟨r.o, r.f, r.e, r.rs, insL r.ws u⟩, 0)) := by
                rw [← HR.out]
                unfold grantF
                rw [if_neg (by rw [HQ.out.1]; simp), if_neg (by rw [HQ.out.2]; simp), if_neg (by rintro (h | h | h); exact HE1.out h; exact HNO.out.1 h; exact HNO.out.2 h), if_neg (by omega)]
                rfl
              obtain ⟨A7, c7, rfl, _⟩ := own_C ho7
              have HX7 := Lib.hid (HS6.out.box.grown hg7 (own_not HS6.out.own4 (by omega)))
              have HY7 := Lib.hid (HS6.out.res.grown hg7 (own_not HS6.out.own4 (by omega)))
              have HS7 := Lib.hid (HS6.out.set4 hg7 ho7 hat7)
              clear ho7 hg7 hat7 HIN HS6 x0 x1 x2 x3 x4
              obtain ⟨x0, x1, x2, x3, x4⟩ := HX7.out.cell
              have f3 := HX7.out.free 4
              obtain ⟨y0, y1, y2, y3, y4⟩ := HY7.out.cell
              have z0 := HY7.out.free 0
              have z1 := HY7.out.free 1
              have z2 := HY7.out.free 2
              have z3 := HY7.out.free 3
              have z4 := HY7.out.free 4
              go_wp2
              obtain ⟨cs, hcs, hblk⟩ := HS7.out.res.put ⟨r.o, r.f, r.e, r.rs, insL r.ws u⟩ (.slice A3 r.rs.length c3) (.slice A7 (insL r.ws u).length c7)
              have hbl := BoxAt.put_below (b := w.heap.size + 1) HS7.out.bel (by omega) ⟨r.o, r.f, r.e, r.rs, insL r.ws u⟩ (.slice A3 r.rs.length c3) (.slice A7 (insL r.ws u).length c7)
              subst hcs
              refine bodyPost_ret (results_ct rfl _ _ (w.heap.size + 1) 26 _ (0, 0) _ rfl hblk Tryd.underlying26 rfl (by kernel_rfl)) rfl ?_
              have hrw := HS7.out.fin (.string r.o) (.string r.f) (.int .i64 r.e) (.slice A3 r.rs.length c3) (.slice A7 (insL r.ws u).length c7)
              obtain rfl := HN.out
              exact ⟨_, _, rfl, hrw.1, hrw.2, hbl⟩
  · have HN : Hid ((R.1 = noRt) ∧ R.2 = askedF r u) := by
      rw [← HR.out]
      unfold grantF
      unfold askedF at ha ⊢
      cases q1 : rightR r with
      | false => exact ⟨rfl, rfl⟩
      | true =>
        cases q2 : rightN (bytes u) with
        | false => exact ⟨rfl, rfl⟩
        | true => rw [q1, q2] at ha; exact absurd rfl ha
    obtain ⟨y0, y1, y2, y3, y4⟩ := HY1.out.cell
    have z0 := HY1.out.free 0
    have z1 := HY1.out.free 1
    have z2 := HY1.out.free 2
    have z3 := HY1.out.free 3
    have z4 := HY1.out.free 4
    generalize askedF r u = ER at *
    have hE1 : ((ER : Int) == 0) = false := by rw [beq_eq_false_iff_ne]; exact ha
    have hE2 : ((ER : Int) != 0) = true := by rw [bne_iff_ne]; exact ha
    clear ha
    go_wp2
    obtain ⟨cs, hcs, hblk⟩ := HY1.out.put noRt (.slice none 0 0) (.slice none 0 0)
    have hbl := BoxAt.put_below (b := w.heap.size + 1) HB1.out (by omega) noRt (.slice none 0 0) (.slice none 0 0)
    subst hcs
    refine bodyPost_ret (results_ct rfl _ _ (w.heap.size + 1) 26 _ (0, 0) _ rfl hblk Tryd.underlying26 rfl (by kernel_rfl)) rfl ?_
    obtain ⟨R, er⟩ := R
    obtain ⟨rfl, rfl⟩ := HN.out
    exact ⟨_, _, rfl, Kd.R_nil _ _ _ _ _, Kd.R_nil _ _ _ _ _, hbl⟩

end Go.Proofs.YtfhanoloaejmkaaDoor
