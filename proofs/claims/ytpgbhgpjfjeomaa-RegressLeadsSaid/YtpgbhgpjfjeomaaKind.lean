/- The contracts of term.Kind and term.Parts, in the printed form. -/
import Derived.Test.YtpgbhgpjfjeomaaWhole
namespace Go.Proofs.Ytpgbhgpjfjeomaa
open Go.RowKit Go.Proofs.YtpgbhgpjfjeomaaW.PrintWords
set_option linter.unusedVariables false

def right (s : ByteArray) : Bool := (termOf (bytes s)).isSome
def T.code : T → UInt8 | .atom _ => 97 | .text _ => 116 | .one k _ => k.code | .two k _ _ => k.code
def T.parts : T → List T | .atom _ => [] | .text _ => [] | .one _ a => [a] | .two _ a b => [a, b]
theorem enc_code (t : T) : ∃ l, enc t = t.code :: l := by cases t <;> exact ⟨_, rfl⟩
def kindF (s : ByteArray) : Int := match termOf (bytes s) with | none => 0 | some t => t.code.toNat
def partsF (s : ByteArray) : List ByteArray × Int := match termOf (bytes s) with | none => ([], 1) | some t => (t.parts.map fun a => ofBytes (enc a), 0)

def term_Kind.f (a0 : ByteArray) : Option Int := if a0.size ≤ 9223372036854774000 then some (kindF a0) else none
def term_Parts.f (a0 : ByteArray) : Option (List ByteArray × Int) := if a0.size ≤ 9223372036854774000 then some (partsF a0) else none

theorem NodeAt.shape {w : World} {base : Nat} {v : Value} {t : T} (h : NodeAt w base v t) : ∃ ty y, v = .iface ty y := by
  obtain ⟨ty, _, y, rfl, _⟩ := h.isNode
  exact ⟨_, _, rfl⟩

theorem term_Kind.calls (a0 : ByteArray) (r : Int) (w : World) (h : term_Kind.f a0 = some r) :
    Calls Try.prog 14 #[.string a0] w fun e w' => e = .returned (.int .u8 r) ∧ Below w.heap.size w w' := by
  unfold term_Kind.f at h
  split at h
  · rename_i hs
    obtain rfl := Option.some.inj h
    have HW := Lib.hid (whole_any a0 w hs)
    clear h
    cases ht : termOf (bytes a0) with
    | none =>
      have hk : kindF a0 = 0 := by unfold kindF; rw [ht]
      rw [hk]
      clear hk
      go_enter Try.func14, Try.ntmps14
      go_wp2_with fail
      refine HW.out.mono ?_
      rintro e w1 ⟨v, rfl, hv, hb⟩
      rw [ht] at hv
      obtain rfl : v = .nilIface := hv
      have HB := Lib.hid hb
      clear hb ht
      go_wp2
      go_ret
      exact ⟨rfl, HB.out⟩
    | some t =>
      have hk : kindF a0 = t.code.toNat := by unfold kindF; rw [ht]
      rw [hk]
      obtain ⟨l, hl⟩ := enc_code t
      have hb0 : bytes a0 = t.code :: l := by rw [(termOf_inv ht).1, hl]
      have hby : ∀ h : 0 < a0.size, (a0[0]'h).toNat = t.code.toNat := fun h => by rw [(bytes_cons hb0).2.2.1 h]
      have hsz : 0 < a0.size := by have := (bytes_cons hb0).1; omega
      generalize t.code.toNat = cn at *
      clear hk hb0 hl
      go_enter Try.func14, Try.ntmps14
      go_wp2_with fail
      refine HW.out.mono ?_
      rintro e w1 ⟨v, rfl, hv, hb⟩
      rw [ht] at hv
      obtain ⟨ty, y, rfl⟩ := NodeAt.shape (show NodeAt w1 w.heap.size v t from hv)
      have HB := Lib.hid hb
      clear hb ht hv
      go_wp2
      go_ret
      exact ⟨rfl, HB.out⟩
  · exact absurd h (by simp)

theorem encs_str (l : List T) : strCells (l.map enc) = encs Value.string (l.map fun a => ofBytes (enc a)) := by
  simp [strCells, encs, Function.comp_def]
theorem R_of_own {w : World} {base e n : Nat} {v : Value} {l : List ByteArray} (h : w.ownsRow base e 1 v n (encs Value.string l)) : Kd.R Kd.string e w base (fun _ => True) v l := by
  have hn : l.length = n := by have := h.1; simpa [encs] using this
  subst hn
  exact ⟨fun _ _ => trivial, _, h, Kd.reps_scalar l⟩

theorem asrt_parts (y : Value) (W : World) : Sem.run Try.prog (Instr.typeAssert (.iface 55 y) 52 55 true) W = .ok (.tuple #[y, .bool true]) W := by kernel_rfl
theorem asrt_number (y : Value) (W : World) : Sem.run Try.prog (Instr.typeAssert (.iface 78 y) 52 55 true) W = .ok (.tuple #[.agg #[.string ⟨#[]⟩, .slice none 0 0], .bool false]) W := by kernel_rfl
theorem asrt_words (y : Value) (W : World) : Sem.run Try.prog (Instr.typeAssert (.iface 80 y) 52 55 true) W = .ok (.tuple #[.agg #[.string ⟨#[]⟩, .slice none 0 0], .bool false]) W := by kernel_rfl
def PartsPost (w : World) (l : List ByteArray) (c : Int) (e : Ending) (w' : World) : Prop := ∃ v0_ : Value, e = .returned (.tuple #[v0_, .int .i64 c]) ∧ Kd.R Kd.string 9 w' w.heap.size (fun _ => True) v0_ l ∧ Below w.heap.size w w'

theorem term_Parts.calls (a0 : ByteArray) (r1 : List ByteArray) (r2 : Int) (w : World) (h : term_Parts.f a0 = some (r1, r2)) :
    Calls Try.prog 13 #[.string a0] w fun e w' => ∃ v0_ : Value, e = .returned (.tuple #[v0_, .int .i64 r2]) ∧ Kd.R Kd.string 9 w' w.heap.size (fun _ => True) v0_ r1 ∧ Below w.heap.size w w' := by
  unfold term_Parts.f at h
  split at h
  · rename_i hs
    have h := Option.some.inj h
    have HW := Lib.hid (whole_any a0 w hs)
    show Calls Try.prog 13 #[.string a0] w (PartsPost w r1 r2)
    cases ht : termOf (bytes a0) with
    | none =>
      rw [show partsF a0 = ([], 1) from by unfold partsF; rw [ht]] at h
      simp only [Prod.mk.injEq] at h
      obtain ⟨rfl, rfl⟩ := h
      go_enter Try.func13, Try.ntmps13
      go_wp2_with fail
      refine HW.out.mono ?_
      rintro e w1 ⟨v, rfl, hv, hb⟩
      rw [ht] at hv
      obtain rfl : v = .nilIface := hv
      have HP : Hid (PartsPost w [] 1 (.returned (.tuple #[.slice none 0 0, .int .i64 1])) w1) := ⟨_, rfl, Kd.R_nil _ _ _ _ _, hb⟩
      clear hb ht
      go_wp2
      go_ret2
      exact HP.out
    | some t =>
      rw [show partsF a0 = (t.parts.map fun a => ofBytes (enc a), 0) from by unfold partsF; rw [ht]] at h
      simp only [Prod.mk.injEq] at h
      obtain ⟨rfl, rfl⟩ := h
      go_enter Try.func13, Try.ntmps13
      go_wp2_with fail
      refine HW.out.mono ?_
      rintro e w1 ⟨v, rfl, hv, hb⟩
      rw [ht] at hv
      have hv : NodeAt w1 w.heap.size v t := hv
      have f1 := asrt_parts
      have f2 := asrt_number
      have f3 := asrt_words
      clear ht
      cases t with
      | atom n =>
        obtain rfl := hv
        have HP : Hid (∀ o, PartsPost w [] 0 (.returned (.tuple #[.slice none 0 0, .int .i64 0])) (w1.alloc o)) := fun o => ⟨_, rfl, Kd.R_nil _ _ _ _ _, hb.alloc hb.size o⟩
        clear hb
        simp only [leafVal]
        go_wp2
        go_ret2
        exact HP.out _
      | text n =>
        obtain rfl := hv
        have HP : Hid (∀ o, PartsPost w [] 0 (.returned (.tuple #[.slice none 0 0, .int .i64 0])) (w1.alloc o)) := fun o => ⟨_, rfl, Kd.R_nil _ _ _ _ _, hb.alloc hb.size o⟩
        clear hb
        simp only [leafVal]
        go_wp2
        go_ret2
        exact HP.out _
      | one k a =>
        obtain ⟨sv, rfl, ho⟩ := hv
        have HP : Hid (∀ o, PartsPost w (List.map (fun a => ofBytes (enc a)) (T.one k a).parts) 0 (.returned (.tuple #[sv, .int .i64 0])) (w1.alloc o)) := fun o => ⟨_, rfl, R_of_own (n := 1) (ho.alloc o), hb.alloc hb.size o⟩
        obtain ⟨g, c, rfl, _, _⟩ := ho.form (by omega)
        generalize ofBytes (enc (T.one k a)) = qa at *
        clear hb ho
        go_wp2
        go_ret2
        exact HP.out _
      | two k a b =>
        obtain ⟨sv, rfl, ho⟩ := hv
        have HP : Hid (∀ o, PartsPost w (List.map (fun a => ofBytes (enc a)) (T.two k a b).parts) 0 (.returned (.tuple #[sv, .int .i64 0])) (w1.alloc o)) := fun o => ⟨_, rfl, R_of_own (n := 2) (ho.alloc o), hb.alloc hb.size o⟩
        obtain ⟨g, c, rfl, _, _⟩ := ho.form (by omega)
        generalize ofBytes (enc (T.two k a b)) = qa at *
        clear hb ho
        go_wp2
        go_ret2
        exact HP.out _
  · exact absurd h (by simp)

end Go.Proofs.Ytpgbhgpjfjeomaa
