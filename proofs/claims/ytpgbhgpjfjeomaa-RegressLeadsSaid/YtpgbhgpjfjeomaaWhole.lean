/- The contracts of term.whole, Kind and Parts. -/
import Derived.Test.YtpgbhgpjfjeomaaReadAny
namespace Go.Proofs.Ytpgbhgpjfjeomaa
open Go.RowKit Go.Proofs.YtpgbhgpjfjeomaaW.PrintWords
set_option linter.unusedVariables false

def WholeRes (w : World) (base : Nat) (v : Value) : Option T → Prop
  | none => v = .nilIface
  | some t => NodeAt w base v t
def WholePost (w : World) (s : ByteArray) (e : Ending) (w' : World) : Prop := ∃ v, e = .returned v ∧ WholeRes w' w.heap.size v (termOf (bytes s)) ∧ Below w.heap.size w w'

theorem NodeAt.alloc {w : World} {base : Nat} {v : Value} {t : T} (h : NodeAt w base v t) (o : Obj) : NodeAt (w.alloc o) base v t := by
  cases t with
  | atom n => exact h
  | text s => exact h
  | one k a => obtain ⟨sv, h1, h2⟩ := h; exact ⟨sv, h1, h2.alloc o⟩
  | two k a b => obtain ⟨sv, h1, h2⟩ := h; exact ⟨sv, h1, h2.alloc o⟩

theorem whole_any (s : ByteArray) (w : World) (hs : s.size ≤ 9223372036854774000) : Calls Try.prog 38 #[.string s] w (WholePost w s) := by
  by_cases hbig : 4000 < s.size
  · have hn : termOf (bytes s) = none := by unfold termOf; rw [if_neg (by rw [bytes_length]; omega)]
    have HP : Hid (WholePost w s (.returned .nilIface) w) := ⟨_, rfl, by rw [hn]; rfl, Below.refl _ _⟩
    clear hn
    go_enter Try.func38, Try.ntmps38
    go_wp2
    go_ret
    exact HP.out
  · have HR := Lib.hid (read_any 40 (by omega) s w hs)
    have ht : termOf (bytes s) = match parse 40 (bytes s) with | some (t, []) => some t | _ => none := by unfold termOf; rw [if_pos (by rw [bytes_length]; omega)]; rfl
    have HT := Lib.hid ht
    clear ht
    go_enter Try.func38, Try.ntmps38
    go_wp2_with fail
    refine HR.out.mono ?_
    rintro e w1 ⟨v, rfl, hv, hb⟩
    have Hb := Lib.hid hb
    clear hb
    cases hp : parse 40 (bytes s) with
    | none =>
      rw [hp] at hv
      obtain rfl : v = .nilIface := hv
      have HP : Hid (WholePost w s (.returned .nilIface) w1) := ⟨_, rfl, by rw [HT.out, hp]; rfl, Hb.out⟩
      clear hp
      go_wp2
      go_ret
      exact HP.out
    | some x =>
      obtain ⟨t, r⟩ := x
      rw [hp] at hv
      have hnode : NodeAt w1 w.heap.size v t := hv
      obtain ⟨ty, f, y, rfl, hm, hen, hcf⟩ := hnode.isNode
      have Hn := Lib.hid hnode
      have Hcf := Lib.hid hcf
      have hl := congrArg List.length (parse_inv _ _ _ _ hp).1
      rw [bytes_length, List.length_append] at hl
      have hsz := size_ofBytes (enc t)
      clear hnode hcf hv
      cases r with
      | nil =>
        have HP : Hid (∀ o, WholePost w s (.returned (.iface ty (.agg #[.string (ofBytes (enc t)), y]))) (w1.alloc o)) := fun o => ⟨_, rfl, by rw [HT.out, hp]; exact Hn.out.alloc o, Hb.out.alloc Hb.out.size o⟩
        have hl2 : (enc t).length = s.size := by simpa using hl.symm
        rw [hl2] at hsz
        clear hp hl hl2
        generalize ofBytes (enc t) = qa at *
        go_wp2_with fail
        refine (Hcf.out _).mono ?_
        rintro e w' ⟨rfl, rfl⟩
        go_wp2
        go_ret
        exact HP.out _
      | cons c r =>
        have HP : Hid (∀ o, WholePost w s (.returned .nilIface) (w1.alloc o)) := fun o => ⟨_, rfl, by rw [HT.out, hp]; rfl, Hb.out.alloc Hb.out.size o⟩
        have hne : (((enc t).length : Int) != (s.size : Int)) = true := by rw [bne_iff_ne]; simp only [List.length_cons] at hl; omega
        generalize (enc t).length = L at *
        clear hp hl
        generalize ofBytes (enc t) = qa at *
        go_wp2_with fail
        refine (Hcf.out _).mono ?_
        rintro e w' ⟨rfl, rfl⟩
        go_wp2
        go_ret
        exact HP.out _

end Go.Proofs.Ytpgbhgpjfjeomaa
