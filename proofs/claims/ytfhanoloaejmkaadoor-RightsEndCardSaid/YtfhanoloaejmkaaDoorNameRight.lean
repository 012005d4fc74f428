/- The contracts of strings.Cut and name.Right: what the printed texts lean on. -/
import Derived.Test.YtfhanoloaejmkaaDoorLetters
import Derived.Test.YtfhanoloaejmkaaDoorLays
import Derived.Test.YtfhanoloaejmkaaDoorShelf
import Derived.Lib.OthersKept
import Derived.Lib.Hide
namespace Go.Proofs.YtfhanoloaejmkaaDoor
open Go.RowKit Go.Proofs.YtfhanoloaejmkaaDoorW.PrintWords Go.Proofs.YtfhanoloaejmkaaDoor.Ref
set_option linter.unusedVariables false

/-- What the package-level variables hold: utf8's tables, and a number. -/
def Tabs (w : World) : Prop := Lib.Utf8Tabs 0 1 w ∧ ∃ m, w.cell? ⟨2, 0, none⟩ = some (.int .i64 m)
theorem Tabs.below {w w' : World} (h : Tabs w) (hb : Below w.heap.size w w') : Tabs w' := by
  obtain ⟨h1, m, h2⟩ := h
  exact ⟨Go.Proofs.Utf8Tabs_below h1 hb, m, pw_cell_below hb h2⟩

theorem decode_drop (s : ByteArray) (pos : Nat) : Lib.decodeL ((bytes s).drop pos) = Utf8.decode s pos := Lib.decodeL_drop s pos

set_option maxHeartbeats 4000000 in
set_option maxRecDepth 100000 in
theorem right_any (s : ByteArray) (w : World) (hs : s.size ≤ 9223372036854775807) (hT : Tabs w) :
    Calls Tryd.prog 21 #[.string s] w fun e w' => e = .returned (.bool (rightN (bytes s))) ∧ Below w.heap.size w w' := by
  have HV := Lib.hid (Tryd.ValidString s w hs hT.1)
  have hll := runesD_len (bytes s)
  rw [bytes_length] at hll
  obtain ⟨R, hR⟩ : ∃ R, rightN (bytes s) = R := ⟨_, rfl⟩
  rw [hR]
  go_enter Tryd.func21, Tryd.ntmps21
  go_wp2_with fail
  refine HV.out.mono ?_
  rintro e w1 ⟨rfl, hb⟩
  have HB := Lib.hid hb
  clear hb HV hT
  cases hv : Lib.validD s.data.toList with
  | false =>
    have hv' : Lib.validD (bytes s) = false := hv
    unfold rightN at hR
    rw [hv', Bool.false_and, Bool.false_and] at hR
    subst hR
    go_wp2
    go_ret
    exact ⟨rfl, HB.out⟩
  | true =>
    have hv' : Lib.validD (bytes s) = true := hv
    have hR1 : ((runesD (bytes s)).all letterZ && decide (1 ≤ (runesD (bytes s)).length ∧ (runesD (bytes s)).length ≤ 32)) = R := by
      rw [← hR]; unfold rightN; rw [hv', Bool.true_and]
    have HR := Lib.hid hR1
    have HLL := Lib.hid hll
    clear hR hR1 hv hv' hll
    generalize hK : w1.heap.size = K
    go_wp2
    go_loopw [3] (fun n wr => ∃ (pos : Nat) (k : Nat), n = .int .i64 k ∧ wr.heap[K]? = some (.stringIter s pos) ∧ Hid (Below w.heap.size w wr ∧ w.heap.size ≤ K ∧ k + (runesD ((bytes s).drop pos)).length = (runesD (bytes s)).length ∧ (runesD (bytes s)).all letterZ = (runesD ((bytes s).drop pos)).all letterZ)) (fun n wr => s.size - wr.iterPos K)
    case atStart =>
      have h1 := HB.out.size
      refine ⟨0, 0, rfl, ?_, Lib.hid ⟨HB.out.alloc h1 _, by omega, by simp, by simp⟩⟩
      subst hK
      have := World.iter_heap w1 s 0
      simpa using this
    case round =>
      obtain ⟨pos, k, rfl, hit, hh⟩ := hrel
      have hsz : K < wr.heap.size := (Array.getElem?_eq_some_iff.1 hit).1
      by_cases hp : pos < s.size
      · have hnx : ∀ ty, (Instr.next (.pointer (some ⟨K, 0, none⟩)) true ty).run Tryd.prog wr = _ := fun ty => Lib.run_next_any_at wr K s pos ty hit hp
        have hwd := Lib.width_pos s pos
        have hne : (bytes s).drop pos ≠ [] := fun e => by have := congrArg List.length e; rw [List.length_drop, bytes_length] at this; simp at this; omega
        have hst := runesD_step hne
        rw [decode_drop, List.drop_drop] at hst
        have hit2 := Lib.iterAt_heap wr K s pos (pos + (Utf8.decode s pos).2) hit
        have hsz2 : (wr.iterAt K s (pos + (Utf8.decode s pos).2)).heap.size = wr.heap.size := Lib.iterAt_size _ _ _ _
        have HW2 := Lib.hid (Lib.below_iterAt hh.out.1 (k := K) hh.out.2.1 s (pos + (Utf8.decode s pos).2))
        have HL := Lib.hid (letter_calls (((Utf8.decode s pos).1 : Nat) : Int) (wr.iterAt K s (pos + (Utf8.decode s pos).2)))
        have HS := Lib.hid hst
        have hrl := Lib.hid hh.out.2.2
        have hK0 := hh.out.2.1
        clear hst hne hh
        cases hl : letterZ (((Utf8.decode s pos).1 : Nat) : Int) with
        | false =>
          rw [hl] at HL
          go_wp2_with fail
          refine HL.out.mono ?_
          rintro e w2 ⟨rfl, hb⟩
          have HB2 := Lib.hid (HW2.out.trans (hb.mono HW2.out.size))
          clear hb HL
          go_wp2
          go_ret
          refine ⟨?_, HB2.out⟩
          have h1 := hrl.out.2
          rw [HS.out, List.all_cons, hl, Bool.false_and] at h1
          have h2 : R = false := by rw [← HR.out, h1, Bool.false_and]
          rw [h2]; rfl
        | true =>
          rw [hl] at HL
          go_wp2_with fail
          refine HL.out.mono ?_
          rintro e w2 ⟨rfl, hb⟩
          have HB2 := Lib.hid (HW2.out.trans (hb.mono HW2.out.size))
          have hit3 : w2.heap[K]? = some (.stringIter s (pos + (Utf8.decode s pos).2)) := by rw [hb.block K (by omega)]; exact hit2
          clear hb HL
          go_wp2
          go_roundw
          case rel =>
            have h1 := hrl.out
            rw [HS.out, List.all_cons, hl, Bool.true_and, List.length_cons] at h1
            refine ⟨pos + (Utf8.decode s pos).2, k + 1, ?_, hit3, Lib.hid ⟨HB2.out, ?_, by omega, h1.2⟩⟩
            · have := HLL.out
              rw [w64 (by omega) (by omega)]; rfl
            · omega
          case measure =>
            simp only [World.iterPos, hit3, hit]
            omega
      · have hnx : ∀ ty, (Instr.next (.pointer (some ⟨K, 0, none⟩)) true ty).run Tryd.prog wr = _ := fun ty => Lib.run_next_end_at wr K s pos ty hit hp
        have he : (bytes s).drop pos = [] := List.drop_eq_nil_of_le (by rw [bytes_length]; omega)
        have hrl := hh.out
        rw [he] at hrl
        simp only [runesD_nil, List.length_nil, Nat.add_zero, List.all_nil] at hrl
        have HRL := Lib.hid hrl
        clear hrl hh he
        by_cases h1 : 1 ≤ k
        · have h1z : (k : Int) ≥ 1 := by omega
          by_cases h2 : k ≤ 32
          · have h2z : (k : Int) ≤ 32 := by omega
            go_wp2
            go_ret
            refine ⟨?_, HRL.out.1⟩
            have h3 : R = true := by rw [← HR.out, HRL.out.2.2.2, ← HRL.out.2.2.1, decide_eq_true ⟨h1, h2⟩]; rfl
            rw [h3]; rfl
          · have h2z : ¬ (k : Int) ≤ 32 := by omega
            go_wp2
            go_ret
            refine ⟨?_, HRL.out.1⟩
            have h3 : R = false := by rw [← HR.out, HRL.out.2.2.2, ← HRL.out.2.2.1, decide_eq_false (fun h => h2 h.2)]; rfl
            rw [h3]; rfl
        · have h1z : ¬ (k : Int) ≥ 1 := by omega
          go_wp2
          go_ret
          refine ⟨?_, HRL.out.1⟩
          have h3 : R = false := by rw [← HR.out, HRL.out.2.2.2, ← HRL.out.2.2.1, decide_eq_false (fun h => h1 h.1)]; rfl
          rw [h3]; rfl
  
def name_Right.f (a0 : ByteArray) : Option Bool := if a0.size ≤ 9223372036854775807 then some (rightN (bytes a0)) else none
theorem name_Right.calls (a0 : ByteArray) (r : Bool) (w : World) (HTB : Aside0 (Tabs w)) (h : name_Right.f a0 = some r) :
    Calls Tryd.prog 21 #[.string a0] w fun e w' => e = .returned (.bool r) ∧ Below w.heap.size w w' := by
  unfold name_Right.f at h
  split at h
  · rename_i hs
    obtain rfl := Option.some.inj h
    exact right_any a0 w hs HTB.out
  · exact absurd h (by simp)

end Go.Proofs.YtfhanoloaejmkaaDoor
