/- The contract of name.Runes; with those of name.Right, name.Make, name.Fold and strings.Cut: what the printed texts lean on. -/
import Derived.Test.YtngdpoghfacokaaDoorNameMake
namespace Go.Proofs.YtngdpoghfacokaaDoor
open Go.RowKit Go.Proofs.YtngdpoghfacokaaDoorW.PrintWords Go.Proofs.YtngdpoghfacokaaDoor.Ref
set_option linter.unusedVariables false

theorem info_i32 : (Tryd.prog.info? 21).map (fun i => (i.zero, i.size, i.bytes)) = some (some (.int .i32 0), 1, 4) := by kernel_rfl
theorem iter_ne {d : Kd Int} {e : Nat} {w : World} {base : Nat} {ok : Nat → Prop} {v : Value} {xs : List Int} {K : Nat} {s : ByteArray} {pos : Nat} (h : d.R e w base ok v xs) (hk : w.heap[K]? = some (.stringIter s pos)) : some K ≠ v.ownBlock := by
  intro e1
  obtain ⟨inner, ho⟩ := Kd.R_own h
  obtain ⟨cells, hc⟩ := own_typed ho K e1.symm
  rw [hk] at hc
  simp at hc

set_option maxHeartbeats 4000000 in
set_option maxRecDepth 100000 in
theorem runes_any (s : ByteArray) (w : World) (hs : s.size ≤ 1000000) (hT : Tabs w) :
    Calls Tryd.prog 17 #[.string s] w fun e w' => ∃ v : Value, e = .returned (.tuple #[v, .int .i64 (if Lib.validD (bytes s) = true then 0 else 2)]) ∧ Kd.R (Kd.int .i32) 21 w' w.heap.size (fun _ => True) v (if Lib.validD (bytes s) = true then runesD (bytes s) else []) ∧ Below w.heap.size w w' := by
  have HV := Lib.hid (Tryd.ValidString s w (by omega) hT.1)
  have hll := runesD_len (bytes s)
  rw [bytes_length] at hll
  have hvv : Lib.validD s.data.toList = Lib.validD (bytes s) := rfl
  rw [hvv] at HV
  clear hvv
  cases hv : Lib.validD (bytes s) with
  | false =>
    rw [hv] at HV
    rw [if_neg (by simp), if_neg (by simp)]
    go_enter Tryd.func17, Tryd.ntmps17
    go_wp2_with fail
    refine HV.out.mono ?_
    rintro e w1 ⟨rfl, hb⟩
    have HB := Lib.hid hb
    clear hb HV hT
    go_wp2
    go_ret2
    exact ⟨_, rfl, Kd.R_nil _ _ _ _ _, HB.out⟩
  | true =>
    rw [hv] at HV
    rw [if_pos rfl, if_pos rfl]
    go_enter Tryd.func17, Tryd.ntmps17
    go_wp2_with fail
    refine HV.out.mono ?_
    rintro e w1 ⟨rfl, hb⟩
    have HB := Lib.hid hb
    have HLL := Lib.hid hll
    clear hb HV hT hll hv
    generalize hK : w1.heap.size = K
    go_wp2
    go_loopw [4] (fun v wr => ∃ (pos : Nat) (xs : List Int), wr.heap[K]? = some (.stringIter s pos) ∧ Hid (Kd.R (Kd.int .i32) 21 wr w.heap.size (fun _ => True) v xs ∧ Below w.heap.size w wr ∧ w.heap.size ≤ K ∧ xs ++ runesD ((bytes s).drop pos) = runesD (bytes s))) (fun v wr => s.size - wr.iterPos K)
    case atStart =>
      have h1 := HB.out.size
      refine ⟨0, [], ?_, Lib.hid ⟨Kd.R_nil _ _ _ _ _, HB.out.alloc h1 _, by omega, by simp⟩⟩
      subst hK
      have := World.iter_heap w1 s 0
      simpa using this
    case round =>
      obtain ⟨pos, xs, hit, hh⟩ := hrel
      have hsz : K < wr.heap.size := (Array.getElem?_eq_some_iff.1 hit).1
      by_cases hp : pos < s.size
      · have hnx : ∀ ty, (Instr.next (.pointer (some ⟨K, 0, none⟩)) true ty).run Tryd.prog wr = _ := fun ty => Lib.run_next_any_at wr K s pos ty hit hp
        have hwd := Lib.width_pos s pos
        have hne : (bytes s).drop pos ≠ [] := fun e => by have := congrArg List.length e; rw [List.length_drop, bytes_length] at this; simp at this; omega
        have hst := runesD_step hne
        rw [decode_drop, List.drop_drop] at hst
        have hit2 := Lib.iterAt_heap wr K s pos (pos + (Utf8.decode s pos).2) hit
        have hsz2 : (wr.iterAt K s (pos + (Utf8.decode s pos).2)).heap.size = wr.heap.size := Lib.iterAt_size _ _ _ _
        have HW2 := Lib.hid (Lib.below_iterAt hh.out.2.1 (k := K) hh.out.2.2.1 s (pos + (Utf8.decode s pos).2))
        have hKne := iter_ne hh.out.1 hit
        have ho1 : Kd.R (Kd.int .i32) 21 wr w.heap.size (fun k => k ≠ K) u4 xs := ⟨fun k hk e => hKne (by rw [← e]; exact hk.symm), hh.out.1.2⟩
        have HO2 := Lib.hid (Kd.R_mono (ok' := fun _ => True) (Kd.R_step (w1 := wr.iterAt K s (pos + (Utf8.decode s pos).2)) ho1 (fun k hk _ => Lib.iterAt_other wr K k s (pos + (Utf8.decode s pos).2) hk)) (fun _ _ => trivial))
        clear ho1
        have HS := Lib.hid hst
        have hK0 := hh.out.2.2.1
        have HX := Lib.hid hh.out.2.2.2
        have hlx : xs.length ≤ 1000000 := by
          have := HLL.out
          rw [← HX.out, List.length_append] at this
          omega
        clear hst hne hh
        generalize hwq : wr.iterAt K s (pos + (Utf8.decode s pos).2) = wq at hnx HO2 hit2 HW2 hsz2
        clear hwq
        have HKq := Lib.hid (show K < wq.heap.size by omega)
        clear hsz2
        generalize (Utf8.decode s pos).1 = R at hnx HS
        generalize (Utf8.decode s pos).2 = D at hwd hnx hit2 HS
        go_wp2_with ((with_reducible refine gate_builtin (b := .append) (xs := #[.tmp 15, .tmp 17]) rfl ?_); at_builtin; refine Kd.R_append (Kd.int .i32) (w0 := w) w.heap.size rfl (.tmp 15) (.tmp 17) 33 21 (.int .i32 0) 4 rfl Tryd.underlying33 info_i32 rfl (by decide) (by omega) u4 xs ((R : Nat) : Int) [.int .i32 ((R : Nat) : Int)] (fun _ => True) (fun _ => False) rfl rfl ?aP (fun _ hk => hk.elim) ?aF ?aO ?aB ?aS ?aL ?_; (case aP => exact rfl); (case aB => exact HW2.out); (case aF => exact (fun _ _ => trivial)); (case aO => exact HO2.out); (case aS => exact HW2.out.size); (case aL => omega); intro v5 w8 ho hb hg hat)
        have hit8 : w8.heap[K]? = some (.stringIter s (pos + D)) := by rw [hg.block K HKq.out hKne]; exact hit2
        have HN := Lib.hid (show Kd.R (Kd.int .i32) 21 w8 w.heap.size (fun _ => True) v5 (xs ++ [((R : Nat) : Int)]) ∧ Below w.heap.size w w8 ∧ w.heap.size ≤ K ∧ (xs ++ [((R : Nat) : Int)]) ++ runesD ((bytes s).drop (pos + D)) = runesD (bytes s) from
          ⟨ho, hb, hK0, by rw [List.append_assoc, ← HX.out, HS.out]; rfl⟩)
        clear ho hb hg hat HO2 HW2
        go_wp2
        go_roundw
        case rel => exact ⟨pos + D, xs ++ [((R : Nat) : Int)], hit8, HN⟩
        case measure =>
          simp only [World.iterPos, hit8, hit]
          omega
      · have hnx : ∀ ty, (Instr.next (.pointer (some ⟨K, 0, none⟩)) true ty).run Tryd.prog wr = _ := fun ty => Lib.run_next_end_at wr K s pos ty hit hp
        have he : (bytes s).drop pos = [] := List.drop_eq_nil_of_le (by rw [bytes_length]; omega)
        have hx := hh.out.2.2.2
        rw [he, runesD_nil, List.append_nil] at hx
        subst hx
        go_wp2
        go_ret2
        exact ⟨_, rfl, hh.out.1, hh.out.2.1⟩

def name_Runes.f (a0 : ByteArray) : Option (List Int × Int) := if a0.size ≤ 1000000 then some (if Lib.validD (bytes a0) = true then runesD (bytes a0) else [], if Lib.validD (bytes a0) = true then 0 else 2) else none
theorem name_Runes.calls (a0 : ByteArray) (r1 : List Int) (r2 : Int) (w : World) (HTB : Aside0 (Tabs w)) (h : name_Runes.f a0 = some (r1, r2)) :
    Calls Tryd.prog 17 #[.string a0] w fun e w' => ∃ v0_ : Value, e = .returned (.tuple #[v0_, .int .i64 r2]) ∧ Kd.R (Kd.int .i32) 21 w' w.heap.size (fun _ => True) v0_ r1 ∧ Below w.heap.size w w' := by
  unfold name_Runes.f at h
  split at h
  · rename_i hs
    simp only [Option.some.injEq, Prod.mk.injEq] at h
    obtain ⟨rfl, rfl⟩ := h
    exact runes_any a0 w hs HTB.out
  · exact absurd h (by simp)

end Go.Proofs.YtngdpoghfacokaaDoor
