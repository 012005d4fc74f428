/- The contracts of name.Make and name.Fold. -/
import Derived.Test.YtngdpoghfacokaaDoorNameRight
namespace Go.Proofs.YtngdpoghfacokaaDoor
open Go.RowKit Go.Proofs.YtngdpoghfacokaaDoorW.PrintWords Go.Proofs.YtngdpoghfacokaaDoor.Ref
set_option linter.unusedVariables false

theorem at_below {T e : TypeId} {B b : Nat} {p : Value} {bs : List Value} {W W' : World} (h : Lib.BuilderAtF T e B b p bs W) (hb : Below W.heap.size W W') : Lib.BuilderAtF T e B b p bs W' := by
  have hlt := h.lt
  obtain ⟨hB, v, hv, hown, hne⟩ := h
  exact ⟨hB, v, (hb.block b hlt).trans hv, hown.kept (row := none) ⟨hb.os, hb.tape, hb.output, hb.size, fun k hk _ => hb.block k hk⟩ (Classical.em _), hne⟩
theorem builder_below {T e : TypeId} {B b : Nat} {bs : List Value} {W W' : World} (h : Lib.IsBuilderF T e B b bs W) (hb : Below W.heap.size W W') : Lib.IsBuilderF T e B b bs W' :=
  h.elim (fun x => .inl (at_below x hb)) (fun x => .inr (at_below x hb))
theorem valid_iff (r : Int) : Lib.validRune r = decide (ValidR r) := rfl
theorem makeD_len (rs : List Int) : (makeD rs).length ≤ 4 * rs.length := by
  induction rs with
  | nil => simp [makeD_nil]
  | cons r rs ih => have := encode_len r; rw [makeD_cons, List.length_append, List.length_cons]; omega
theorem makeD_snoc (rs : List Int) (r : Int) : Lib.byteCells (makeD (rs ++ [r])) = Lib.byteCells (makeD rs) ++ Lib.runeCells r := by
  rw [makeD_append, Lib.byteCells_append, ← Lib.byteCells_encodeRune]
  congr 1
  rw [makeD_cons, makeD_nil, List.append_nil]

def makeF (l : List Int) : ByteArray × Int := if l.all (fun r => decide (ValidR r)) = true then (ofBytes (makeD l), 0) else (⟨#[]⟩, 1)
set_option maxHeartbeats 4000000 in
set_option maxRecDepth 100000 in
theorem make_any (A0 : Option Addr) (c0 : Nat) (l : List Int) (w : World) (hr0 : Kd.C (Kd.int .i32) w A0 l.length l) (hl : l.length ≤ 1000000) :
    Calls Tryd.prog 18 #[.slice A0 l.length c0] w fun e w' => e = .returned (.tuple #[.string (makeF l).1, .int .i64 (makeF l).2]) ∧ Below w.heap.size w w' := by
  obtain ⟨R, hR⟩ : ∃ R, makeF l = R := ⟨_, rfl⟩
  rw [hR]
  have HC := Lib.hid (show ∀ k (h : k < l.length), ∃ ad, A0 = some ad ∧ w.cell? (ad.add k) = some (.int .i32 l[k]) by
    intro k hk
    obtain ⟨ad, e, hc⟩ := hr0.2.2 (by omega)
    obtain ⟨c, hcl, hcr, hcell⟩ := hc k l[k] (List.getElem?_eq_getElem hk)
    have hcr : c = [.int .i32 l[k]] := hcr
    subst hcr
    have := hcell 0 _ rfl
    exact ⟨ad, e, by simpa [show (Kd.int .i32).sz = 1 from rfl] using this⟩)
  have HR := Lib.hid hR
  clear hr0 hR
  go_enter Tryd.func18, Tryd.ntmps18
  go_wp2
  go_loopw [9] (fun i wr => ∃ k : Nat, k ≤ l.length ∧ i = .int .i64 k ∧ Hid (l.all (fun r => decide (ValidR r)) = (l.drop k).all (fun r => decide (ValidR r)) ∧ Lib.IsBuilderF 53 5 w.heap.size w.heap.size (Lib.byteCells (makeD (l.take k))) wr ∧ Below w.heap.size w wr ∧ w.heap.size ≤ wr.heap.size)) (fun i _ => 1000001 - (intOf i).toNat)
  case atStart =>
    exact ⟨0, by omega, rfl, Lib.hid ⟨rfl, Lib.IsBuilderF.of (Lib.fresh_isBuilder 53 5 w), (Below.refl _ w).alloc (Nat.le_refl _) _, by simp⟩⟩
  case round =>
    obtain ⟨k, hk, rfl, hh⟩ := hrel
    by_cases hlt : k < l.length
    · obtain ⟨ad, rfl, hcell⟩ := HC.out k hlt
      have hcw := pw_cell_below hh.out.2.2.1 hcell
      clear hcell
      have hlt2 : (k : Int) < (l.length : Int) := by omega
      have HT := Lib.hid (show l.take (k + 1) = l.take k ++ [l[k]] from List.take_succ_eq_append_getElem hlt)
      have HD := Lib.hid (show l.drop k = l[k] :: l.drop (k + 1) from List.drop_eq_getElem_cons hlt)
      have HV := Lib.hid (fun W => Tryd.utf8_ValidRune l[k] W)
      have HL := Lib.hid (show (makeD (l.take k)).length ≤ 4000000 by have := makeD_len (l.take k); rw [List.length_take] at this; omega)
      generalize l[k] = r at hcw HT HD HV
      by_cases hv : ValidR r
      · have HVv := Lib.hid (show Lib.validRune r = true by rw [valid_iff]; exact decide_eq_true hv)
        go_wp2_with fail
        refine (HV.out _).mono ?_
        rintro e w1 ⟨rfl, rfl⟩
        rw [HVv.out]
        go_wp2_with fail
        have hb1 : -2147483648 ≤ r := by unfold ValidR at hv; omega
        have hb2 : r ≤ 2147483647 := by unfold ValidR at hv; omega
        refine (Tryd.WriteRune w.heap.size w.heap.size _ r hb1 hb2 _ hh.out.2.1 (by rw [Lib.byteCells_length]; have := HL.out; omega) hh.out.2.2.2).mono ?_
        rintro e w2 ⟨rfl, h1, b1, k1⟩
        have HN := Lib.hid (show l.all (fun r => decide (ValidR r)) = (l.drop (k + 1)).all (fun r => decide (ValidR r)) ∧ Lib.IsBuilderF 53 5 w.heap.size w.heap.size (Lib.byteCells (makeD (l.take (k + 1)))) w2 ∧ Below w.heap.size w w2 ∧ w.heap.size ≤ w2.heap.size from
          ⟨by rw [hh.out.1, HD.out, List.all_cons, decide_eq_true hv, Bool.true_and], by rw [HT.out, makeD_snoc]; exact Or.inr h1, hh.out.2.2.1.trans b1, by have := b1.size; have := hh.out.2.2.2; omega⟩)
        clear h1 b1 k1
        go_wp2
        go_roundw
        case rel => exact ⟨k + 1, by omega, rfl, HN⟩
        case measure =>
          simp only [intOf]
          omega
      · have HVv := Lib.hid (show Lib.validRune r = false by rw [valid_iff]; exact decide_eq_false hv)
        go_wp2_with fail
        refine (HV.out _).mono ?_
        rintro e w1 ⟨rfl, rfl⟩
        rw [HVv.out]
        have hRv : R = (⟨#[]⟩, 1) := by
          rw [← HR.out]
          unfold makeF
          rw [hh.out.1, HD.out, List.all_cons, decide_eq_false hv, Bool.false_and, if_neg (by simp)]
        subst hRv
        go_wp2
        go_ret2
        exact ⟨rfl, hh.out.2.2.1⟩
    · have hlt2 : ¬ (k : Int) < (l.length : Int) := by omega
      obtain rfl : k = l.length := by omega
      go_wp2_with fail
      refine (Tryd.Builder_String_any_k w.heap.size w.heap.size (makeD (l.take l.length)) _ hh.out.2.1 hh.out.2.2.2).mono ?_
      rintro e w2 ⟨rfl, _, b1, _⟩
      have hRv : R = (ofBytes (makeD l), 0) := by
        rw [← HR.out]
        unfold makeF
        rw [hh.out.1, List.drop_length, List.all_nil, if_pos rfl]
      have HB := Lib.hid (hh.out.2.2.1.trans b1)
      rw [List.take_length]
      subst hRv
      go_wp2
      go_ret2
      exact ⟨rfl, HB.out⟩
def name_Make.f (l0 : List Int) : Option (ByteArray × Int) := if l0.length ≤ 1000000 then some (makeF l0) else none
theorem name_Make.calls (A0 : Option Addr) (c0 : Nat) (l0 : List Int) (r1 : ByteArray) (r2 : Int) (w : World) (hr0 : Kd.C (Kd.int .i32) w A0 l0.length l0) (hc0 : l0.length ≤ c0) (h : name_Make.f l0 = some (r1, r2)) :
    Calls Tryd.prog 18 #[.slice A0 l0.length c0] w fun e w' => e = .returned (.tuple #[.string r1, .int .i64 r2]) ∧ Below w.heap.size w w' := by
  unfold name_Make.f at h
  split at h
  · rename_i hs
    have h := Option.some.inj h
    have h1 : r1 = (makeF l0).1 := by rw [h]
    have h2 : r2 = (makeF l0).2 := by rw [h]
    subst h1 h2
    exact make_any A0 c0 l0 w hr0 hs
  · exact absurd h (by simp)

theorem decodeGo_drop (s : ByteArray) (pos : Nat) (hp : pos < s.size) : Lib.decodeGo (s.extract pos s.size) = Utf8.decode s pos := by
  have hsz : (s.extract pos s.size).size = s.size - pos := by rw [← bytes_length, bytes_from, List.length_drop, bytes_length]
  unfold Lib.decodeGo
  rw [if_neg (by omega), ← decode_drop s pos, ← bytes_from, ← decode_drop (s.extract pos s.size) 0]
  rfl
theorem fold_step {s : ByteArray} {pos : Nat} (hp : pos < s.size) :
    ((Utf8.decode s pos).1 = 65533 ∧ (Utf8.decode s pos).2 = 1 → foldRs ((bytes s).drop pos) = 45 :: foldRs ((bytes s).drop (pos + (Utf8.decode s pos).2))) ∧
    (¬ ((Utf8.decode s pos).1 = 65533 ∧ (Utf8.decode s pos).2 = 1) → foldRs ((bytes s).drop pos) = foldR (((Utf8.decode s pos).1 : Nat) : Int) :: foldRs ((bytes s).drop (pos + (Utf8.decode s pos).2))) := by
  have hne : (bytes s).drop pos ≠ [] := fun e => by have := congrArg List.length e; rw [List.length_drop, bytes_length] at this; simp at this; omega
  have h := foldRs_step hne
  have hb : Bad ((bytes s).drop pos) ↔ ((Utf8.decode s pos).1 = 65533 ∧ (Utf8.decode s pos).2 = 1) := by unfold Bad; rw [decode_drop]
  constructor
  · intro h1
    rw [if_pos (hb.2 h1), decode_drop, List.drop_drop] at h
    exact h
  · intro h1
    rw [if_neg (fun e => h1 (hb.1 e)), decode_drop, List.drop_drop] at h
    exact h
theorem rune_le2 (s : ByteArray) (pos : Nat) : (Utf8.decode s pos).1 ≤ 1114111 := Lib.rune_le s pos

set_option maxHeartbeats 4000000 in
set_option maxRecDepth 100000 in
theorem fold_any (s : ByteArray) (w : World) (hs : s.size ≤ 1000000) (hT : Tabs w) :
    Calls Tryd.prog 27 #[.string s] w fun e w' => e = .returned (.string (ofBytes (foldD (bytes s)))) ∧ Below w.heap.size w w' := by
  have HT := Lib.hid hT
  clear hT
  go_enter Tryd.func27, Tryd.ntmps27
  go_wp2
  go_loopw [] (fun wr => ∃ (pos : Nat) (acc : List Int), wr.heap[w.heap.size + 1]? = some (.stringIter s pos) ∧ Hid (Lib.IsBuilderF 53 5 w.heap.size w.heap.size (Lib.byteCells (makeD acc)) wr ∧ Below w.heap.size w wr ∧ acc ++ foldRs ((bytes s).drop pos) = foldRs (bytes s) ∧ acc.length ≤ pos)) (fun wr => s.size - wr.iterPos (w.heap.size + 1))
  case atStart =>
    refine ⟨0, [], ?_, Lib.hid ⟨(Lib.IsBuilderF.of (Lib.fresh_isBuilder 53 5 w)).alloc _, ((Below.refl _ w).alloc (Nat.le_refl _) _).alloc (by simp) _, by simp, by simp⟩⟩
    have := World.iter_heap (w.alloc (.cells #[.pointer none, .slice none 0 0] 53)) s 0
    simpa using this
  case round =>
    obtain ⟨pos, acc, hit, hh⟩ := hrel
    have hsz : w.heap.size + 1 < wr.heap.size := (Array.getElem?_eq_some_iff.1 hit).1
    by_cases hp : pos < s.size
    · have hnx : ∀ ty, (Instr.next (.pointer (some ⟨w.heap.size + 1, 0, none⟩)) true ty).run Tryd.prog wr = _ := fun ty => Lib.run_next_any_at wr (w.heap.size + 1) s pos ty hit hp
      have hwd := Lib.width_pos s pos
      have hd1 := rune_le2 s pos
      have HI2 := Lib.hid (hh.out.1.iterAt hit (pos + (Utf8.decode s pos).2))
      have hit2 := Lib.iterAt_heap wr (w.heap.size + 1) s pos (pos + (Utf8.decode s pos).2) hit
      have HW2 := Lib.hid (Lib.below_iterAt hh.out.2.1 (k := w.heap.size + 1) (by omega) s (pos + (Utf8.decode s pos).2))
      have hsz2 : (wr.iterAt (w.heap.size + 1) s (pos + (Utf8.decode s pos).2)).heap.size = wr.heap.size := Lib.iterAt_size _ _ _ _
      have HS := Lib.hid (fold_step hp)
      have HA := Lib.hid hh.out.2.2
      have HD := Lib.hid (Tryd.utf8_DecodeRuneInString (s.extract pos s.size) (wr.iterAt (w.heap.size + 1) s (pos + (Utf8.decode s pos).2)) ((HT.out.below HW2.out).1))
      rw [decodeGo_drop s pos hp] at HD
      clear hh
      generalize hwq : wr.iterAt (w.heap.size + 1) s (pos + (Utf8.decode s pos).2) = wq at hnx HI2 hit2 HW2 hsz2 HD
      clear hwq
      generalize (Utf8.decode s pos).1 = R at hd1 hnx HS HD
      generalize (Utf8.decode s pos).2 = D at hwd hnx HI2 hit2 HS HD
      have hpz : (pos : Int) ≤ (s.size : Int) := by omega
      have hp0 : (0 : Int) ≤ (pos : Int) := by omega
      have HG := Lib.hid (fun W => great_calls ((R : Nat) : Int) W)
      go_wp2_with fail
      refine HD.out.mono ?_
      rintro e w1 ⟨rfl, hb⟩
      have HI3 := Lib.hid (builder_below HI2.out hb)
      have hit3 : w1.heap[w.heap.size + 1]? = some (.stringIter s (pos + D)) := by rw [hb.block (w.heap.size + 1) (by omega)]; exact hit2
      have HW3 := Lib.hid (HW2.out.trans (hb.mono HW2.out.size))
      have hsz3 : w.heap.size ≤ w1.heap.size := HW3.out.size
      clear hb HD HI2 HW2 hit2 hnx
      have hlen : (Lib.byteCells (makeD acc)).length ≤ 4000000 := by
        rw [Lib.byteCells_length]
        have := makeD_len acc
        have := HA.out.2
        omega
      have hRz : ((R : Nat) : Int) ≤ 1114111 := by omega
      -- what is written: a rune
      have HWR := Lib.hid (fun (r : Int) (W : World) (h : Lib.IsBuilderF 53 5 w.heap.size w.heap.size (Lib.byteCells (makeD acc)) W) (h1 : -2147483648 ≤ r) (h2 : r ≤ 2147483647) (h3 : w.heap.size ≤ W.heap.size) => Tryd.WriteRune w.heap.size w.heap.size _ r h1 h2 W h (by omega) h3)
      have HFin := Lib.hid (fun (W W1 : World) (x : Int) (hx : foldRs ((bytes s).drop pos) = x :: foldRs ((bytes s).drop (pos + D))) (h1 : Lib.IsBuilderF 53 5 w.heap.size w.heap.size (Lib.byteCells (makeD (acc ++ [x]))) W1) (h2 : Below w.heap.size w W1) =>
        (show Lib.IsBuilderF 53 5 w.heap.size w.heap.size (Lib.byteCells (makeD (acc ++ [x]))) W1 ∧ Below w.heap.size w W1 ∧ (acc ++ [x]) ++ foldRs ((bytes s).drop (pos + D)) = foldRs (bytes s) ∧ (acc ++ [x]).length ≤ pos + D from
          ⟨h1, h2, by rw [List.append_assoc, ← HA.out.1, hx]; rfl, by rw [List.length_append, List.length_singleton]; have := HA.out.2; omega⟩))
      by_cases hbad : R = 65533 ∧ D = 1
      · have hx := HS.out.1 hbad
        obtain ⟨rfl, rfl⟩ := hbad
        have HX := Lib.hid hx
        clear hx HS HG HWR hwd
        go_wp2_with fail
        refine (Tryd.WriteByte w.heap.size w.heap.size _ 45 _ HI3.out (by omega) hsz3).mono ?_
        rintro e w2 ⟨rfl, h1, b1, k1⟩
        have hit4 := k1.iter hit3 (by omega)
        have h45 : Lib.byteCells (makeD acc) ++ [.int .u8 45] = Lib.byteCells (makeD (acc ++ [45])) := by rw [makeD_snoc]; rfl
        rw [h45] at h1
        have HN := Lib.hid (HFin.out w1 w2 45 HX.out (Or.inr h1) (HW3.out.trans b1))
        clear h1 b1 k1 HI3 HW3
        go_wp2
        go_roundw
        case rel => exact ⟨pos + 1, acc ++ [45], hit4, HN⟩
        case measure =>
          simp only [World.iterPos, hit4, hit]
          omega
      · have hx := HS.out.2 hbad
        have HX := Lib.hid hx
        clear hx HS
        cases hg : greatZ ((R : Nat) : Int) with
        | true =>
          have hfx : foldR ((R : Nat) : Int) = (R : Int) + 32 := by unfold foldR; rw [if_pos hg]
          rw [hfx] at HX
          rw [hg] at HG
          by_cases hr : R = 65533
          · exfalso
            subst hr
            rw [great_iff] at hg
            omega
          · have hrz : ¬ ((R : Nat) : Int) = 65533 := by omega
            go_wp2_with fail
            refine (HG.out _).mono ?_
            rintro e w2 ⟨rfl, hb⟩
            have HI4 := Lib.hid (builder_below HI3.out hb)
            have hit4 : w2.heap[w.heap.size + 1]? = some (.stringIter s (pos + D)) := by rw [hb.block (w.heap.size + 1) (Array.getElem?_eq_some_iff.1 hit3).1]; exact hit3
            have HW4 := Lib.hid (HW3.out.trans (hb.mono HW3.out.size))
            have hsz4 := HW4.out.size
            clear hb HI3 HW3 hit3 HG
            go_wp2_with fail
            refine (HWR.out ((R : Int) + 32) _ HI4.out (by omega) (by omega) hsz4).mono ?_
            rintro e w3 ⟨rfl, h1, b1, k1⟩
            have hit5 := k1.iter hit4 (by omega)
            rw [← makeD_snoc] at h1
            have HN := Lib.hid (HFin.out w2 w3 _ HX.out (Or.inr h1) (HW4.out.trans b1))
            clear h1 b1 k1 HI4 HW4
            go_wp2
            go_roundw
            case rel => exact ⟨pos + D, acc ++ [(R : Int) + 32], hit5, HN⟩
            case measure =>
              simp only [World.iterPos, hit5, hit]
              omega
        | false =>
          have hfx : foldR ((R : Nat) : Int) = (R : Int) := by unfold foldR; rw [if_neg (by rw [hg]; simp)]
          rw [hfx] at HX
          rw [hg] at HG
          by_cases hr : R = 65533
          · subst hr
            have hD : ¬ ((D : Nat) : Int) = 1 := by omega
            go_wp2_with fail
            refine (HG.out _).mono ?_
            rintro e w2 ⟨rfl, hb⟩
            have HI4 := Lib.hid (builder_below HI3.out hb)
            have hit4 : w2.heap[w.heap.size + 1]? = some (.stringIter s (pos + D)) := by rw [hb.block (w.heap.size + 1) (Array.getElem?_eq_some_iff.1 hit3).1]; exact hit3
            have HW4 := Lib.hid (HW3.out.trans (hb.mono HW3.out.size))
            have hsz4 := HW4.out.size
            clear hb HI3 HW3 hit3 HG
            go_wp2_with fail
            refine (HWR.out (65533 : Int) _ HI4.out (by omega) (by omega) hsz4).mono ?_
            rintro e w3 ⟨rfl, h1, b1, k1⟩
            have hit5 := k1.iter hit4 (by omega)
            rw [← makeD_snoc] at h1
            have HN := Lib.hid (HFin.out w2 w3 _ HX.out (Or.inr h1) (HW4.out.trans b1))
            clear h1 b1 k1 HI4 HW4
            go_wp2
            go_roundw
            case rel => exact ⟨pos + D, acc ++ [(65533 : Int)], hit5, HN⟩
            case measure =>
              simp only [World.iterPos, hit5, hit]
              omega
          · have hrz : ¬ ((R : Nat) : Int) = 65533 := by omega
            go_wp2_with fail
            refine (HG.out _).mono ?_
            rintro e w2 ⟨rfl, hb⟩
            have HI4 := Lib.hid (builder_below HI3.out hb)
            have hit4 : w2.heap[w.heap.size + 1]? = some (.stringIter s (pos + D)) := by rw [hb.block (w.heap.size + 1) (Array.getElem?_eq_some_iff.1 hit3).1]; exact hit3
            have HW4 := Lib.hid (HW3.out.trans (hb.mono HW3.out.size))
            have hsz4 := HW4.out.size
            clear hb HI3 HW3 hit3 HG
            go_wp2_with fail
            refine (HWR.out (R : Int) _ HI4.out (by omega) (by omega) hsz4).mono ?_
            rintro e w3 ⟨rfl, h1, b1, k1⟩
            have hit5 := k1.iter hit4 (by omega)
            rw [← makeD_snoc] at h1
            have HN := Lib.hid (HFin.out w2 w3 _ HX.out (Or.inr h1) (HW4.out.trans b1))
            clear h1 b1 k1 HI4 HW4
            go_wp2
            go_roundw
            case rel => exact ⟨pos + D, acc ++ [(R : Int)], hit5, HN⟩
            case measure =>
              simp only [World.iterPos, hit5, hit]
              omega
    · have hnx : ∀ ty, (Instr.next (.pointer (some ⟨w.heap.size + 1, 0, none⟩)) true ty).run Tryd.prog wr = _ := fun ty => Lib.run_next_end_at wr (w.heap.size + 1) s pos ty hit hp
      have he : (bytes s).drop pos = [] := List.drop_eq_nil_of_le (by rw [bytes_length]; omega)
      have hx := hh.out.2.2.1
      rw [he, foldRs_nil, List.append_nil] at hx
      go_wp2_with fail
      refine (Tryd.Builder_String_any_k w.heap.size w.heap.size (makeD acc) _ hh.out.1 (by omega)).mono ?_
      rintro e w2 ⟨rfl, _, b1, _⟩
      have HB := Lib.hid (hh.out.2.1.trans b1)
      clear b1
      go_wp2
      go_ret
      refine ⟨?_, HB.out⟩
      unfold foldD
      rw [← hx]; rfl
def name_Fold.f (a0 : ByteArray) : Option ByteArray := if a0.size ≤ 1000000 then some (ofBytes (foldD (bytes a0))) else none
theorem name_Fold.calls (a0 : ByteArray) (r : ByteArray) (w : World) (HTB : Aside0 (Tabs w)) (h : name_Fold.f a0 = some r) :
    Calls Tryd.prog 27 #[.string a0] w fun e w' => e = .returned (.string r) ∧ Below w.heap.size w w' := by
  unfold name_Fold.f at h
  split at h
  · rename_i hs
    obtain rfl := Option.some.inj h
    exact fold_any a0 w hs HTB.out
  · exact absurd h (by simp)

end Go.Proofs.YtngdpoghfacokaaDoor
