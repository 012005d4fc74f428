/- What the printed words of the reference for names come to: the same runes, names, paths, folded texts. -/
import Derived.Test.YtngdpoghfacokaaDoorEvName2
namespace Go.Proofs.YtngdpoghfacokaaDoor.Ref
open Go.RowKit Go.Proofs.YtngdpoghfacokaaDoor Go.Proofs.YtngdpoghfacokaaDoor.PA Go.Proofs.YtngdpoghfacokaaDoorW.PrintWords Go.Proofs.YtngdpoghfacokaaDoorW.PrintLast
set_option linter.unusedVariables false

/-- The byte at a place. -/
def B (s : ByteArray) (i : Nat) : Nat := ((bytes s).getD i 0).toNat
theorem bt_B (s : ByteArray) (i : Nat) (h : i < s.size) : bt s (i : Int) = (B s i : Int) := by
  rw [bt_bytes s i h]
  unfold B
  rw [List.getD_eq_getElem?_getD, List.getElem?_eq_getElem (by rw [bytes_length]; exact h)]; rfl
theorem B_lt (s : ByteArray) (i : Nat) : B s i < 256 := UInt8.toNat_lt _
theorem decode_B (s : ByteArray) : Lib.decodeL (bytes s) = Lib.decodeN s.size (B s 0) (B s 1) (B s 2) (B s 3) := by rw [Lib.decodeL_N, bytes_length]; rfl

theorem cont_ok {s : ByteArray} {w x5 x6 : Int} {i : Nat} {r : Int × Int} (hw : (i : Int) < w) (hs : i < s.size) (h1 : 128 ≤ B s i) (h2 : B s i ≤ 191) (h0 : 0 ≤ x5) (h3 : 64 * x5 + 64 ≤ 2147483647) (hi : i ≤ 10)
    (h : Ev (fun k => letterlockref1_first.l0 k s w (64 * x5 + ((B s i : Int) - 128)) x6 ((i + 1 : Nat) : Int)) r) : Ev (fun k => letterlockref1_first.l0 k s w x5 x6 (i : Int)) r := by
  refine Ev.step (fun _ => rfl) (Ev.pos hw (Ev.pos (by omega) (Ev.pos (by omega) ?_)))
  rw [bt_B s i hs]
  refine Ev.neg (by omega) (Ev.neg (by omega) ?_)
  rw [w32 (n := 64 * x5) (by omega) (by omega), show ((B s i : Int) - 128) % 256 = (B s i : Int) - 128 from by omega, w32 (by omega) (by omega), w64 (by omega) (by omega)]
  exact h
theorem cont_bad {s : ByteArray} {w x5 x6 : Int} {i : Nat} (hw : (i : Int) < w) (hs : i < s.size) (h1 : ¬ (128 ≤ B s i ∧ B s i ≤ 191)) : Ev (fun k => letterlockref1_first.l0 k s w x5 x6 (i : Int)) (0, 0) := by
  refine Ev.step (fun _ => rfl) (Ev.pos hw (Ev.pos (by omega) (Ev.pos (by omega) ?_)))
  rw [bt_B s i hs]
  by_cases c : (B s i : Int) < 128
  · exact Ev.pos c (Ev.now _)
  · exact Ev.neg c (Ev.pos (by omega) (Ev.now _))
def endF (w x5 x6 : Int) : Int × Int := if x5 < x6 then (0, 0) else if ValidR x5 then (x5, w) else (0, 0)
theorem cont_end {s : ByteArray} {w x5 x6 : Int} {i : Nat} (hw : ¬ (i : Int) < w) : Ev (fun k => letterlockref1_first.l0 k s w x5 x6 (i : Int)) (endF w x5 x6) := by
  refine Ev.step (fun _ => rfl) (Ev.neg hw ?_)
  by_cases c : x5 < x6
  · exact ev_cast (Ev.pos c (Ev.now _)) (by unfold endF; rw [if_pos c])
  · refine Ev.neg c (Ev.put (valid_ref x5) ?_)
    by_cases h : ValidR x5
    · exact ev_cast (Ev.pos (decide_eq_true h) (Ev.now _)) (by unfold endF; rw [if_neg c, if_pos h])
    · exact ev_cast (Ev.neg (by simpa using h) (Ev.now _)) (by unfold endF; rw [if_neg c, if_neg h])
theorem enough {s : ByteArray} {w x5 x6 : Int} {r : Int × Int} (h0 : w ≠ 0) (h1 : w ≤ (s.size : Int)) (h : Ev (fun k => letterlockref1_first.l0 k s w x5 x6 ((1 : Nat) : Int)) r) : Ev (fun k => letterlockref1_first.j2 k s w x5 x6) r := by
  refine Ev.step (fun _ => rfl) (Ev.neg h0 ?_)
  rw [decide_eq_false (by omega)]
  exact Ev.step (fun _ => rfl) h
theorem short {s : ByteArray} {w x5 x6 : Int} (h : w = 0 ∨ (s.size : Int) < w) : Ev (fun k => letterlockref1_first.j2 k s w x5 x6) (0, 0) := by
  refine Ev.step (fun _ => rfl) ?_
  by_cases h0 : w = 0
  · exact Ev.pos h0 (Ev.step (fun _ => rfl) (Ev.now _))
  · refine Ev.neg h0 ?_
    rw [decide_eq_true (by rcases h with h | h; exact absurd h h0; exact h)]
    exact Ev.step (fun _ => rfl) (Ev.now _)
def firstF (l : Bs) : Int × Int := if l = [] then (0, 0) else if Bad l then (0, 0) else (((Lib.decodeL l).1 : Int), ((Lib.decodeL l).2 : Int))
def ofD (d : Nat × Nat) : Int × Int := if d.1 = 65533 ∧ d.2 = 1 then (0, 0) else ((d.1 : Int), (d.2 : Int))
theorem first_ofD {s : ByteArray} (h : 0 < s.size) : firstF (bytes s) = ofD (Lib.decodeN s.size (B s 0) (B s 1) (B s 2) (B s 3)) := by
  unfold firstF ofD
  rw [if_neg (fun e => by have := congrArg List.length e; rw [bytes_length, List.length_nil] at this; omega), ← decode_B]
  by_cases hb : Bad (bytes s)
  · rw [if_pos hb]; exact (if_pos hb).symm
  · rw [if_neg hb]; exact (if_neg hb).symm
theorem ofD_bad : ofD (65533, 1) = (0, 0) := by unfold ofD; rw [if_pos ⟨rfl, rfl⟩]
theorem ofD_ok {a b : Nat} (h : b ≠ 1) : ofD (a, b) = ((a : Int), (b : Int)) := by unfold ofD; rw [if_neg (fun e => h e.2)]

theorem first_ev (s : ByteArray) : Ev (fun k => letterlockref1_first.f k s) (firstF (bytes s)) := by
  unfold letterlockref1_first.f
  by_cases he : s.toList = ([] : List UInt8)
  · rw [bytes_toList] at he
    rw [show firstF (bytes s) = (0, 0) by unfold firstF; rw [if_pos he]]
    exact Ev.pos (by rw [bytes_toList]; exact he) (Ev.now _)
  refine Ev.neg he ?_
  rw [bytes_toList] at he
  have hs : 0 < s.size := by rw [← bytes_length]; exact List.length_pos_iff.2 he
  rw [first_ofD hs]
  have h0 := B_lt s 0
  have h1 := B_lt s 1
  have h2 := B_lt s 2
  have h3 := B_lt s 3
  have hb0 : bt s 0 = (B s 0 : Int) := bt_B s 0 hs
  refine Ev.pos (by omega) ?_
  rw [hb0]
  by_cases c0 : B s 0 < 128
  · have e : Lib.decodeN s.size (B s 0) (B s 1) (B s 2) (B s 3) = (B s 0, 1) := by unfold Lib.decodeN; rw [if_pos c0]
    rw [e]
    have : ofD (B s 0, 1) = ((B s 0 : Int), 1) := by unfold ofD; rw [if_neg (fun h => by have := h.1; simp only at this; omega)]; rfl
    rw [this, w32 (by omega) (by omega)]
    exact Ev.pos (by omega) (Ev.now _)
  refine Ev.neg (by omega) ?_
  by_cases c2 : 192 ≤ B s 0 ∧ B s 0 < 224
  · refine Ev.pos (by omega) ?_
    rw [decide_eq_true (by omega)]
    refine Ev.step (fun _ => rfl) (Ev.pos (by omega) ?_)
    rw [hb0, show ((B s 0 : Int) - 192) % 256 = (B s 0 : Int) - 192 from by omega]
    by_cases n2 : 2 ≤ s.size
    · refine enough (by omega) (by omega) ?_
      by_cases d1 : 128 ≤ B s 1 ∧ B s 1 ≤ 191
      · refine cont_ok (by omega) (by omega) d1.1 d1.2 (by omega) (by omega) (by omega) ?_
        refine ev_cast (cont_end (by omega)) ?_
        unfold Lib.decodeN
        rw [if_neg c0, if_pos ⟨by omega, by omega, by omega⟩]
        by_cases g : 64 * ((B s 0 : Int) - 192) + ((B s 1 : Int) - 128) < 128
        · rw [if_neg (by omega), ofD_bad]; unfold endF; rw [if_pos g]
        · rw [if_pos (by omega), ofD_ok (by omega)]
          unfold endF
          rw [if_neg g, if_pos (by unfold ValidR; omega)]
          exact Prod.ext (by show _ = ((_ : Nat) : Int); omega) rfl
      · refine ev_cast (cont_bad (by omega) (by omega) d1) ?_
        unfold Lib.decodeN
        rw [if_neg c0, if_neg (by omega), if_neg (by omega), if_neg (by omega), ofD_bad]
    · refine ev_cast (short (Or.inr (by omega))) ?_
      unfold Lib.decodeN
      rw [if_neg c0, if_neg (by omega), if_neg (by omega), if_neg (by omega), ofD_bad]
  have hj0 : ∀ r, Ev (fun k => letterlockref1_first.j0 k s 0 0 0 false) r → Ev (fun k => if (B s 0 : Int) ≥ 192 then letterlockref1_first.j0 k s 0 0 0 (decide ((B s 0 : Int) < 224)) else letterlockref1_first.j0 k s 0 0 0 false) r := by
    intro r h
    by_cases g : (B s 0 : Int) ≥ 192
    · refine Ev.pos g ?_
      rw [decide_eq_false (by omega)]; exact h
    · exact Ev.neg g h
  refine hj0 _ (Ev.step (fun _ => rfl) (Ev.pos (by omega) ?_))
  rw [hb0]
  by_cases c3 : 224 ≤ B s 0 ∧ B s 0 < 240
  · refine Ev.pos (by omega) ?_
    rw [decide_eq_true (by omega)]
    refine Ev.step (fun _ => rfl) (Ev.pos (by omega) ?_)
    rw [hb0, show ((B s 0 : Int) - 224) % 256 = (B s 0 : Int) - 224 from by omega]
    by_cases n3 : 3 ≤ s.size
    · refine enough (by omega) (by omega) ?_
      by_cases d1 : 128 ≤ B s 1 ∧ B s 1 ≤ 191
      · refine cont_ok (by omega) (by omega) d1.1 d1.2 (by omega) (by omega) (by omega) ?_
        by_cases d2 : 128 ≤ B s 2 ∧ B s 2 ≤ 191
        · refine cont_ok (i := 2) (by omega) (by omega) d2.1 d2.2 (by omega) (by omega) (by omega) ?_
          refine ev_cast (cont_end (by omega)) ?_
          unfold Lib.decodeN
          rw [if_neg c0, if_neg (by omega), if_pos ⟨by omega, ⟨by omega, by omega⟩, by omega, by omega⟩]
          by_cases g : 64 * (64 * ((B s 0 : Int) - 224) + ((B s 1 : Int) - 128)) + ((B s 2 : Int) - 128) < 2048
          · rw [if_neg (by omega), ofD_bad]; unfold endF; rw [if_pos g]
          · by_cases v : ValidR (64 * (64 * ((B s 0 : Int) - 224) + ((B s 1 : Int) - 128)) + ((B s 2 : Int) - 128))
            · rw [if_pos (by unfold ValidR at v; omega), ofD_ok (by omega)]
              unfold endF
              rw [if_neg g, if_pos v]
              exact Prod.ext (by show _ = ((_ : Nat) : Int); omega) rfl
            · rw [if_neg (by unfold ValidR at v; omega), ofD_bad]
              unfold endF
              rw [if_neg g, if_neg v]
        · refine ev_cast (cont_bad (i := 2) (by omega) (by omega) d2) ?_
          unfold Lib.decodeN
          rw [if_neg c0, if_neg (by omega), if_neg (by omega), if_neg (by omega), ofD_bad]
      · refine ev_cast (cont_bad (by omega) (by omega) d1) ?_
        unfold Lib.decodeN
        rw [if_neg c0, if_neg (by omega), if_neg (by omega), if_neg (by omega), ofD_bad]
    · refine ev_cast (short (Or.inr (by omega))) ?_
      unfold Lib.decodeN
      rw [if_neg c0, if_neg (by omega), if_neg (by omega), if_neg (by omega), ofD_bad]
  have hj1 : ∀ r, Ev (fun k => letterlockref1_first.j1 k s 0 0 0 false) r → Ev (fun k => if (B s 0 : Int) ≥ 224 then letterlockref1_first.j1 k s 0 0 0 (decide ((B s 0 : Int) < 240)) else letterlockref1_first.j1 k s 0 0 0 false) r := by
    intro r h
    by_cases g : (B s 0 : Int) ≥ 224
    · refine Ev.pos g ?_
      rw [decide_eq_false (by omega)]; exact h
    · exact Ev.neg g h
  refine hj1 _ (Ev.step (fun _ => rfl) (Ev.pos (by omega) ?_))
  rw [hb0]
  by_cases c4 : 240 ≤ B s 0 ∧ B s 0 < 248
  · refine Ev.pos (by omega) (Ev.pos (by omega) ?_)
    rw [show ((B s 0 : Int) - 240) % 256 = (B s 0 : Int) - 240 from by omega]
    by_cases n4 : 4 ≤ s.size
    · refine enough (by omega) (by omega) ?_
      by_cases d1 : 128 ≤ B s 1 ∧ B s 1 ≤ 191
      · refine cont_ok (by omega) (by omega) d1.1 d1.2 (by omega) (by omega) (by omega) ?_
        by_cases d2 : 128 ≤ B s 2 ∧ B s 2 ≤ 191
        · refine cont_ok (i := 2) (by omega) (by omega) d2.1 d2.2 (by omega) (by omega) (by omega) ?_
          by_cases d3 : 128 ≤ B s 3 ∧ B s 3 ≤ 191
          · refine cont_ok (i := 3) (by omega) (by omega) d3.1 d3.2 (by omega) (by omega) (by omega) ?_
            refine ev_cast (cont_end (by omega)) ?_
            unfold Lib.decodeN
            rw [if_neg c0, if_neg (by omega), if_neg (by omega), if_pos ⟨by omega, ⟨by omega, by omega⟩, ⟨by omega, by omega⟩, by omega, by omega⟩]
            by_cases g : 64 * (64 * (64 * ((B s 0 : Int) - 240) + ((B s 1 : Int) - 128)) + ((B s 2 : Int) - 128)) + ((B s 3 : Int) - 128) < 65536
            · rw [if_neg (by omega), ofD_bad]; unfold endF; rw [if_pos g]
            · by_cases v : ValidR (64 * (64 * (64 * ((B s 0 : Int) - 240) + ((B s 1 : Int) - 128)) + ((B s 2 : Int) - 128)) + ((B s 3 : Int) - 128))
              · rw [if_pos (by unfold ValidR at v; omega), ofD_ok (by omega)]
                unfold endF
                rw [if_neg g, if_pos v]
                exact Prod.ext (by show _ = ((_ : Nat) : Int); omega) rfl
              · rw [if_neg (by unfold ValidR at v; omega), ofD_bad]
                unfold endF
                rw [if_neg g, if_neg v]
          · refine ev_cast (cont_bad (i := 3) (by omega) (by omega) d3) ?_
            unfold Lib.decodeN
            rw [if_neg c0, if_neg (by omega), if_neg (by omega), if_neg (by omega), ofD_bad]
        · refine ev_cast (cont_bad (i := 2) (by omega) (by omega) d2) ?_
          unfold Lib.decodeN
          rw [if_neg c0, if_neg (by omega), if_neg (by omega), if_neg (by omega), ofD_bad]
      · refine ev_cast (cont_bad (by omega) (by omega) d1) ?_
        unfold Lib.decodeN
        rw [if_neg c0, if_neg (by omega), if_neg (by omega), if_neg (by omega), ofD_bad]
    · refine ev_cast (short (Or.inr (by omega))) ?_
      unfold Lib.decodeN
      rw [if_neg c0, if_neg (by omega), if_neg (by omega), if_neg (by omega), ofD_bad]
  · have e : Lib.decodeN s.size (B s 0) (B s 1) (B s 2) (B s 3) = (65533, 1) := by
      unfold Lib.decodeN
      rw [if_neg c0, if_neg (by omega), if_neg (by omega), if_neg (by omega)]
    rw [e, ofD_bad]
    by_cases g : (B s 0 : Int) ≥ 240
    · exact Ev.pos g (Ev.neg (by omega) (short (Or.inl rfl)))
    · exact Ev.neg g (short (Or.inl rfl))

end Go.Proofs.YtngdpoghfacokaaDoor.Ref
