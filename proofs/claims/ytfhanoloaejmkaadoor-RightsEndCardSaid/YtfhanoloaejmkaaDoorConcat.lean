/- The contract of slices.Concat at lists of texts. -/
import Derived.Test.YtfhanoloaejmkaaDoorSearch
import Derived.Test.YtfhanoloaejmkaaDoorWMore
import Derived.LoopTactic
import Derived.RegionTactic
import Derived.Deep.QuietTactic
import Derived.BigQuiet
import Derived.OwnWalk
import Derived.Outline
namespace Go.Proofs.YtfhanoloaejmkaaDoor
open Go.RowKit Go.Proofs.YtfhanoloaejmkaaDoorW.PrintWords
set_option linter.unusedVariables false
set_option linter.unusedSimpArgs false

theorem infoStr : (Tryd.prog.info? 9).map (fun i => (i.zero, i.size, i.bytes)) = some (some (.string ⟨#[]⟩), 1, 16) := by kernel_rfl
theorem own_take0 {w : World} {base e n : Nat} {A : Option Addr} {c : Nat} {xs : List Value} (h : w.ownsRow base e 1 (.slice A n c) n xs) : w.ownsRow base e 1 (.slice A 0 c) 0 [] := by
  obtain ⟨h1, h2⟩ := h
  refine ⟨rfl, ?_⟩
  rcases h2 with ⟨h2, rfl⟩ | ⟨g, cap, cur, h2, hg, hh, hn, hm, hs, ht⟩
  · exact Or.inl ⟨h2, rfl⟩
  · simp only [Value.slice.injEq] at h2
    obtain ⟨rfl, _, rfl⟩ := h2
    exact Or.inr ⟨g, c, cur, rfl, hg, hh, Nat.zero_le _, hm, hs, by simp⟩

theorem grow_cut {w1 : World} {B n : Nat} {v1 : Value} {ok : Nat → Prop} (ho : Kd.R Kd.string 9 w1 B ok v1 ([] ++ List.replicate (n : Int).toNat ByteArray.empty)) :
    ∃ A c, v1 = .slice A n c ∧ Hid (w1.ownsRow B 9 1 (.slice A 0 c) 0 []) ∧ ∀ W : World, (Instr.slice 24 (.slice A n c) none (some (.int .i64 0)) none).run Tryd.prog W = .ok (.slice A 0 c) W := by
  obtain ⟨hok, inner, hown, hreps⟩ := ho
  obtain ⟨A, c, rfl⟩ := own_slice hown
  have hlen : ([] ++ List.replicate (n : Int).toNat ByteArray.empty).length = n := by simp
  rw [hlen] at hown ⊢
  have hle : n ≤ c := by
    rcases hown.2 with ⟨h2, h3⟩ | ⟨g, cap, cur, h2, _, _, h3, _⟩
    · omega
    · simp only [Value.slice.injEq] at h2
      obtain ⟨_, _, rfl⟩ := h2
      omega
  obtain ⟨i0, hi0, _⟩ := Option.map_eq_some_iff.1 infoStr
  have hcut := cut_to (P := Tryd.prog) 24 9 .i64 Tryd.underlying24 hi0 A n c 0 (by omega) (by omega) hle
  exact ⟨A, c, rfl, Lib.hid (own_take0 hown), hcut⟩

set_option maxHeartbeats 1000000 in
set_option maxRecDepth 100000 in
theorem grow_any (n : Nat) (w : World) (hn : n ≤ 1000000) :
    Calls Tryd.prog 60 #[.slice none 0 0, .int .i64 n] w fun e w' => ∃ v, e = .returned v ∧ Kd.R Kd.string 9 w' w.heap.size (fun _ => True) v [] ∧ Below w.heap.size w w' := by
  rcases Nat.eq_zero_or_pos n with h0 | h0
  · subst h0
    go_enter Tryd.func60, Tryd.ntmps60
    go_wp2
    go_ret
    exact ⟨_, rfl, Kd.R_nil _ _ _ _ _, Below.refl _ _⟩
  · go_enter Tryd.func60, Tryd.ntmps60
    go_wp2_with ((with_reducible refine gate_builtin (b := .append) (xs := #[.tmp 20, .tmp 21]) rfl ?_); at_builtin; refine Kd.R_append_zeros Kd.string (w0 := w) w.heap.size rfl (.tmp 20) (.tmp 21) 24 3 9 (.string ⟨#[]⟩) 16 rfl Tryd.underlying24 Tryd.underlying3 infoStr rfl (by decide) (by omega) (.slice none 0 0) [] ByteArray.empty (n : Int) (fun _ => True) rfl rfl rfl (fun _ _ => trivial) (Kd.R_nil _ _ _ _ _) ?a0 (Below.refl _ _) (Nat.le_refl _) ?aL ?_; (case a0 => omega); (case aL => simp; omega); intro v1 w1 ho hb hg hat; obtain ⟨A, c, rfl, HO, hcut⟩ := grow_cut ho; have HB := Lib.hid hb; clear hb ho hg hat)
    go_ret
    exact ⟨_, rfl, ⟨fun _ _ => trivial, [], HO.out, Reps.none _ _⟩, HB.out⟩

/-- An element of a row of rows. -/
theorem rowsC {w : World} {A : Option Addr} {ll : List (List ByteArray)} (h : Kd.C (Kd.slice 9 Kd.string) w A ll.length ll) {k : Nat} (hk : k < ll.length) :
    ∃ ad A' c', A = some ad ∧ ll[k].length ≤ c' ∧ Kd.C Kd.string w A' ll[k].length ll[k] ∧ w.cell? (ad.add k) = some (.slice A' ll[k].length c') := by
  obtain ⟨ad, rfl, hc⟩ := h.2.2 (by omega)
  obtain ⟨cs, hl, ⟨A', c', rfl, hle, hC⟩, hz⟩ := hc k ll[k] (List.getElem?_eq_getElem hk)
  have := hz 0 _ rfl
  rw [show k * (Kd.slice 9 Kd.string).sz + 0 = k from by simp [Kd.slice]] at this
  exact ⟨ad, A', c', rfl, hle, hC, this⟩
theorem flat_take {ll : List (List ByteArray)} {k : Nat} (hk : k < ll.length) : (ll.take (k + 1)).flatten = (ll.take k).flatten ++ ll[k] := by
  rw [List.take_succ_eq_append_getElem hk, List.flatten_append]; simp
theorem flat_len {ll : List (List ByteArray)} (k : Nat) : (ll.take k).flatten.length ≤ ll.flatten.length := by
  have h : (ll.take k ++ ll.drop k).flatten = ll.flatten := by rw [List.take_append_drop]
  rw [← h, List.flatten_append, List.length_append]; omega

set_option maxHeartbeats 4000000 in
set_option maxRecDepth 100000 in
theorem concat_any (A0 : Option Addr) (c0 : Nat) (ll : List (List ByteArray)) (w : World) (hr : Kd.C (Kd.slice 9 Kd.string) w A0 ll.length ll) (h1 : ll.length ≤ 1000) (h2 : ll.flatten.length ≤ 1000000) :
    Calls Tryd.prog 40 #[.slice A0 ll.length c0] w fun e w' => ∃ v, e = .returned v ∧ Kd.R Kd.string 9 w' w.heap.size (fun _ => True) v ll.flatten ∧ Below w.heap.size w w' := by
  have HR := Lib.hid hr
  have HN := Lib.hid (show ∀ k, (ll.take k).flatten.length ≤ 1000000 from fun k => by have := flat_len (ll := ll) k; omega)
  clear hr
  go_enter Tryd.func40, Tryd.ntmps40
  go_wp2_with fail
  go_loop [3, 11] (fun sz i => ∃ k : Nat, k ≤ ll.length ∧ i = .int .i64 k ∧ sz = .int .i64 ((ll.take k).flatten.length : Nat)) (fun _ i => ll.length - (intOf i).toNat)
  case atStart => exact ⟨0, Nat.zero_le _, rfl, rfl⟩
  case round =>
    obtain ⟨k, hk, rfl, rfl⟩ := hrel
    have hn0 := HN.out k
    by_cases hlt : k < ll.length
    · have hn1 := HN.out (k + 1)
      obtain ⟨ad, A', c', hA, hle, hC, hcell⟩ := rowsC HR.out hlt
      subst hA
      have hft := congrArg List.length (flat_take hlt)
      rw [List.length_append] at hft
      generalize hL : (ll.take (k + 1)).flatten.length = L1 at hft hn1
      generalize (ll.take k).flatten.length = L0 at *
      generalize ll[k].length = m at *
      have HF := Lib.hid hft
      have HL := Lib.hid hL
      clear hL hft hC
      have hb1 : L0 + m ≤ 1000000 := by have := HF.out; omega
      have HE : Hid (Value.int .i64 ((L0 : Int) + (m : Int)) = Value.int .i64 (((ll.take (k + 1)).flatten.length : Nat) : Int)) := by rw [HL.out, HF.out]; rfl
      go_wp2
      go_round
      case rel => exact ⟨k + 1, by omega, by go_num, HE.out⟩
      case measure => simp [intOf]; omega
    · obtain rfl : k = ll.length := by omega
      rw [List.take_length] at *
      clear hlt
      generalize hFN : ll.flatten.length = FN at *
      have HFN := Lib.hid hFN
      clear hFN
      go_wp2_with fail
      with_reducible refine (grow_any FN w h2).mono ?_
      rintro e w1 ⟨v1, rfl, ho1, hb1⟩
      have HO1 := Lib.hid ho1
      have HB1 := Lib.hid hb1
      clear ho1 hb1
      go_wp2_with fail
      go_loopw [6, 27] (fun v i wr => ∃ k : Nat, k ≤ ll.length ∧ i = .int .i64 k ∧ Hid (Kd.R Kd.string 9 wr w.heap.size (fun _ => True) v (ll.take k).flatten ∧ Below w.heap.size w wr)) (fun _ i _ => ll.length - (intOf i).toNat)
      case atStart => exact ⟨0, Nat.zero_le _, rfl, Lib.hid ⟨HO1.out, HB1.out⟩⟩
      case round =>
        obtain ⟨k, hk, rfl, hh⟩ := hrel
        by_cases hlt : k < ll.length
        · obtain ⟨ad, A', c', hA, hle, hC, hcell0⟩ := rowsC HR.out hlt
          subst hA
          have hcell := pw_cell_below hh.out.2 hcell0
          have hb3 : (ll.take k).flatten.length + ll[k].length ≤ 1000000 := by have := HN.out (k + 1); rw [flat_take hlt, List.length_append] at this; exact this
          have HC := Lib.hid (Kd.C_below hC hh.out.2)
          have HF := Lib.hid (flat_take hlt)
          clear hC hcell0 hn0
          generalize (ll.take k).flatten = xs at *
          generalize ll[k] = ys at *
          go_wp2_with ((with_reducible refine gate_builtin (b := .append) (xs := #[.tmp 31, .tmp 32]) rfl ?_); at_builtin; refine Kd.R_append_rows Kd.string (Rr := Kd.string.K wr) (w0 := w) w.heap.size rfl (.tmp 31) (.tmp 32) 24 9 (.string ⟨#[]⟩) 16 rfl Tryd.underlying24 infoStr rfl (by decide) (by omega) _ xs ys A' ys.length c' (fun _ => True) (fun _ => False) rfl rfl hh.out.1 HC.out (fun _ _ h => h) (fun _ h => h.elim) (fun _ _ => trivial) hh.out.2 hh.out.2.size ?aL ?_; (case aL => omega); intro v5 w8 ho hb hg hat; have HN2 := Lib.hid (And.intro ho hb); clear ho hb hg hat)
          go_roundw
          case rel => exact ⟨k + 1, by omega, by go_num, by have := HN2.out; rw [← HF.out] at this; exact this⟩
          case measure => simp [intOf]; omega
        · obtain rfl : k = ll.length := by omega
          rw [List.take_length] at *
          clear hlt
          go_wp2
          go_ret
          exact ⟨_, rfl, hh.out.1, hh.out.2⟩

def slices_Concat.f (l0 : List (List ByteArray)) : Option (List ByteArray) := if l0.length ≤ 1000 ∧ l0.flatten.length ≤ 1000000 then some l0.flatten else none
theorem slices_Concat.calls (A0 : Option Addr) (c0 : Nat) (l0 : List (List ByteArray)) (r : List ByteArray) (w : World) (hr0 : Kd.C (Kd.slice 9 Kd.string) w A0 l0.length l0) (hc0 : l0.length ≤ c0) (h : slices_Concat.f l0 = some r) :
    Calls Tryd.prog 40 #[.slice A0 l0.length c0] w fun e w' => ∃ v0_ : Value, e = .returned v0_ ∧ Kd.R Kd.string 9 w' w.heap.size (fun _ => True) v0_ r ∧ Below w.heap.size w w' := by
  unfold slices_Concat.f at h
  split at h
  · rename_i hs
    obtain rfl := Option.some.inj h
    exact concat_any A0 c0 l0 w hr0 hs.1 hs.2
  · exact absurd h (by simp)

end Go.Proofs.YtfhanoloaejmkaaDoor
