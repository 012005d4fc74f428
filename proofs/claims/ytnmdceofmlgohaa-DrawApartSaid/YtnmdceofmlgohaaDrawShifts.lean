/- What DrawShifts and DrawApart of chapter 5 come to: each returns true. -/
import Derived.Test.YtnmdceofmlgohaaDrawLaws
namespace Go.Proofs.Ytnmdceofmlgohaa
open Go.RowKit
set_option linter.unusedVariables false

theorem shifts_n (ahead : Int) : ∃ n : Nat, (if ahead < 0 then -(ahead + 1).tmod 200 else ahead % 200) = (n : Int) ∧ n < 200 := by
  split
  · rename_i h
    have h1 : -(ahead + 1).tmod 200 = (-(ahead + 1)) % 200 := by
      rw [← Int.neg_tmod, Int.tmod_eq_emod_of_nonneg (by omega)]
    rw [h1]
    exact ⟨((-(ahead + 1)) % 200).toNat, by omega, by omega⟩
  · exact ⟨(ahead % 200).toNat, by omega, by omega⟩

theorem itA_val (k n : Nat) (hn : U64 n) : itA k n = (n + k * 11400714819323198485) % 18446744073709551616 := by
  induction k with
  | zero => unfold U64 at hn; simp only [itA]; omega
  | succ k ih => simp only [itA, ih, mixA]; omega
theorem itA_add (k m n : Nat) : itA (k + m) n = itA k (itA m n) := by
  induction k with
  | zero => simp [itA]
  | succ k ih => rw [show k + 1 + m = (k + m) + 1 from by omega]; simp only [itA, ih]
theorem itA_lt (k n : Nat) (hn : U64 n) : U64 (itA k n) := by
  cases k with
  | zero => exact hn
  | succ k => exact mixA_lt _
theorem shifts_seed (a n : Nat) (ha : U64 a) (hn : n < 1000) : IntKind.u64.wrap ((a : Int) + IntKind.u64.wrap ((n : Int) * 11400714819323198485)) = ((itA n a : Nat) : Int) := by
  rw [itA_val n a ha, IntKind.wrap_u64, IntKind.wrap_u64]
  omega

def Apart4 (B dx sx dy sy : Nat) : Prop := B ≤ dx ∧ B ≤ sx ∧ B ≤ dy ∧ B ≤ sy ∧ dx ≠ dy ∧ dx ≠ sy ∧ sx ≠ dy ∧ sx ≠ sy
/-- Two rows of draws, of seeds a and b, with n and m draws done. -/
def ShiftRel (w0 : World) (dx sx dy sy a b n m : Nat) (wr : World) : Prop :=
  DrawsAt wr dx sx (itA n a) n ∧ DrawsAt wr dy sy (itA m b) m ∧ Below w0.heap.size w0 wr ∧ w0.heap.size ≤ wr.heap.size
theorem shift_start {w w1 w2 w3 : World} {dx sx dy sy a b : Nat} (h1 : Below w.heap.size w w1)
    (hx : DrawsAt w2 dx sx a 0 ∧ Below w1.heap.size w1 w2 ∧ w1.heap.size ≤ dx ∧ dx < w2.heap.size ∧ w1.heap.size ≤ sx ∧ sx < w2.heap.size)
    (hy : DrawsAt w3 dy sy b 0 ∧ Below w2.heap.size w2 w3 ∧ w2.heap.size ≤ dy ∧ dy < w3.heap.size ∧ w2.heap.size ≤ sy ∧ sy < w3.heap.size) :
    ShiftRel w dx sx dy sy a b 0 0 w3 ∧ Apart4 w.heap.size dx sx dy sy := by
  obtain ⟨x1, x2, x3, x4, x5, x6⟩ := hx
  obtain ⟨y1, y2, y3, y4, y5, y6⟩ := hy
  have q1 := h1.size
  have q2 := x2.size
  have q3 := y2.size
  refine ⟨⟨x1.below y2, y1, (h1.trans (x2.mono q1)).trans (y2.mono (by omega)), by omega⟩, ?_⟩
  unfold Apart4
  omega
theorem shift_x {w wr w5 : World} {dx sx dy sy a b n m : Nat} (ha : Apart4 w.heap.size dx sx dy sy) (hr : ShiftRel w dx sx dy sy a b n m wr)
    (hx : DrawsAt w5 dx sx (mixA (itA n a)) (n + 1) ∧ Moved (fun k => k = dx ∨ k = sx) wr w5) : ShiftRel w dx sx dy sy a b (n + 1) m w5 := by
  obtain ⟨_, h2, h5, h6⟩ := hr
  obtain ⟨h7, h8⟩ := hx
  unfold Apart4 at ha
  have := h8.size
  exact ⟨h7, h2.moved h8 (by omega) (by omega), h8.below h5 h6 (by omega), by omega⟩
theorem shift_y {w wr w5 : World} {dx sx dy sy a b n m : Nat} (ha : Apart4 w.heap.size dx sx dy sy) (hr : ShiftRel w dx sx dy sy a b n m wr)
    (hx : DrawsAt w5 dy sy (mixA (itA m b)) (m + 1) ∧ Moved (fun k => k = dy ∨ k = sy) wr w5) : ShiftRel w dx sx dy sy a b n (m + 1) w5 := by
  obtain ⟨h1, _, h5, h6⟩ := hr
  obtain ⟨h7, h8⟩ := hx
  unfold Apart4 at ha
  have := h8.size
  exact ⟨h1.moved h8 (by omega) (by omega), h7, h8.below h5 h6 (by omega), by omega⟩
theorem shift_b {w wr w5 : World} {dx sx dy sy a b n m : Nat} (hr : ShiftRel w dx sx dy sy a b n m wr) (hb : Below wr.heap.size wr w5) : ShiftRel w dx sx dy sy a b n m w5 := by
  obtain ⟨h1, h2, h5, h6⟩ := hr
  have := hb.size
  exact ⟨h1.below hb, h2.below hb, h5.trans (hb.mono h6), by omega⟩

theorem shifts_any (a : Nat) (ahead : Int) (w : World) (ha64 : U64 a) (hmany : -9223372036854775808 ≤ ahead ∧ ahead ≤ 9223372036854775807) :
    Calls Try.prog 4 #[.int .u64 a, .int .i64 ahead] w fun e w' => e = .returned (.bool true) ∧ Below w.heap.size w w' := by
  by_cases hneg : ahead < 0
  all_goals
    go_enter Try.func4, Try.ntmps4
    go_wp2_with fail
    refine (shown5_any _).mono ?_
    rintro e w1 ⟨rfl, hb1⟩
    have H1 := Lib.hid hb1
    clear hb1
    go_wp2_with fail
    obtain ⟨n, hn, hn2⟩ : ∃ n : Nat, (if ahead < 0 then -(ahead + 1).tmod 200 else ahead % 200) = (n : Int) ∧ n < 200 := shifts_n ahead
    first
      | rw [if_pos hneg] at hn
      | rw [if_neg (by omega)] at hn
    rw [hn]
    clear hn hneg hmany
    refine (new_any a _).mono ?_
    rintro e w2 ⟨dx, sx, rfl, hx⟩
    have Hx := Lib.hid hx
    clear hx
    go_wp2_with fail
    rw [shifts_seed a n ha64 (by omega)]
    refine (new_any (itA n a) _).mono ?_
    rintro e w3 ⟨dy, sy, rfl, hy⟩
    have HR : Hid (ShiftRel w dx sx dy sy a (itA n a) 0 0 w3 ∧ Apart4 w.heap.size dx sx dy sy) := shift_start H1.out Hx.out hy
    clear hy H1 Hx
    obtain ⟨hr0, ha0⟩ := HR
    have HR := Lib.hid hr0
    have ha := Lib.hid ha0
    clear hr0 ha0
    go_wp2_with fail
    go_loopw [9] (fun i wr => ∃ k : Nat, k ≤ n ∧ i = .int .i64 k ∧ ShiftRel w dx sx dy sy a (itA n a) k 0 wr) (fun i _ => 1000 - (intOf i).toNat)
    case atStart => exact ⟨0, by omega, rfl, HR.out⟩
    case round =>
      obtain ⟨k, hk, rfl, hr⟩ := hrel
      have Hr := Lib.hid hr
      clear hr HR
      by_cases hlt : k < n
      · go_wp2_with fail
        refine (next_any dx sx (itA k a) k _ (by omega) Hr.out.1).mono ?_
        rintro e w5 ⟨rfl, hx⟩
        have HE : Hid (ShiftRel w dx sx dy sy a (itA n a) (k + 1) 0 w5) := shift_x ha.out Hr.out hx
        clear hx
        go_wp2
        go_roundw
        case rel => exact ⟨k + 1, by omega, by go_num, HE.out⟩
        case measure => simp [intOf]; omega
      · obtain rfl : n = k := by omega
        have hlt2 : (((n : Int) < (n : Int))) = False := by simp
        go_wp2_with fail
        go_loopw [10] (fun i wr2 => ∃ k : Nat, k ≤ 20 ∧ i = .int .i64 k ∧ ShiftRel w dx sx dy sy a (itA n a) (n + k) k wr2) (fun i _ => 1000 - (intOf i).toNat)
        case atStart => exact ⟨0, by omega, rfl, Hr.out⟩
        case round =>
          obtain ⟨k, hk, rfl, hr⟩ := hrel
          have H2 := Lib.hid hr
          clear hr Hr
          by_cases hlt : k < 20
          · go_wp2_with fail
            refine (many_any dx sx _ (n + k) _ H2.out.1).mono ?_
            rintro e w' ⟨rfl, rfl⟩
            rw [Int.natCast_add]
            go_wp2_with fail
            refine (many_any dy sy _ k _ H2.out.2.1).mono ?_
            rintro e w' ⟨rfl, rfl⟩
            go_wp2_with fail
            refine (next_any dx sx (itA (n + k) a) (n + k) _ (by omega) H2.out.1).mono ?_
            rintro e w5 ⟨rfl, hx⟩
            have H5 : Hid (ShiftRel w dx sx dy sy a (itA n a) (n + k + 1) k w5) := shift_x ha.out H2.out hx
            clear hx
            rw [show itA (n + k) a = itA k (itA n a) from by rw [Nat.add_comm, itA_add]]
            go_wp2_with fail
            refine (next_any dy sy (itA k (itA n a)) k _ (by omega) H5.out.2.1).mono ?_
            rintro e w6 ⟨rfl, hx⟩
            have H6 : Hid (ShiftRel w dx sx dy sy a (itA n a) (n + (k + 1)) (k + 1) w6) := shift_y ha.out H5.out hx
            clear hx
            go_wp2
            go_roundw
            case rel => exact ⟨k + 1, by omega, by go_num, H6.out⟩
            case measure => simp [intOf]; omega
          · obtain rfl : k = 20 := by omega
            go_wp2_with fail
            refine (next_any dx sx (itA (n + 20) a) (n + 20) _ (by omega) H2.out.1).mono ?_
            rintro e w5 ⟨rfl, hx⟩
            have H5 : Hid (ShiftRel w dx sx dy sy a (itA n a) (n + 20 + 1) 20 w5) := shift_x ha.out H2.out hx
            clear hx
            go_wp2_with fail
            have he : IntKind.u64.wrap ((a : Int) + IntKind.u64.wrap (((n : Int) + 20) * 11400714819323198485)) = ((itA (n + 20) a : Nat) : Int) := by
              have := shifts_seed a (n + 20) ha64 (by omega)
              rwa [Int.natCast_add] at this
            rw [he]
            clear he
            refine (mix_any (itA (n + 20) a) _).mono ?_
            rintro e w6 ⟨rfl, hb⟩
            have H6 := Lib.hid (shift_b H5.out hb).2.2.1
            clear hb
            go_wp2
            go_ret
            exact ⟨rfl, H6.out⟩

theorem pw_cell_below {w w1 : World} (h : Below w.heap.size w w1) {a : Addr} {v : Value} (hc : w.cell? a = some v) : w1.cell? a = some v := (h.cell (World.block_lt_of_cell? w a hc)).trans hc

theorem apart_any (a b : Nat) (A : Option Addr) (len cap : Nat) (bs : Nat → Bool) (w : World) (ha64 : U64 a) (hb64 : U64 b) (hlen : len ≤ 9223372036854775807)
    (hc : 0 < len → ∃ ad, A = some ad ∧ ∀ j, j < len → w.cell? (ad.add j) = some (.bool (bs j))) :
    Calls Try.prog 5 #[.int .u64 a, .int .u64 b, .slice A len cap] w fun e w' => e = .returned (.bool true) ∧ Below w.heap.size w w' := by
  have HC := Lib.hid hc
  clear hc
  go_enter Try.func5, Try.ntmps5
  go_wp2_with fail
  refine (shown5_any _).mono ?_
  rintro e w1 ⟨rfl, hb1⟩
  have H1 := Lib.hid hb1
  clear hb1
  go_wp2_with fail
  refine (new_any a _).mono ?_
  rintro e w2 ⟨dx, sx, rfl, hx⟩
  have Hx := Lib.hid hx
  clear hx
  go_wp2_with fail
  refine (new_any b _).mono ?_
  rintro e w3 ⟨dy, sy, rfl, hy⟩
  have HR : Hid (ShiftRel w dx sx dy sy a b 0 0 w3 ∧ Apart4 w.heap.size dx sx dy sy) := shift_start H1.out Hx.out hy
  clear hy H1 Hx
  obtain ⟨hr0, ha0⟩ := HR
  have HR := Lib.hid hr0
  have ha := Lib.hid ha0
  clear hr0 ha0
  by_cases h100 : 100 < len
  · have HF := Lib.hid HR.out.2.2.1
    clear HR
    go_wp2
    go_ret
    exact ⟨rfl, HF.out⟩
  · go_wp2_with fail
    go_loopw [10, 11, 12] (fun p q i wr => ∃ n m : Nat, n + m ≤ len ∧ p = .int .i64 n ∧ q = .int .i64 m ∧ i = .int .i64 ((n + m : Nat) : Int) ∧ ShiftRel w dx sx dy sy a b n m wr) (fun _ _ i _ => 1000 - (intOf i).toNat)
    case atStart => exact ⟨0, 0, by omega, rfl, rfl, rfl, HR.out⟩
    case round =>
      obtain ⟨n, m, hk, rfl, rfl, rfl, hr⟩ := hrel
      have Hr := Lib.hid hr
      clear hr HR
      by_cases hlt : n + m < len
      · obtain ⟨ad, hA, hcl⟩ := HC.out (by omega)
        subst hA
        have hcell := pw_cell_below (w1 := wr) ((Hr.out.2.2.1)) (hcl _ hlt)
        clear hcl
        have hlt2 : (n : Int) + (m : Int) < (len : Int) := by omega
        rw [Int.natCast_add]
        go_wp2_with fail
        · refine (next_any dx sx (itA n a) n _ (by omega) Hr.out.1).mono ?_
          rintro e w5 ⟨rfl, hx⟩
          have H5 : Hid (ShiftRel w dx sx dy sy a b (n + 1) m w5) := shift_x ha.out Hr.out hx
          clear hx
          go_wp2_with fail
          rw [shifts_seed a n ha64 (by omega)]
          refine (mix_any (itA n a) _).mono ?_
          rintro e w6 ⟨rfl, hb⟩
          have H6 : Hid (ShiftRel w dx sx dy sy a b (n + 1) m w6) := shift_b H5.out hb
          clear hb H5 Hr hcell HC
          go_wp2
          go_roundw
          case rel => exact ⟨(n + 1), m, by omega, by go_num, by go_num, by go_num, H6.out⟩
          case measure => simp [intOf]; omega
        · refine (next_any dy sy (itA m b) m _ (by omega) Hr.out.2.1).mono ?_
          rintro e w5 ⟨rfl, hx⟩
          have H5 : Hid (ShiftRel w dx sx dy sy a b n (m + 1) w5) := shift_y ha.out Hr.out hx
          clear hx
          go_wp2_with fail
          rw [shifts_seed b m hb64 (by omega)]
          refine (mix_any (itA m b) _).mono ?_
          rintro e w6 ⟨rfl, hb⟩
          have H6 : Hid (ShiftRel w dx sx dy sy a b n (m + 1) w6) := shift_b H5.out hb
          clear hb H5 Hr hcell HC
          go_wp2
          go_roundw
          case rel => exact ⟨n, (m + 1), by omega, by go_num, by go_num, by go_num, H6.out⟩
          case measure => simp [intOf]; omega
      · have hlt2 : (len : Int) ≤ (n : Int) + (m : Int) := by omega
        rw [Int.natCast_add]
        go_wp2_with fail
        refine (many_any dx sx _ n _ Hr.out.1).mono ?_
        rintro e w' ⟨rfl, rfl⟩
        go_wp2_with fail
        refine (many_any dy sy _ m _ Hr.out.2.1).mono ?_
        rintro e w' ⟨rfl, rfl⟩
        have Hb := Lib.hid Hr.out.2.2.1
        clear Hr
        go_wp2
        go_ret
        exact ⟨rfl, Hb.out⟩

end Go.Proofs.Ytnmdceofmlgohaa
