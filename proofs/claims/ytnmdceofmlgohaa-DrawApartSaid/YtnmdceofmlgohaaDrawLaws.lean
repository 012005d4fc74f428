/- What the statements DrawSame, DrawShifts and DrawApart of chapter 5 come to: each returns true. -/
import Derived.Test.YtnmdceofmlgohaaDraw
import Derived.LoopTactic
namespace Go.Proofs.Ytnmdceofmlgohaa
open Go.RowKit
set_option linter.unusedVariables false

theorem shown5_any (w : World) : Calls Try.prog 6 #[] w fun e w' => e = .returned (.bool true) ∧ Below w.heap.size w w' := by
  go_enter Try.func6, Try.ntmps6
  go_wp2_with fail
  refine (mix_any 0 _).mono ?_
  rintro e w1 ⟨rfl, hb⟩
  rw [mix0]
  go_wp2_with fail
  refine (new_any 0 _).mono ?_
  rintro e w2 ⟨d, s, rfl, hd, hb2, h3, h4, h5, h6⟩
  have H := Lib.hid (hb.trans (hb2.mono hb.size))
  clear hd h3 h4 h5 h6 hb hb2
  go_wp2
  go_ret
  exact ⟨rfl, H.out⟩

def itA : Nat → Nat → Nat
  | 0, n => n
  | k + 1, n => mixA (itA k n)

/-- What the loop of DrawSame keeps. -/
def SameRel (a : Nat) (w0 : World) (dx sx dy sy dz sz : Nat) (k : Nat) (wr : World) : Prop :=
  DrawsAt wr dx sx (itA k a) k ∧ DrawsAt wr dy sy (itA k a) k ∧ (∃ n m, m ≤ k ∧ DrawsAt wr dz sz n m) ∧ Below w0.heap.size w0 wr ∧ w0.heap.size ≤ wr.heap.size
def Apart6 (B dx sx dy sy dz sz : Nat) : Prop :=
  B ≤ dx ∧ B ≤ sx ∧ B ≤ dy ∧ B ≤ sy ∧ B ≤ dz ∧ B ≤ sz ∧ dx ≠ dy ∧ dx ≠ sy ∧ dx ≠ dz ∧ dx ≠ sz ∧ sx ≠ dy ∧ sx ≠ sy ∧ sx ≠ dz ∧ sx ≠ sz ∧ dy ≠ dz ∧ dy ≠ sz ∧ sy ≠ dz ∧ sy ≠ sz

def SameMid (a : Nat) (w0 : World) (dx sx dy sy dz sz : Nat) (k c : Nat) (wr : World) : Prop :=
  DrawsAt wr dx sx (itA (k + 1) a) (k + 1) ∧ DrawsAt wr dy sy (itA k a) k ∧ (∃ n m, m ≤ c ∧ DrawsAt wr dz sz n m) ∧ Below w0.heap.size w0 wr ∧ w0.heap.size ≤ wr.heap.size
theorem same_x {a : Nat} {w wr w5 : World} {dx sx dy sy dz sz k : Nat} (ha : Apart6 w.heap.size dx sx dy sy dz sz) (hr : SameRel a w dx sx dy sy dz sz k wr)
    (hx : DrawsAt w5 dx sx (mixA (itA k a)) (k + 1) ∧ Moved (fun k => k = dx ∨ k = sx) wr w5) : SameMid a w dx sx dy sy dz sz k k w5 := by
  obtain ⟨_, h2, ⟨n, m, h3, h4⟩, h5, h6⟩ := hr
  obtain ⟨h7, h8⟩ := hx
  unfold Apart6 at ha
  have := h8.size
  exact ⟨h7, h2.moved h8 (by omega) (by omega), ⟨n, m, by omega, h4.moved h8 (by omega) (by omega)⟩, h8.below h5 h6 (by omega), by omega⟩
theorem same_z {a : Nat} {w wr w5 : World} {dx sx dy sy dz sz k nz mz : Nat} (ha : Apart6 w.heap.size dx sx dy sy dz sz) (hr : SameMid a w dx sx dy sy dz sz k k wr) (hm : mz ≤ k)
    (hx : DrawsAt w5 dz sz (mixA nz) (mz + 1) ∧ Moved (fun k => k = dz ∨ k = sz) wr w5) : SameMid a w dx sx dy sy dz sz k (k + 1) w5 := by
  obtain ⟨h1, h2, _, h5, h6⟩ := hr
  obtain ⟨h7, h8⟩ := hx
  unfold Apart6 at ha
  have := h8.size
  exact ⟨h1.moved h8 (by omega) (by omega), h2.moved h8 (by omega) (by omega), ⟨_, _, by omega, h7⟩, h8.below h5 h6 (by omega), by omega⟩
theorem same_b {a : Nat} {w wr w5 : World} {dx sx dy sy dz sz k c : Nat} (hr : SameMid a w dx sx dy sy dz sz k c wr) (hb : Below wr.heap.size wr w5) : SameMid a w dx sx dy sy dz sz k c w5 := by
  obtain ⟨h1, h2, ⟨n, m, h3, h4⟩, h5, h6⟩ := hr
  have := hb.size
  exact ⟨h1.below hb, h2.below hb, ⟨n, m, h3, h4.below hb⟩, h5.trans (hb.mono h6), by omega⟩
theorem same_step {a : Nat} {w wr w5 : World} {dx sx dy sy dz sz k c : Nat} (ha : Apart6 w.heap.size dx sx dy sy dz sz) (hc : c ≤ k + 1) (hr : SameMid a w dx sx dy sy dz sz k c wr)
    (hx : DrawsAt w5 dy sy (mixA (itA k a)) (k + 1) ∧ Moved (fun k => k = dy ∨ k = sy) wr w5) : SameRel a w dx sx dy sy dz sz (k + 1) w5 := by
  obtain ⟨h1, _, ⟨n, m, h3, h4⟩, h5, h6⟩ := hr
  obtain ⟨h7, h8⟩ := hx
  unfold Apart6 at ha
  have := h8.size
  exact ⟨h1.moved h8 (by omega) (by omega), h7, ⟨n, m, by omega, h4.moved h8 (by omega) (by omega)⟩, h8.below h5 h6 (by omega), by omega⟩

theorem xs_inj (s a b : Nat) (hs : 0 < s) (h : a ^^^ a >>> s = b ^^^ b >>> s) : a = b := by
  have hd : (a ^^^ b) = (a ^^^ b) >>> s := by
    rw [Nat.shiftRight_xor_distrib]
    have h2 : a ^^^ b = a ^^^ (a >>> s ^^^ a >>> s) ^^^ b := by simp
    rw [h2, ← Nat.xor_assoc, h]
    rw [show b ^^^ b >>> s ^^^ a >>> s ^^^ b = (b ^^^ b) ^^^ (a >>> s ^^^ b >>> s) from by ac_rfl]
    simp
  have h0 : a ^^^ b = 0 := by
    rw [Nat.shiftRight_eq_div_pow] at hd
    have h3 : 2 ≤ 2 ^ s := by
      calc 2 = 2 ^ 1 := rfl
        _ ≤ 2 ^ s := Nat.pow_le_pow_right (by decide) hs
    rcases Nat.eq_zero_or_pos (a ^^^ b) with h | h
    · exact h
    · have := Nat.div_lt_self h h3
      omega
  have h4 : a ^^^ b ^^^ b = b := by rw [h0]; simp
  rwa [Nat.xor_assoc, Nat.xor_self, Nat.xor_zero] at h4
theorem mul_inj (K J a b : Nat) (hK : K * J % 18446744073709551616 = 1) (ha : a < 18446744073709551616) (hb : b < 18446744073709551616) (h : a * K % 18446744073709551616 = b * K % 18446744073709551616) : a = b := by
  have e : ∀ x, x < 18446744073709551616 → (x * K % 18446744073709551616) * J % 18446744073709551616 = x := by
    intro x hx
    rw [Nat.mod_mul_mod, Nat.mul_assoc, Nat.mul_mod, hK, Nat.mul_one, Nat.mod_mod, Nat.mod_eq_of_lt hx]
  rw [← e a ha, ← e b hb, h]
theorem xd_lt (d x : Nat) (h : U64 x) : U64 (x ^^^ x / d) := by
  unfold U64 at *
  rw [show (18446744073709551616 : Nat) = 2 ^ 64 from rfl] at *
  exact Nat.xor_lt_two_pow h (Nat.lt_of_le_of_lt (Nat.div_le_self _ _) h)
theorem xd_inj (s d a b : Nat) (hs : 0 < s) (hd : d = 2 ^ s) (h : a ^^^ a / d = b ^^^ b / d) : a = b := by
  subst hd
  exact xs_inj s a b hs (by rw [Nat.shiftRight_eq_div_pow, Nat.shiftRight_eq_div_pow]; exact h)
theorem mixD_inj {x y : Nat} (hx : U64 x) (hy : U64 y) (e : mixD x = mixD y) : x = y := by
  unfold mixD at e
  rw [Nat.mod_eq_of_lt (xd_lt _ x hx), Nat.mod_eq_of_lt (xd_lt _ y hy)] at e
  exact xd_inj 31 2147483648 x y (by decide) (by decide) e
theorem inv1 : 13787848793156543929 * 10871156337175269513 % 18446744073709551616 = 1 := by decide +kernel
theorem inv2 : 10723151780598845931 * 3573116690164977347 % 18446744073709551616 = 1 := by decide +kernel
theorem mixC_inj {x y : Nat} (hx : U64 x) (hy : U64 y) (e : mixC x = mixC y) : x = y := by
  unfold mixC at e
  exact xd_inj 27 134217728 x y (by decide) (by decide) (mul_inj _ _ _ _ inv2 (xd_lt _ x hx) (xd_lt _ y hy) e)
theorem mixB_inj {x y : Nat} (hx : U64 x) (hy : U64 y) (e : mixB x = mixB y) : x = y := by
  unfold mixB at e
  exact xd_inj 30 1073741824 x y (by decide) (by decide) (mul_inj _ _ _ _ inv1 (xd_lt _ x hx) (xd_lt _ y hy) e)
theorem mixN_inj {a b : Nat} (ha : U64 a) (hb : U64 b) (h : mixN a = mixN b) : a = b := by
  have h1 := mixB_inj (mixA_lt _) (mixA_lt _) (mixC_inj (mixB_lt _) (mixB_lt _) (mixD_inj (mixC_lt _) (mixC_lt _) h))
  unfold mixA at h1
  unfold U64 at ha hb
  omega

theorem tmod_le (m : Int) : m.tmod 50 ≤ 49 := by
  have := Int.tmod_lt_of_pos m (show (0 : Int) < 50 by decide)
  omega

theorem same_any (a b : Nat) (many : Int) (w : World) (ha64 : U64 a) (hb64 : U64 b) (hmany : -9223372036854775808 ≤ many ∧ many ≤ 9223372036854775807) :
    Calls Try.prog 3 #[.int .u64 a, .int .u64 b, .int .i64 many] w fun e w' => e = .returned (.bool true) ∧ Below w.heap.size w w' := by
  go_enter Try.func3, Try.ntmps3
  go_wp2_with fail
  refine (shown5_any _).mono ?_
  rintro e w1 ⟨rfl, hb1⟩
  have H1 := Lib.hid hb1
  clear hb1
  go_wp2_with fail
  refine (new_any a _).mono ?_
  rintro e w2 ⟨dx, sx, rfl, hx⟩
  have Hx := Lib.hid hx
  clear hx
  go_wp2_with fail
  refine (new_any a _).mono ?_
  rintro e w3 ⟨dy, sy, rfl, hy⟩
  have Hy := Lib.hid hy
  clear hy
  go_wp2_with fail
  refine (new_any b _).mono ?_
  rintro e w4 ⟨dz, sz, rfl, hz⟩
  have Hz := Lib.hid hz
  clear hz
  have HR : Hid (SameRel a w dx sx dy sy dz sz 0 w4 ∧ Apart6 w.heap.size dx sx dy sy dz sz) := by
    obtain ⟨x1, x2, x3, x4, x5, x6⟩ := Hx.out
    obtain ⟨y1, y2, y3, y4, y5, y6⟩ := Hy.out
    obtain ⟨z1, z2, z3, z4, z5, z6⟩ := Hz.out
    have h1 := H1.out
    have q1 := h1.size
    have q2 := x2.size
    have q3 := y2.size
    have q4 := z2.size
    have x9 := x1.2.2
    have y9 := y1.2.2
    have z9 := z1.2.2
    refine ⟨⟨(x1.below y2).below z2, y1.below z2, ⟨_, _, Nat.le_refl _, z1⟩, ((h1.trans (x2.mono q1)).trans (y2.mono (by omega))).trans (z2.mono (by omega)), by omega⟩, ?_⟩
    unfold Apart6
    omega
  obtain ⟨hr0, ha0⟩ := HR
  have HR := Lib.hid hr0
  have ha := Lib.hid ha0
  clear hr0 ha0 Hx Hy Hz H1
  go_wp2_with fail
  go_loopw [11] (fun i wr => ∃ k : Nat, k < 1000 ∧ i = .int .i64 k ∧ SameRel a w dx sx dy sy dz sz k wr) (fun i _ => 1000 - (intOf i).toNat)
  case atStart => exact ⟨0, by omega, rfl, HR.out⟩
  case round =>
    obtain ⟨k, hk, rfl, hr⟩ := hrel
    have Hr := Lib.hid hr
    clear hr
    have hmod : many.tmod 50 ≤ 49 := tmod_le many
    by_cases hlt : (k : Int) < many.tmod 50
    · go_wp2_with fail
      refine (next_any dx sx (itA k a) k _ (by omega) Hr.out.1).mono ?_
      rintro e w5 ⟨rfl, hx⟩
      have Hx := Lib.hid hx
      clear hx
      have H5 : Hid (SameMid a w dx sx dy sy dz sz k k w5) := same_x ha.out Hr.out Hx.out
      clear Hx
      by_cases h0 : k = 0
      · obtain rfl : k = 0 := h0
        rw [show itA 0 a = a from rfl]
        go_wp2_with fail
        obtain ⟨nz, mz, hmz, hz⟩ := H5.out.2.2.1
        have Hz := Lib.hid hz
        clear hz
        refine (next_any dz sz nz mz _ (by omega) Hz.out).mono ?_
        rintro e w6 ⟨rfl, hz6⟩
        have H6 : Hid (SameMid a w dx sx dy sy dz sz 0 1 w6) := same_z ha.out H5.out hmz hz6
        clear hz6 hmz
        go_wp2_with fail
        refine (mix_any a _).mono ?_
        rintro e w8 ⟨rfl, hb8⟩
        have H8 : Hid (SameMid a w dx sx dy sy dz sz 0 1 w8) := same_b H6.out hb8
        clear hb8
        go_wp2_with fail
        refine (next_any dy sy a 0 _ (by omega) H8.out.2.1).mono ?_
        rintro e w7 ⟨rfl, hy⟩
        have HE : Hid (SameRel a w dx sx dy sy dz sz (0 + 1) w7) := same_step ha.out (by omega) H8.out hy
        clear hy
        go_wp2
        go_roundw
        case rel => exact ⟨0 + 1, by omega, by go_num, HE.out⟩
        case measure => simp [intOf]
      · have h0' : ((k : Int) == 0) = false := by rw [beq_eq_false_iff_ne]; omega
        clear h0
        by_cases h3 : ((k : Int) % 3 == 0) = true
        · go_wp2_with fail
          obtain ⟨nz, mz, hmz, hz⟩ := H5.out.2.2.1
          have Hz := Lib.hid hz
          clear hz
          refine (next_any dz sz nz mz _ (by omega) Hz.out).mono ?_
          rintro e w6 ⟨rfl, hz6⟩
          have H6 : Hid (SameMid a w dx sx dy sy dz sz k (k + 1) w6) := same_z ha.out H5.out hmz hz6
          clear hz6 hmz
          go_wp2_with fail
          refine (next_any dy sy (itA k a) k _ (by omega) H6.out.2.1).mono ?_
          rintro e w7 ⟨rfl, hy⟩
          have HE : Hid (SameRel a w dx sx dy sy dz sz (k + 1) w7) := same_step ha.out (by omega) H6.out hy
          clear hy
          go_wp2
          go_roundw
          case rel => exact ⟨k + 1, by omega, by go_num, HE.out⟩
          case measure => simp [intOf]; omega
        · go_wp2_with fail
          refine (next_any dy sy (itA k a) k _ (by omega) H5.out.2.1).mono ?_
          rintro e w7 ⟨rfl, hy⟩
          have HE : Hid (SameRel a w dx sx dy sy dz sz (k + 1) w7) := same_step ha.out (by omega) H5.out hy
          clear hy
          go_wp2
          go_roundw
          case rel => exact ⟨k + 1, by omega, by go_num, HE.out⟩
          case measure => simp [intOf]; omega
    · go_wp2_with fail
      refine (many_any dx sx _ k _ Hr.out.1).mono ?_
      rintro e w' ⟨rfl, rfl⟩
      go_wp2_with fail
      refine (many_any dy sy _ k _ Hr.out.2.1).mono ?_
      rintro e w' ⟨rfl, rfl⟩
      have Hb := Lib.hid Hr.out.2.2.2
      clear Hr hlt hmod ha HR
      by_cases hab : a = b
      · have hab' : ((a : Int) == (b : Int)) = true := by rw [beq_iff_eq]; omega
        clear hab
        go_wp2
        go_ret
        exact ⟨rfl, Hb.out.1⟩
      · have hab' : ((a : Int) == (b : Int)) = false := by rw [beq_eq_false_iff_ne]; omega
        have hne : (((mixN a : Nat) : Int) != ((mixN b : Nat) : Int)) = true := by
          rw [bne_iff_ne]
          intro e
          exact hab (mixN_inj ha64 hb64 (by omega))
        clear hab
        go_wp2_with fail
        refine (mix_any a _).mono ?_
        rintro e w8 ⟨rfl, hb8⟩
        go_wp2_with fail
        refine (mix_any b _).mono ?_
        rintro e w9 ⟨rfl, hb9⟩
        have Hb9 : Hid (Below w.heap.size w w9) := (Hb.out.1.trans (hb8.mono Hb.out.2)).trans (hb9.mono (by have := hb8.size; have := Hb.out.2; omega))
        clear hb8 hb9
        go_wp2
        go_ret
        exact ⟨rfl, Hb9.out⟩

end Go.Proofs.Ytnmdceofmlgohaa
