/- What DrawTells of chapter 5 comes to: it returns true. -/
import Derived.Test.YtpgbhgpjfjeomaaEvDraw
import Derived.LoopTactic
namespace Go.Proofs.Ytpgbhgpjfjeomaa
open Go.RowKit Go.Proofs.Ytpgbhgpjfjeomaa.Ref Go.Proofs.Ytpgbhgpjfjeomaa.PA Go.Proofs.YtpgbhgpjfjeomaaW.PrintWords
set_option linter.unusedVariables false

def TellRel (a : Nat) (w0 : World) (d s k : Nat) (wr : World) : Prop :=
  DrawsAt wr d s (drawN a k) k ∧ Below w0.heap.size w0 wr ∧ w0.heap.size ≤ wr.heap.size
theorem tell_b {a : Nat} {w0 wr w5 : World} {d s k : Nat} (h : TellRel a w0 d s k wr) (hb : Below wr.heap.size wr w5) : TellRel a w0 d s k w5 :=
  ⟨h.1.below hb, h.2.1.trans (hb.mono h.2.2), Nat.le_trans h.2.2 hb.size⟩
theorem tell_next {a : Nat} {w0 wr w5 : World} {d s k : Nat} (hd : w0.heap.size ≤ d) (hs : w0.heap.size ≤ s) (h : TellRel a w0 d s k wr)
    (hx : DrawsAt w5 d s (mixA (drawN a k)) (k + 1) ∧ Moved (fun k => k = d ∨ k = s) wr w5) : TellRel a w0 d s (k + 1) w5 := by
  obtain ⟨h1, h2, h3⟩ := h
  obtain ⟨h4, h5⟩ := hx
  refine ⟨by rw [drawN_succ]; exact h4, h5.below h2 h3 (by rintro k (rfl | rfl) <;> assumption), Nat.le_trans h3 h5.size⟩

theorem tells_any (a : Nat) (many : Int) (u v : ByteArray) (n : Nat) (w : World) (ha : U64 a) (hmany : -9223372036854775808 ≤ many ∧ many ≤ 9223372036854775807) (hu : u.size ≤ 140737488351232) (hv : v.size ≤ 140737488351232) (hn : U64 n) :
    Calls Try.prog 5 #[.int .u64 a, .int .i64 many, .string u, .string v, .int .u64 n] w fun e w' => e = .returned (.bool true) ∧ Below w.heap.size w w' := by
  go_enter Try.func5, Try.ntmps5
  go_wp2_with fail
  refine (shown5_any _).mono ?_
  rintro e w1 ⟨rfl, hb1⟩
  have H1 := Lib.hid hb1
  clear hb1
  go_wp2_with fail
  refine (new_any a _).mono ?_
  rintro e w2 ⟨d, s, rfl, hx⟩
  have HR : Hid (TellRel a w d s 0 w2 ∧ w.heap.size ≤ d ∧ w.heap.size ≤ s) := by
    obtain ⟨x1, x2, x3, x4, x5, x6⟩ := hx
    have h1 := H1.out
    have := h1.size
    have := x2.size
    exact ⟨⟨by rw [drawN_zero a ha]; exact x1, h1.trans (x2.mono h1.size), by omega⟩, by omega, by omega⟩
  clear hx H1
  by_cases hbig : 6000 < (u.size : Int) + (v.size : Int)
  · have HB := Lib.hid HR.out.1.2.1
    clear HR
    go_wp2
    go_ret
    exact ⟨rfl, HB.out⟩
  · obtain ⟨k1, hk1⟩ := Ev.rounds (secret_ev u v n (by omega) (by omega) hn)
    obtain ⟨k2, hk2⟩ := Ev.rounds (ref5Secret_ev u v n (by omega) (by omega) hn)
    generalize secretF u v n = sec at hk1 hk2
    obtain ⟨s1, s2⟩ := sec
    have HS1 := Lib.hid hk1
    have HS2 := Lib.hid hk2
    clear hk1 hk2
    have hmod : many.tmod 60 ≤ 59 := by have := Int.tmod_lt_of_pos many (show (0 : Int) < 60 by decide); omega
    go_wp2_with fail
    go_loopw [14] (fun i wr => ∃ k : Nat, k < 1000 ∧ (k = 0 ∨ (k : Int) ≤ many.tmod 60) ∧ i = .int .i64 k ∧ TellRel a w d s k wr) (fun i _ => 1000 - (intOf i).toNat)
    case atStart => exact ⟨0, by omega, Or.inl rfl, rfl, HR.out.1⟩
    case round =>
      obtain ⟨k, hk, hle, rfl, hr⟩ := hrel
      have Hr := Lib.hid hr
      clear hr
      by_cases hlt : (k : Int) < many.tmod 60
      · go_wp2_with fail
        refine (many_any d s _ k _ Hr.out.1).mono ?_
        rintro e w' ⟨rfl, rfl⟩
        go_wp2_with fail
        refine (next_any d s (drawN a k) k _ (by omega) Hr.out.1).mono ?_
        rintro e w5 ⟨rfl, hx⟩
        have H5 : Hid (TellRel a w d s (k + 1) w5) := tell_next HR.out.2.1 HR.out.2.2 Hr.out hx
        clear hx
        go_wp2_with fail
        refine (letterlockref5_Draw.calls (a : Int) (k : Int) _ _ (ref5Draw_val a k ha hk)).mono ?_
        rintro e w6 ⟨rfl, hb⟩
        have H6 : Hid (TellRel a w d s (k + 1) w6) := tell_b H5.out hb.below
        clear hb
        go_wp2
        go_roundw
        case rel => exact ⟨k + 1, by omega, Or.inr (by omega), by go_num, H6.out⟩
        case measure => simp [intOf]; omega
      · have hmax : (if many.tmod 60 < 0 then 0 else many.tmod 60) = (k : Int) := by split <;> omega
        go_wp2_with fail
        refine (draw_Secret.calls k1 u v (n : Int) s1 s2 _ HS1.out).mono ?_
        rintro e w6 ⟨rfl, hb⟩
        have H6 : Hid (TellRel a w d s k w6) := tell_b Hr.out hb
        clear hb
        go_wp2_with fail
        refine (letterlockref5_Secret.calls k2 u v (n : Int) s1 s2 _ HS2.out).mono ?_
        rintro e w7 ⟨rfl, hb⟩
        have H7 : Hid (TellRel a w d s k w7) := tell_b H6.out hb
        clear hb
        go_wp2_with fail
        refine (many_any d s _ k _ H7.out.1).mono ?_
        rintro e w' ⟨rfl, rfl⟩
        go_wp2_with fail
        refine (mix_any a _).mono ?_
        rintro e w8 ⟨rfl, hb⟩
        have H8 : Hid (TellRel a w d s k w8) := tell_b H7.out hb
        clear hb
        go_wp2_with fail
        refine (letterlockref5_Mix.calls (a : Int) _ _ (ref5Mix_val a)).mono ?_
        rintro e w9 ⟨rfl, hb⟩
        have H9 : Hid (TellRel a w d s k w9) := tell_b H8.out hb.below
        clear hb
        go_wp2_with fail
        refine (mix_any n _).mono ?_
        rintro e w10 ⟨rfl, hb⟩
        have H10 : Hid (TellRel a w d s k w10) := tell_b H9.out hb
        clear hb
        go_wp2_with fail
        refine (letterlockref5_Mix.calls (n : Int) _ _ (ref5Mix_val n)).mono ?_
        rintro e w11 ⟨rfl, hb⟩
        have H11 : Hid (TellRel a w d s k w11) := tell_b H10.out hb.below
        clear hb
        have HB := Lib.hid H11.out.2.1
        clear H6 H7 H8 H9 H10 H11 Hr HR HS1 HS2
        go_wp2
        go_ret
        exact ⟨rfl, HB.out⟩

end Go.Proofs.Ytpgbhgpjfjeomaa
