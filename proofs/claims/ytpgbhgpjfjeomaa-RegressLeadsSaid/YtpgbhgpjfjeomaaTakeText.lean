/- The contract of wire.TakeText (and of limited, which it calls). -/
import Derived.Test.YtpgbhgpjfjeomaaWire
import Derived.Test.YtpgbhgpjfjeomaaTerms
namespace Go.Proofs.Ytpgbhgpjfjeomaa
open Go.RowKit
set_option linter.unusedVariables false

/-- wire.TakeText in plain words. -/
def takeTextF (most : Nat) (s : ByteArray) : ByteArray × ByteArray × Int :=
  match takeL (bytes s) with
  | none => (⟨#[]⟩, ⟨#[]⟩, 2)
  | some (n, r) => if most < n then (⟨#[]⟩, ⟨#[]⟩, 10) else if r.length < n then (⟨#[]⟩, ⟨#[]⟩, 2) else (ofBytes (r.take n), ofBytes (r.drop n), 0)
def limitedF (most : Nat) (s : ByteArray) : Int × ByteArray × Int :=
  match takeL (bytes s) with
  | none => (0, ⟨#[]⟩, 2)
  | some (n, r) => if most < n then (0, ⟨#[]⟩, 10) else (n, ofBytes r, 0)

theorem limited_any (s : ByteArray) (most : Nat) (hs : s.size ≤ 9223372036854775000) (hm : most ≤ 1000000) (w : World) :
    Calls Try.prog 68 #[.string s, .int .i64 most] w fun e w' => e = .returned (.tuple #[.int .i64 (limitedF most s).1, .string (limitedF most s).2.1, .int .i64 (limitedF most s).2.2]) ∧ Below w.heap.size w w' := by
  cases h : takeL (bytes s) with
  | none =>
    have h1 : takeF s = (0, ⟨#[]⟩, 2) := by unfold takeF; rw [h]
    have h2 : limitedF most s = (0, ⟨#[]⟩, 2) := by unfold limitedF; rw [h]
    rw [h2]
    have HT := Lib.hid (wire_Take.calls s 0 ⟨#[]⟩ 2 w (by unfold wire_Take.f; rw [if_pos hs, h1]))
    clear h1 h2 h
    go_enter Try.func68, Try.ntmps68
    go_wp2_with fail
    refine HT.out.mono ?_
    rintro e w' ⟨rfl, hb⟩
    have HB := Lib.hid hb
    clear hb
    go_wp2
    go_ret3
    exact ⟨rfl, HB.out⟩
  | some x =>
    obtain ⟨n, r⟩ := x
    have hn := (take_inv h).2
    have h1 : takeF s = ((n : Int), ofBytes r, 0) := by unfold takeF; rw [h]
    have HT := Lib.hid (wire_Take.calls s n (ofBytes r) 0 w (by unfold wire_Take.f; rw [if_pos hs, h1]))
    clear h1
    by_cases hbig : most < n
    · have h2 : limitedF most s = (0, ⟨#[]⟩, 10) := by unfold limitedF; rw [h]; simp only; rw [if_pos hbig]
      rw [h2]
      clear h2 h
      go_enter Try.func68, Try.ntmps68
      go_wp2_with fail
      refine HT.out.mono ?_
      rintro e w' ⟨rfl, hb⟩
      have HB := Lib.hid hb
      clear hb
      go_wp2
      go_ret3
      exact ⟨rfl, HB.out⟩
    · have h2 : limitedF most s = ((n : Int), ofBytes r, 0) := by unfold limitedF; rw [h]; simp only; rw [if_neg hbig]
      rw [h2]
      clear h2 h
      go_enter Try.func68, Try.ntmps68
      go_wp2_with fail
      refine HT.out.mono ?_
      rintro e w' ⟨rfl, hb⟩
      have HB := Lib.hid hb
      clear hb
      go_wp2
      go_ret3
      exact ⟨rfl, HB.out⟩

theorem taketext_any (s : ByteArray) (most : Nat) (hs : s.size ≤ 9223372036854775000) (hm : most ≤ 1000000) (w : World) :
    Calls Try.prog 64 #[.string s, .int .i64 most] w fun e w' => e = .returned (.tuple #[.string (takeTextF most s).1, .string (takeTextF most s).2.1, .int .i64 (takeTextF most s).2.2]) ∧ Below w.heap.size w w' := by
  have HL := Lib.hid (limited_any s most hs hm w)
  by_cases hbad : (limitedF most s).2.2 = 0
  · cases h : takeL (bytes s) with
    | none => rw [show limitedF most s = (0, ⟨#[]⟩, 2) from by unfold limitedF; rw [h]] at hbad; simp at hbad
    | some x =>
      obtain ⟨n, r⟩ := x
      by_cases hbig : most < n
      · rw [show limitedF most s = (0, ⟨#[]⟩, 10) from by unfold limitedF; rw [h]; simp only; rw [if_pos hbig]] at hbad; simp at hbad
      · have hl : limitedF most s = ((n : Int), ofBytes r, 0) := by unfold limitedF; rw [h]; simp only; rw [if_neg hbig]
        rw [hl] at HL
        have hz := size_ofBytes r
        have hrn : r.length ≤ s.size := by
          have := (take_inv h).1
          have h3 := congrArg List.length this
          rw [bytes_length, List.length_append] at h3
          omega
        by_cases hlen : r.length < n
        · have h2 : takeTextF most s = (⟨#[]⟩, ⟨#[]⟩, 2) := by unfold takeTextF; rw [h]; simp only; rw [if_neg hbig, if_pos hlen]
          rw [h2]
          clear h2 h hl hbad
          go_enter Try.func64, Try.ntmps64
          go_wp2_with fail
          refine HL.out.mono ?_
          rintro e w' ⟨rfl, hb⟩
          have HB := Lib.hid hb
          clear hb
          go_wp2
          go_ret3
          exact ⟨rfl, HB.out⟩
        · have h2 : takeTextF most s = (ofBytes (r.take n), ofBytes (r.drop n), 0) := by unfold takeTextF; rw [h]; simp only; rw [if_neg hbig, if_neg hlen]
          have e1 : (ofBytes r).extract 0 n = ofBytes (r.take n) := bs_inj (by rw [bytes_to, bytes_ofBytes, bytes_ofBytes])
          have e2 : (ofBytes r).extract n (ofBytes r).size = ofBytes (r.drop n) := bs_inj (by rw [bytes_from, bytes_ofBytes, bytes_ofBytes])
          rw [h2, ← e1, ← e2]
          clear h2 h hl hbad e1 e2
          generalize ofBytes r = q at *
          go_enter Try.func64, Try.ntmps64
          go_wp2_with fail
          refine HL.out.mono ?_
          rintro e w' ⟨rfl, hb⟩
          have HB := Lib.hid hb
          clear hb
          go_wp2
          go_quiet (fail)
          go_wp2
          go_ret3
          exact ⟨by rw [hz]; rfl, below_drewN' HB.out _⟩
  · have h2 : takeTextF most s = (⟨#[]⟩, ⟨#[]⟩, (limitedF most s).2.2) := by
      unfold takeTextF limitedF
      cases h : takeL (bytes s) with
      | none => rfl
      | some x =>
        obtain ⟨n, r⟩ := x
        simp only
        by_cases hbig : most < n
        · rw [if_pos hbig, if_pos hbig]
        · exfalso
          apply hbad
          unfold limitedF
          rw [h]
          simp only
          rw [if_neg hbig]
    rw [h2]
    clear h2
    generalize limitedF most s = q at *
    obtain ⟨q1, q2, q3⟩ := q
    have hb : (q3 == 0) = false := by rw [beq_eq_false_iff_ne]; exact hbad
    clear hbad
    go_enter Try.func64, Try.ntmps64
    go_wp2_with fail
    refine HL.out.mono ?_
    rintro e w' ⟨rfl, hb⟩
    have HB := Lib.hid hb
    clear hb
    go_wp2
    go_ret3
    exact ⟨rfl, HB.out⟩

end Go.Proofs.Ytpgbhgpjfjeomaa
