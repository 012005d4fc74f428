/- The contract of term.leaf: an atom or a text, read. -/
import Derived.Test.YtpgbhgpjfjeomaaTakeText
namespace Go.Proofs.Ytpgbhgpjfjeomaa
open Go.RowKit
set_option linter.unusedVariables false

/-- The value that a read atom, or text, is. -/
def leafVal : T → Value
  | .atom n => .iface 78 (.agg #[.string (ofBytes (enc (.atom n))), .int .u64 n])
  | .text s => .iface 80 (.agg #[.string (ofBytes (enc (.text s))), .string (ofBytes s)])
  | _ => .nilIface
def leafRes : Option (T × Bs) → Value
  | none => .nilIface
  | some x => leafVal x.1

theorem leaf_atom (s q : ByteArray) (hs : s.size = q.size + 1) (hq : q.size ≤ 9223372036854774000) (hc : ∀ h : 0 < s.size, (s[0]'h).toNat = 97) (hx : s.extract 1 (q.size + 1) = q) (hb : bytes s = 97 :: bytes q) (w : World) :
    Calls Try.prog 58 #[.string s] w fun e w' => e = .returned (leafRes ((takeL (bytes q)).map fun x => (.atom x.1, x.2))) ∧ Below w.heap.size w w' := by
  have hwf : wire_Take.f q = some (takeF q) := by unfold wire_Take.f; rw [if_pos (by omega)]
  cases h : takeL (bytes q) with
  | none =>
    have h1 : takeF q = (0, ⟨#[]⟩, 2) := by unfold takeF; rw [h]
    rw [h1] at hwf
    have HT := Lib.hid (wire_Take.calls q 0 ⟨#[]⟩ 2 w hwf)
    clear h1 hwf h hb
    go_enter Try.func58, Try.ntmps58
    go_wp2_with fail
    refine HT.out.mono ?_
    rintro e w' ⟨rfl, hb⟩
    have HB := Lib.hid hb
    clear hb
    go_wp2
    go_ret
    exact ⟨rfl, HB.out⟩
  | some x =>
    obtain ⟨n, r⟩ := x
    have h1 : takeF q = ((n : Int), ofBytes r, 0) := by unfold takeF; rw [h]
    rw [h1] at hwf
    have HT := Lib.hid (wire_Take.calls q n (ofBytes r) 0 w hwf)
    obtain ⟨h2, h3⟩ := take_inv h
    have hr : r.length ≤ q.size := by
      have := congrArg List.length h2
      rw [bytes_length, List.length_append] at this
      omega
    have hraw : s.extract 0 (s.size - r.length) = ofBytes (enc (.atom n)) := by
      apply bs_inj
      rw [bytes_to, bytes_ofBytes, hb, h2]
      have : s.size - r.length = (97 :: putL n).length := by
        have := congrArg List.length h2
        rw [bytes_length, List.length_append] at this
        simp only [List.length_cons]
        omega
      rw [this]
      show List.take _ ((97 :: putL n) ++ r) = _
      rw [List.take_left]
      rfl
    rw [hs] at hraw
    have HV : Hid (leafRes (Option.map (fun x => (T.atom x.1, x.2)) (some (n, r))) = .iface 78 (.agg #[.string (s.extract 0 (q.size + 1 - r.length)), .int .u64 n])) := by
      show leafRes (some (T.atom n, r)) = _
      unfold leafRes leafVal
      rw [hraw]
    rw [HV.out]
    have hz := size_ofBytes r
    generalize ofBytes r = q2 at *
    clear h1 hwf h h2 hraw HV hb
    go_enter Try.func58, Try.ntmps58
    go_wp2_with fail
    refine HT.out.mono ?_
    rintro e w' ⟨rfl, hb⟩
    have HB := Lib.hid hb
    clear hb
    go_wp2
    go_ret
    exact ⟨rfl, HB.out⟩

theorem leaf_text (s q : ByteArray) (c : Nat) (hc97 : ((c : Int) == 97) = false) (hs : s.size = q.size + 1) (hq : q.size ≤ 9223372036854774000) (hc : ∀ h : 0 < s.size, (s[0]'h).toNat = c) (hx : s.extract 1 (q.size + 1) = q) (hb : bytes s = 116 :: bytes q) (w : World) :
    Calls Try.prog 58 #[.string s] w fun e w' => e = .returned (leafRes ((takeT 4000 (bytes q)).map fun x => (.text x.1, x.2))) ∧ Below w.heap.size w w' := by
  have HT := Lib.hid (taketext_any q 4000 (by omega) (by omega) w)
  have HT2 : Hid (Calls Try.prog 64 #[.string q, .int .i64 4000] w fun e w' => e = .returned (.tuple #[.string (takeTextF 4000 q).1, .string (takeTextF 4000 q).2.1, .int .i64 (takeTextF 4000 q).2.2]) ∧ Below w.heap.size w w') := HT.out
  clear HT
  cases h : takeT 4000 (bytes q) with
  | none =>
    have h1 : ∃ e : Int, takeTextF 4000 q = (⟨#[]⟩, ⟨#[]⟩, e) ∧ (e == 0) = false := by
      unfold takeTextF
      unfold takeT at h
      cases h2 : takeL (bytes q) with
      | none => exact ⟨2, rfl, rfl⟩
      | some x =>
        obtain ⟨n, r⟩ := x
        rw [h2] at h
        simp only at h ⊢
        by_cases h3 : 4000 < n
        · exact ⟨10, by rw [if_pos h3], rfl⟩
        · rw [if_neg h3] at h
          by_cases h4 : r.length < n
          · exact ⟨2, by rw [if_neg h3, if_pos h4], rfl⟩
          · rw [if_neg h4] at h; simp at h
    obtain ⟨er, h1, h2⟩ := h1
    rw [h1] at HT2
    clear h1 h hb
    go_enter Try.func58, Try.ntmps58
    go_wp2_with fail
    refine HT2.out.mono ?_
    rintro e w' ⟨rfl, hb⟩
    have HB := Lib.hid hb
    clear hb
    go_wp2
    go_ret
    exact ⟨rfl, HB.out⟩
  | some x =>
    obtain ⟨tx, r⟩ := x
    have h1 : takeTextF 4000 q = (ofBytes tx, ofBytes r, 0) := by
      unfold takeTextF
      unfold takeT at h
      cases h2 : takeL (bytes q) with
      | none => rw [h2] at h; simp at h
      | some x =>
        obtain ⟨n, r2⟩ := x
        rw [h2] at h
        simp only at h ⊢
        by_cases h3 : 4000 < n
        · rw [if_pos h3] at h; simp at h
        · rw [if_neg h3] at h ⊢
          by_cases h4 : r2.length < n
          · rw [if_pos h4] at h; simp at h
          · rw [if_neg h4] at h ⊢
            simp only [Option.some.injEq, Prod.mk.injEq] at h
            obtain ⟨rfl, rfl⟩ := h
            rfl
    rw [h1] at HT2
    obtain ⟨h2, h3⟩ := takeT_inv h
    have hl := congrArg List.length h2
    rw [bytes_length, List.length_append] at hl
    have hr : r.length ≤ q.size := by omega
    have hraw : s.extract 0 (s.size - r.length) = ofBytes (enc (.text tx)) := by
      apply bs_inj
      rw [bytes_to, bytes_ofBytes, hb, h2]
      have : s.size - r.length = (116 :: putT tx).length := by
        simp only [List.length_cons]
        omega
      rw [this]
      show List.take _ ((116 :: putT tx) ++ r) = _
      rw [List.take_left]
      rfl
    rw [hs] at hraw
    have HV : Hid (leafRes (Option.map (fun x => (T.text x.1, x.2)) (some (tx, r))) = .iface 80 (.agg #[.string (s.extract 0 (q.size + 1 - r.length)), .string (ofBytes tx)])) := by
      show leafRes (some (T.text tx, r)) = _
      unfold leafRes leafVal
      rw [hraw]
    rw [HV.out]
    have hz := size_ofBytes r
    generalize ofBytes r = q2 at *
    generalize ofBytes tx = q3 at *
    clear h1 h h2 hl hraw HV hb
    go_enter Try.func58, Try.ntmps58
    go_wp2_with fail
    refine HT2.out.mono ?_
    rintro e w' ⟨rfl, hb⟩
    have HB := Lib.hid hb
    clear hb
    go_wp2
    go_ret
    exact ⟨rfl, HB.out⟩

end Go.Proofs.Ytpgbhgpjfjeomaa
