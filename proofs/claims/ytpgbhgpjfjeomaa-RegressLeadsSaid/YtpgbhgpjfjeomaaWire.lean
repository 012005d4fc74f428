/- The contract of wire.Take. -/
import Derived.Test.YtpgbhgpjfjeomaaProg
import Derived.Test.YtpgbhgpjfjeomaaBytes
import Derived.WalkKit
import Derived.WalkLawsBesides
import Derived.WalkSpells
import Derived.Below
import Derived.LoopTactic
import Derived.Lib.Hide
import Derived.Lib.ConvBytes
import Derived.RegionTactic
import Derived.Deep.QuietTactic
import Derived.BigQuiet
import Derived.Laws.Bits64b
namespace Go.Proofs.Ytpgbhgpjfjeomaa
open Go.RowKit
set_option linter.unusedVariables false

def wire_Take.f (a0 : ByteArray) : Option (Int × ByteArray × Int) := if a0.size ≤ 9223372036854775000 then some (takeF a0) else none

theorem take_nil (w : World) :
    Calls Try.prog 63 #[.string ⟨#[]⟩] w fun e w' => e = .returned (.tuple #[.int .u64 0, .string ⟨#[]⟩, .int .i64 2]) ∧ w = w' := by
  go_enter Try.func63, Try.ntmps63
  go_wp2
  go_ret3
  exact ⟨rfl, rfl⟩

theorem take_bad (s t : ByteArray) (c : Nat) (hc2 : c < 256) (hs : s.size = t.size + 1) (h1 : s.toList.isEmpty = false) (hr : t.size ≤ 9223372036854775000) (hc : ∀ h : 0 < s.size, (s[0]'h).toNat = c) (hx : s.extract 1 (t.size + 1) = t)
    (hbad : 8 < c ∨ t.size < c) (w : World) :
    Calls Try.prog 63 #[.string s] w fun e w' => e = .returned (.tuple #[.int .u64 0, .string ⟨#[]⟩, .int .i64 2]) ∧ w = w' := by
  by_cases h8 : 8 < c
  · clear hbad
    go_enter Try.func63, Try.ntmps63
    go_wp2
    go_ret3
    exact ⟨rfl, rfl⟩
  · have h9 : t.size < c := by omega
    clear hbad
    go_enter Try.func63, Try.ntmps63
    go_wp2
    go_ret3
    exact ⟨rfl, rfl⟩

theorem bytesWorld_below (w : World) (e : TypeId) (s : ByteArray) : Below w.heap.size w (Lib.bytesWorld w e s) :=
  ⟨rfl, rfl, rfl, by rw [Lib.bytesWorld_size]; omega, fun k hk => Lib.bytesWorld_at_old w e s k hk⟩

theorem or_shift (n b : Nat) (hn : n < 72057594037927936) (hb : b < 256) : bits BinOp.or IntKind.u64 (IntKind.u64.wrap ((n : Int) * 256)) (b : Int) = ((n * 256 + b : Nat) : Int) := by
  have h1 : IntKind.u64.wrap ((n : Int) * 256) = ((n * 256 : Nat) : Int) := by rw [IntKind.wrap_u64]; omega
  rw [h1, bits_or_u64_nat _ _ (by omega) (by omega)]
  have h2 : n * 256 ||| b = n * 256 + b := by
    have := Nat.shiftLeft_add_eq_or_of_lt (i := 8) (show b < 2 ^ 8 from hb) n
    rw [Nat.shiftLeft_eq] at this
    exact this.symm
  rw [h2]

theorem take_num (l : Bs) (k : Nat) (hk : k < l.length) (h8 : k < 8) : beNum (l.take k) < 72057594037927936 ∧ beNum (l.take (k + 1)) = beNum (l.take k) * 256 + (l[k]).toNat := by
  constructor
  · have h1 := beNum_lt (l.take k)
    have h2 : 256 ^ (l.take k).length ≤ 256 ^ 7 := Nat.pow_le_pow_right (by decide) (by rw [List.length_take]; omega)
    have h3 : (256 : Nat) ^ 7 = 72057594037927936 := by decide
    omega
  · rw [take_succ_get l k hk, beNum_snoc]

def takeRes (c d : Nat) (t : ByteArray) : Value := if 0 < c ∧ d = 0 then .tuple #[.int .u64 0, .string ⟨#[]⟩, .int .i64 2] else .tuple #[.int .u64 (beNum ((bytes t).take c) : Nat), .string (t.extract c t.size), .int .i64 0]

theorem below_drewN' {B : Nat} {w W : World} (h : Below B w W) (n : Nat) : Below B w (W.drewN n) := ⟨h.os, h.tape, h.output, h.size, h.block⟩

theorem take_loop (s t : ByteArray) (c : Nat) (hc2 : c ≤ 8) (hs : s.size = t.size + 1) (h1 : s.toList.isEmpty = false) (hr : t.size ≤ 9223372036854775000) (hc : ∀ h : 0 < s.size, (s[0]'h).toNat = c) (hx : s.extract 1 (t.size + 1) = t)
    (hgood : c ≤ t.size) (d : Nat) (hd : ∀ h : 0 < t.size, (t[0]'h).toNat = d) (w : World) :
    Calls Try.prog 63 #[.string s] w fun e w' => e = .returned (takeRes c d t) ∧ Below w.heap.size w w' := by
  have hcv := Lib.run_convert_string_bytes (P := Try.prog) w 9 68 5 (t.extract 0 c) Try.underlying9 Try.underlying68 Try.underlying5
  have hsz : (t.extract 0 c).size = c := by rw [ByteArray.size_extract]; omega
  go_enter Try.func63, Try.ntmps63
  go_wp2
  have HX := fun j hj => Lib.bytesWorld_cell w 5 (t.extract 0 c) j hj
  have HB := Lib.hid (bytesWorld_below w 5 (t.extract 0 c))
  rw [hsz] at HX
  have HY := Lib.hid HX
  clear HX hcv hsz hx hc
  obtain ⟨W, hW⟩ : ∃ W, Lib.bytesWorld w 5 (t.extract 0 c) = W := ⟨_, rfl⟩
  have HW := Lib.hid hW
  rw [hW] at HY HB ⊢
  clear hW
  go_loop [6, 29] (fun n i => ∃ k : Nat, k ≤ c ∧ i = .int .i64 k ∧ n = .int .u64 (beNum ((bytes t).take k) : Nat)) (fun _ i => c - (intOf i).toNat)
  case atStart => exact ⟨0, Nat.zero_le _, rfl, rfl⟩
  case round =>
    obtain ⟨k, hk, rfl, rfl⟩ := hrel
    by_cases hlt : k < c
    · have hb := HY.out k hlt
      have hkt : k < (bytes t).length := by rw [bytes_length]; omega
      have hval : (t.extract 0 c).data.toList.getD k 0 = (bytes t)[k] := by
        show (bytes (t.extract 0 c)).getD k 0 = _
        rw [bytes_to, List.getD_eq_getElem?_getD, List.getElem?_take_of_lt hlt, List.getElem?_eq_getElem hkt]
        rfl
      rw [hval] at hb
      have hbl := (bytes t)[k].toNat_lt
      have hsn := take_num (bytes t) k hkt (by omega)
      generalize hB : ((bytes t)[k]).toNat = b at hb hbl hsn
      generalize hN : beNum (List.take k (bytes t)) = N at hsn
      have Hs := Lib.hid hsn.1
      have Hs2 := Lib.hid hsn.2
      clear hsn hval hB hN
      have ho := or_shift N b Hs.out hbl
      go_wp2
      go_round
      case rel => exact ⟨k + 1, by omega, by go_num, by rw [Hs2.out]; go_num⟩
      case measure => simp [intOf]; omega
    · obtain rfl : k = c := by omega
      clear hlt
      by_cases h0 : 0 < k
      · have hd0 := hd (by omega)
        by_cases hz : d = 0
        · have Hz := Lib.hid hz
          have hz1 : ((d : Int) == 0) = true := by rw [beq_iff_eq]; omega
          clear hz
          go_wp2
          go_ret3
          exact ⟨by unfold takeRes; rw [if_pos ⟨h0, Hz.out⟩]; rfl, HB.out⟩
        · have Hz := Lib.hid hz
          have hz2 : ((d : Int) == 0) = false := by rw [beq_eq_false_iff_ne]; omega
          clear hz
          go_wp2
          go_quiet (fail)
          go_wp2
          go_ret3
          exact ⟨by unfold takeRes; rw [if_neg (fun h => Hz.out h.2)]; rfl, below_drewN' HB.out _⟩
      · obtain rfl : k = 0 := by omega
        go_wp2
        go_quiet (fail)
        go_wp2
        go_ret3
        exact ⟨by unfold takeRes; rw [if_neg (fun h => h0 h.1), show t.extract 0 t.size = t from by simp]; rfl, below_drewN' HB.out _⟩

theorem bytes_cons {s : ByteArray} {c : UInt8} {r : Bs} (h : bytes s = c :: r) : s.size = r.length + 1 ∧ s.toList.isEmpty = false ∧ (∀ h : 0 < s.size, (s[0]'h) = c) ∧ bytes (s.extract 1 s.size) = r := by
  have h1 : s.size = r.length + 1 := by rw [← bytes_length, h]; rfl
  refine ⟨h1, by rw [bytes_toList, h]; rfl, fun h0 => ?_, by rw [bytes_from, h]; rfl⟩
  have h2 : (bytes s)[0]'(by rw [h]; simp) = c := by simp [h]
  exact h2

theorem takeF_cons {s : ByteArray} {c : UInt8} {r : Bs} (h : bytes s = c :: r) (hc : c.toNat ≤ 8) (hr : c.toNat ≤ r.length) (d : UInt8) (hd : 0 < r.length → r.head? = some d) :
    takeRes c.toNat d.toNat (s.extract 1 s.size) = .tuple #[.int .u64 (takeF s).1, .string (takeF s).2.1, .int .i64 (takeF s).2.2] := by
  have hb := (bytes_cons h).2.2.2
  unfold takeF takeRes
  rw [h]
  simp only [takeL]
  rw [if_neg (show ¬ 8 < c.toNat by omega), if_neg (show ¬ r.length < c.toNat by omega)]
  by_cases h0 : 0 < c.toNat
  · rw [hd (by omega)]
    by_cases hz : d = 0
    · subst hz
      rw [if_pos ⟨h0, rfl⟩, if_pos ⟨h0, rfl⟩]
    · rw [if_neg (fun q => hz (UInt8.toNat_inj.1 q.2)), if_neg (fun q => hz (Option.some.inj q.2))]
      rw [hb]
      have h3 : (s.extract 1 s.size).extract c.toNat (s.extract 1 s.size).size = ofBytes (r.drop c.toNat) := bs_inj (by rw [bytes_from, hb, bytes_ofBytes])
      rw [h3]
  · rw [if_neg (fun q => h0 q.1), if_neg (fun q => h0 q.1), hb]
    have h3 : (s.extract 1 s.size).extract c.toNat (s.extract 1 s.size).size = ofBytes (r.drop c.toNat) := bs_inj (by rw [bytes_from, hb, bytes_ofBytes])
    rw [h3]

theorem wire_Take.calls (a0 : ByteArray) (r1 : Int) (r2 : ByteArray) (r3 : Int) (w : World) (h : wire_Take.f a0 = some (r1, r2, r3)) :
    Calls Try.prog 63 #[.string a0] w fun e w' => e = .returned (.tuple #[.int .u64 r1, .string r2, .int .i64 r3]) ∧ Below w.heap.size w w' := by
  unfold wire_Take.f at h
  split at h
  · rename_i hsz
    have h := Option.some.inj h
    cases hb : bytes a0 with
    | nil =>
      have ha : a0 = ⟨#[]⟩ := bs_inj (by rw [hb]; rfl)
      subst ha
      have hf : takeF ⟨#[]⟩ = (0, ⟨#[]⟩, 2) := rfl
      rw [hf] at h
      simp only [Prod.mk.injEq] at h
      obtain ⟨rfl, rfl, rfl⟩ := h
      refine (take_nil w).mono ?_
      rintro e w' ⟨rfl, rfl⟩
      exact ⟨rfl, Below.refl _ _⟩
    | cons c r =>
      obtain ⟨h1, h2, h3, h4⟩ := bytes_cons hb
      have h5 : (a0.extract 1 a0.size).size = r.length := by rw [← bytes_length, h4]
      have h6 : a0.size = (a0.extract 1 a0.size).size + 1 := by rw [h5, h1]
      have hc : ∀ q : 0 < a0.size, (a0[0]'q).toNat = c.toNat := fun q => by rw [h3 q]
      by_cases hbad : 8 < c.toNat ∨ r.length < c.toNat
      · have hf : takeF a0 = (0, ⟨#[]⟩, 2) := by
          unfold takeF
          rw [hb]
          simp only [takeL]
          by_cases q : 8 < c.toNat
          · rw [if_pos q]
          · rw [if_neg q, if_pos (by omega)]
        rw [hf] at h
        simp only [Prod.mk.injEq] at h
        obtain ⟨rfl, rfl, rfl⟩ := h
        refine (take_bad a0 (a0.extract 1 a0.size) c.toNat c.toNat_lt h6 h2 (by omega) hc (by rw [← h6]) (by rw [h5]; exact hbad) w).mono ?_
        rintro e w' ⟨rfl, rfl⟩
        exact ⟨rfl, Below.refl _ _⟩
      · obtain ⟨d, hd⟩ : ∃ d : UInt8, 0 < r.length → r.head? = some d := by
          cases r with
          | nil => exact ⟨0, fun q => absurd q (by simp)⟩
          | cons d r => exact ⟨d, fun _ => rfl⟩
        have hres := takeF_cons hb (by omega) (by omega) d hd
        refine (take_loop a0 (a0.extract 1 a0.size) c.toNat (by omega) h6 h2 (by omega) hc (by rw [← h6]) (by omega) d.toNat ?_ w).mono ?_
        · intro q
          have q2 : (bytes (a0.extract 1 a0.size))[0]? = some d := by rw [h4, ← List.head?_eq_getElem?]; exact hd (by omega)
          rw [List.getElem?_eq_getElem (by rw [h4]; omega)] at q2
          exact congrArg UInt8.toNat (Option.some.inj q2)
        · rintro e w' ⟨rfl, hB⟩
          rw [hres, h]
          exact ⟨rfl, hB⟩
  · exact absurd h (by simp)

end Go.Proofs.Ytpgbhgpjfjeomaa
