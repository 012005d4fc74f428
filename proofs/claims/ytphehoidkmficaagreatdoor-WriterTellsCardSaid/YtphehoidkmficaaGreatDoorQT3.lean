/- Contracts and laws that the statement of LawDataTells,LawWriterTells leans on (packed from this claim's own texts): part 3. -/
import Derived.Test.YtphehoidkmficaaGreatDoorProg
import Derived.WalkKit
import Derived.WalkLawsBesides
import Derived.WalkSpells
import Derived.Below
import Derived.LoopTactic
import Derived.Lib.Hide
import Derived.Lib.ConvBytes
import Derived.RegionTactic
import Derived.Deep.QuietTactic
import Derived.BigQuiet
import Derived.Laws.Bits64b
import Derived.OwnWalk
import Derived.Deep.RegionHeld3
import Derived.Deep.AppendLies
import Derived.Deep.RegionWith
import Derived.Deep.RegionLaw
import Derived.Deep.DeepCutAuto
import Derived.Outline
import Derived.OneCell
import Derived.Laws.Bits64
import Derived.Shelf.Strings.Builder1
import Derived.Shelf.Strings.Builder2
import Derived.Shelf.Strings.OnBuilder
import Derived.Shelf.Strings.BuilderF
import Derived.Shelf.Strings.BuilderK
import Derived.Shelf.Strings.Builder2Cap
import Derived.Shelf.Strconv.Itoa0
import Derived.Shelf.Strings.Search1
import Derived.Shelf.Strings.Search2
import Derived.Shelf.Strings.Cut
import Derived.Shelf.LaysM
import Derived.Shelf.Strings.Shaped
import Derived.Shelf.Strings.BuilderCap
import Derived.RowKit
import Derived.Shelf.Unicode.ValidAny
import Derived.Test.YtphehoidkmficaaGreatDoorQT1
import Derived.Test.YtphehoidkmficaaGreatDoorQT2
section

section
namespace Go.Proofs.YtphehoidkmficaaGreatDoor
open Go.RowKit
set_option linter.unusedVariables false
def wire_Take.f (a0 : ByteArray) : Option (Int × ByteArray × Int) := if a0.size ≤ 9223372036854775000 then some (takeF a0) else none
set_option maxRecDepth 100000 in
theorem take_nil (w : World) :
  Calls Tryz.prog 41 #[.string ⟨#[]⟩] w fun e w' => e = .returned (.tuple #[.int .u64 0, .string ⟨#[]⟩, .int .i64 2]) ∧ w = w' := by
 go_enter Tryz.func41, Tryz.ntmps41
 go_wp2
 go_ret3
 exact ⟨rfl, rfl⟩
set_option maxRecDepth 100000 in
theorem take_bad (s t : ByteArray) (c : Nat) (hc2 : c < 256) (hs : s.size = t.size + 1) (h1 : s.toList.isEmpty = false) (hr : t.size ≤ 9223372036854775000) (hc : ∀ h : 0 < s.size, (s[0]'h).toNat = c) (hx : s.extract 1 (t.size + 1) = t)
  (hbad : 8 < c ∨ t.size < c) (w : World) :
  Calls Tryz.prog 41 #[.string s] w fun e w' => e = .returned (.tuple #[.int .u64 0, .string ⟨#[]⟩, .int .i64 2]) ∧ w = w' := by
 by_cases h8 : 8 < c
 ·clear hbad
  go_enter Tryz.func41, Tryz.ntmps41
  go_wp2
  go_ret3
  exact ⟨rfl, rfl⟩
 ·have h9 : t.size < c := by omega
  clear hbad
  go_enter Tryz.func41, Tryz.ntmps41
  go_wp2
  go_ret3
  exact ⟨rfl, rfl⟩
theorem bytesWorld_below (w : World) (e : TypeId) (s : ByteArray) : Below w.heap.size w (Lib.bytesWorld w e s) :=
 ⟨rfl, rfl, rfl, by rw [Lib.bytesWorld_size]; omega, fun k hk => Lib.bytesWorld_at_old w e s k hk⟩
theorem or_shift (n b : Nat) (hn : n < 72057594037927936) (hb : b < 256) : bits BinOp.or IntKind.u64 (IntKind.u64.wrap ((n : Int) * 256)) (b : Int) = ((n * 256 + b : Nat) : Int) := by
 have h1 : IntKind.u64.wrap ((n : Int) * 256) = ((n * 256 : Nat) : Int) := by rw [IntKind.wrap_u64]; omega
 rw [h1, bits_or_u64_nat _ _ (by omega) (by omega)]
 have h2 : n * 256 ||| b = n * 256 + b := by
  have := Nat.shiftLeft_add_eq_or_of_lt (i := 8) (show b < 2 ^ 8 from hb) n
  rw [Nat.shiftLeft_eq] at this
  exact this.symm
 rw [h2]
theorem take_num (l : Bs) (k : Nat) (hk : k < l.length) (h8 : k < 8) : beNum (l.take k) < 72057594037927936 ∧ beNum (l.take (k + 1)) = beNum (l.take k) * 256 + (l[k]).toNat := by
 constructor
 ·have h1 := beNum_lt (l.take k)
  have h2 : 256 ^ (l.take k).length ≤ 256 ^ 7 := Nat.pow_le_pow_right (by decide) (by rw [List.length_take]; omega)
  have h3 : (256 : Nat) ^ 7 = 72057594037927936 := by decide
  omega
 ·rw [take_succ_get l k hk, beNum_snoc]
def takeRes (c d : Nat) (t : ByteArray) : Value := if 0 < c ∧ d = 0 then .tuple #[.int .u64 0, .string ⟨#[]⟩, .int .i64 2] else .tuple #[.int .u64 (beNum ((bytes t).take c) : Nat), .string (t.extract c t.size), .int .i64 0]
theorem below_drewN' {B : Nat} {w W : World} (h : Below B w W) (n : Nat) : Below B w (W.drewN n) := ⟨h.os, h.tape, h.output, h.size, h.block⟩
set_option maxRecDepth 100000 in
theorem take_loop (s t : ByteArray) (c : Nat) (hc2 : c ≤ 8) (hs : s.size = t.size + 1) (h1 : s.toList.isEmpty = false) (hr : t.size ≤ 9223372036854775000) (hc : ∀ h : 0 < s.size, (s[0]'h).toNat = c) (hx : s.extract 1 (t.size + 1) = t)
  (hgood : c ≤ t.size) (d : Nat) (hd : ∀ h : 0 < t.size, (t[0]'h).toNat = d) (w : World) :
  Calls Tryz.prog 41 #[.string s] w fun e w' => e = .returned (takeRes c d t) ∧ Below w.heap.size w w' := by
 have hcv := Lib.run_convert_string_bytes (P := Tryz.prog) w 9 101 5 (t.extract 0 c) Tryz.underlying9 Tryz.underlying101 Tryz.underlying5
 have hsz : (t.extract 0 c).size = c := by rw [ByteArray.size_extract]; omega
 go_enter Tryz.func41, Tryz.ntmps41
 go_wp2
 have HX := fun j hj => Lib.bytesWorld_cell w 5 (t.extract 0 c) j hj
 have HB := Lib.hid (bytesWorld_below w 5 (t.extract 0 c))
 rw [hsz] at HX
 have HY := Lib.hid HX
 clear HX hcv hsz hx hc
 obtain ⟨W, hW⟩ : ∃ W, Lib.bytesWorld w 5 (t.extract 0 c) = W := ⟨_, rfl⟩
 have HW := Lib.hid hW
 rw [hW] at HY HB ⊢
 clear hW
 go_loop [6, 29] (fun n i => ∃ k : Nat, k ≤ c ∧ i = .int .i64 k ∧ n = .int .u64 (beNum ((bytes t).take k) : Nat)) (fun _ i => c - (intOf i).toNat)
 case atStart => exact ⟨0, Nat.zero_le _, rfl, rfl⟩
 case round =>
  obtain ⟨k, hk, rfl, rfl⟩ := hrel
  by_cases hlt : k < c
  ·have hb := HY.out k hlt
   have hkt : k < (bytes t).length := by rw [bytes_length]; omega
   have hval : (t.extract 0 c).data.toList.getD k 0 = (bytes t)[k] := by
    show (bytes (t.extract 0 c)).getD k 0 = _
    rw [bytes_to, List.getD_eq_getElem?_getD, List.getElem?_take_of_lt hlt, List.getElem?_eq_getElem hkt]
    rfl
   rw [hval] at hb
   have hbl := (bytes t)[k].toNat_lt
   have hsn := take_num (bytes t) k hkt (by omega)
   generalize hB : ((bytes t)[k]).toNat = b at hb hbl hsn
   generalize hN : beNum (List.take k (bytes t)) = N at hsn
   have Hs := Lib.hid hsn.1
   have Hs2 := Lib.hid hsn.2
   clear hsn hval hB hN
   have ho := or_shift N b Hs.out hbl
   go_wp2
   go_round
   case rel => exact ⟨k + 1, by omega, by go_num, by rw [Hs2.out]; go_num⟩
   case measure => simp [intOf]; omega
  ·obtain rfl : k = c := by omega
   clear hlt
   by_cases h0 : 0 < k
   ·have hd0 := hd (by omega)
    by_cases hz : d = 0
    ·have Hz := Lib.hid hz
     have hz1 : ((d : Int) == 0) = true := by rw [beq_iff_eq]; omega
     clear hz
     go_wp2
     go_ret3
     exact ⟨by unfold takeRes; rw [if_pos ⟨h0, Hz.out⟩]; rfl, HB.out⟩
    ·have Hz := Lib.hid hz
     have hz2 : ((d : Int) == 0) = false := by rw [beq_eq_false_iff_ne]; omega
     clear hz
     go_wp2
     go_quiet (fail)
     go_wp2
     go_ret3
     exact ⟨by unfold takeRes; rw [if_neg (fun h => Hz.out h.2)]; rfl, below_drewN' HB.out _⟩
   ·obtain rfl : k = 0 := by omega
    go_wp2
    go_quiet (fail)
    go_wp2
    go_ret3
    exact ⟨by unfold takeRes; rw [if_neg (fun h => h0 h.1), show t.extract 0 t.size = t from by simp]; rfl, below_drewN' HB.out _⟩
theorem bytes_cons {s : ByteArray} {c : UInt8} {r : Bs} (h : bytes s = c :: r) : s.size = r.length + 1 ∧ s.toList.isEmpty = false ∧ (∀ h : 0 < s.size, (s[0]'h) = c) ∧ bytes (s.extract 1 s.size) = r := by
 have h1 : s.size = r.length + 1 := by rw [← bytes_length, h]; rfl
 refine ⟨h1, by rw [bytes_toList, h]; rfl, fun h0 => ?_, by rw [bytes_from, h]; rfl⟩
 have h2 : (bytes s)[0]'(by rw [h]; simp) = c := by simp [h]
 exact h2
theorem takeF_cons {s : ByteArray} {c : UInt8} {r : Bs} (h : bytes s = c :: r) (hc : c.toNat ≤ 8) (hr : c.toNat ≤ r.length) (d : UInt8) (hd : 0 < r.length → r.head? = some d) :
  takeRes c.toNat d.toNat (s.extract 1 s.size) = .tuple #[.int .u64 (takeF s).1, .string (takeF s).2.1, .int .i64 (takeF s).2.2] := by
 have hb := (bytes_cons h).2.2.2
 unfold takeF takeRes
 rw [h]
 simp only [takeL]
 rw [if_neg (show ¬ 8 < c.toNat by omega), if_neg (show ¬ r.length < c.toNat by omega)]
 by_cases h0 : 0 < c.toNat
 ·rw [hd (by omega)]
  by_cases hz : d = 0
  ·subst hz
   rw [if_pos ⟨h0, rfl⟩, if_pos ⟨h0, rfl⟩]
  ·rw [if_neg (fun q => hz (UInt8.toNat_inj.1 q.2)), if_neg (fun q => hz (Option.some.inj q.2))]
   rw [hb]
   have h3 : (s.extract 1 s.size).extract c.toNat (s.extract 1 s.size).size = ofBytes (r.drop c.toNat) := bs_inj (by rw [bytes_from, hb, bytes_ofBytes])
   rw [h3]
 ·rw [if_neg (fun q => h0 q.1), if_neg (fun q => h0 q.1), hb]
  have h3 : (s.extract 1 s.size).extract c.toNat (s.extract 1 s.size).size = ofBytes (r.drop c.toNat) := bs_inj (by rw [bytes_from, hb, bytes_ofBytes])
  rw [h3]
theorem wire_Take.calls (a0 : ByteArray) (r1 : Int) (r2 : ByteArray) (r3 : Int) (w : World) (h : wire_Take.f a0 = some (r1, r2, r3)) :
  Calls Tryz.prog 41 #[.string a0] w fun e w' => e = .returned (.tuple #[.int .u64 r1, .string r2, .int .i64 r3]) ∧ Below w.heap.size w w' := by
 unfold wire_Take.f at h
 split at h
 ·rename_i hsz
  have h := Option.some.inj h
  cases hb : bytes a0 with
  | nil =>
   have ha : a0 = ⟨#[]⟩ := bs_inj (by rw [hb]; rfl)
   subst ha
   have hf : takeF ⟨#[]⟩ = (0, ⟨#[]⟩, 2) := rfl
   rw [hf] at h
   simp only [Prod.mk.injEq] at h
   obtain ⟨rfl, rfl, rfl⟩ := h
   refine (take_nil w).mono ?_
   rintro e w' ⟨rfl, rfl⟩
   exact ⟨rfl, Below.refl _ _⟩
  | cons c r =>
   obtain ⟨h1, h2, h3, h4⟩ := bytes_cons hb
   have h5 : (a0.extract 1 a0.size).size = r.length := by rw [← bytes_length, h4]
   have h6 : a0.size = (a0.extract 1 a0.size).size + 1 := by rw [h5, h1]
   have hc : ∀ q : 0 < a0.size, (a0[0]'q).toNat = c.toNat := fun q => by rw [h3 q]
   by_cases hbad : 8 < c.toNat ∨ r.length < c.toNat
   ·have hf : takeF a0 = (0, ⟨#[]⟩, 2) := by
     unfold takeF
     rw [hb]
     simp only [takeL]
     by_cases q : 8 < c.toNat
     ·rw [if_pos q]
     ·rw [if_neg q, if_pos (by omega)]
    rw [hf] at h
    simp only [Prod.mk.injEq] at h
    obtain ⟨rfl, rfl, rfl⟩ := h
    refine (take_bad a0 (a0.extract 1 a0.size) c.toNat c.toNat_lt h6 h2 (by omega) hc (by rw [← h6]) (by rw [h5]; exact hbad) w).mono ?_
    rintro e w' ⟨rfl, rfl⟩
    exact ⟨rfl, Below.refl _ _⟩
   ·obtain ⟨d, hd⟩ : ∃ d : UInt8, 0 < r.length → r.head? = some d := by
     cases r with
     | nil => exact ⟨0, fun q => absurd q (by simp)⟩
     | cons d r => exact ⟨d, fun _ => rfl⟩
    have hres := takeF_cons hb (by omega) (by omega) d hd
    refine (take_loop a0 (a0.extract 1 a0.size) c.toNat (by omega) h6 h2 (by omega) hc (by rw [← h6]) (by omega) d.toNat ?_ w).mono ?_
    ·intro q
     have q2 : (bytes (a0.extract 1 a0.size))[0]? = some d := by rw [h4, ← List.head?_eq_getElem?]; exact hd (by omega)
     rw [List.getElem?_eq_getElem (by rw [h4]; omega)] at q2
     exact congrArg UInt8.toNat (Option.some.inj q2)
    ·rintro e w' ⟨rfl, hB⟩
     rw [hres, h]
     exact ⟨rfl, hB⟩
 ·exact absurd h (by simp)
end Go.Proofs.YtphehoidkmficaaGreatDoor
end
section
namespace Go.Proofs.YtphehoidkmficaaGreatDoor
open Go.RowKit
set_option linter.unusedVariables false
def takeTextF (most : Nat) (s : ByteArray) : ByteArray × ByteArray × Int :=
 match takeL (bytes s) with
 | none => (⟨#[]⟩, ⟨#[]⟩, 2)
 | some (n, r) => if most < n then (⟨#[]⟩, ⟨#[]⟩, 10) else if r.length < n then (⟨#[]⟩, ⟨#[]⟩, 2) else (ofBytes (r.take n), ofBytes (r.drop n), 0)
def limitedF (most : Nat) (s : ByteArray) : Int × ByteArray × Int :=
 match takeL (bytes s) with
 | none => (0, ⟨#[]⟩, 2)
 | some (n, r) => if most < n then (0, ⟨#[]⟩, 10) else (n, ofBytes r, 0)
set_option maxRecDepth 100000 in
theorem limited_any (s : ByteArray) (most : Nat) (hs : s.size ≤ 9223372036854775000) (hm : most ≤ 1000000) (w : World) :
  Calls Tryz.prog 92 #[.string s, .int .i64 most] w fun e w' => e = .returned (.tuple #[.int .i64 (limitedF most s).1, .string (limitedF most s).2.1, .int .i64 (limitedF most s).2.2]) ∧ Below w.heap.size w w' := by
 cases h : takeL (bytes s) with
 | none =>
  have h1 : takeF s = (0, ⟨#[]⟩, 2) := by unfold takeF; rw [h]
  have h2 : limitedF most s = (0, ⟨#[]⟩, 2) := by unfold limitedF; rw [h]
  rw [h2]
  have HT := Lib.hid (wire_Take.calls s 0 ⟨#[]⟩ 2 w (by unfold wire_Take.f; rw [if_pos hs, h1]))
  clear h1 h2 h
  go_enter Tryz.func92, Tryz.ntmps92
  go_wp2_with fail
  refine HT.out.mono ?_
  rintro e w' ⟨rfl, hb⟩
  have HB := Lib.hid hb
  clear hb
  go_wp2
  go_ret3
  exact ⟨rfl, HB.out⟩
 | some x =>
  obtain ⟨n, r⟩ := x
  have hn := (take_inv h).2
  have h1 : takeF s = ((n : Int), ofBytes r, 0) := by unfold takeF; rw [h]
  have HT := Lib.hid (wire_Take.calls s n (ofBytes r) 0 w (by unfold wire_Take.f; rw [if_pos hs, h1]))
  clear h1
  by_cases hbig : most < n
  ·have h2 : limitedF most s = (0, ⟨#[]⟩, 10) := by unfold limitedF; rw [h]; simp only; rw [if_pos hbig]
   rw [h2]
   clear h2 h
   go_enter Tryz.func92, Tryz.ntmps92
   go_wp2_with fail
   refine HT.out.mono ?_
   rintro e w' ⟨rfl, hb⟩
   have HB := Lib.hid hb
   clear hb
   go_wp2
   go_ret3
   exact ⟨rfl, HB.out⟩
  ·have h2 : limitedF most s = ((n : Int), ofBytes r, 0) := by unfold limitedF; rw [h]; simp only; rw [if_neg hbig]
   rw [h2]
   clear h2 h
   go_enter Tryz.func92, Tryz.ntmps92
   go_wp2_with fail
   refine HT.out.mono ?_
   rintro e w' ⟨rfl, hb⟩
   have HB := Lib.hid hb
   clear hb
   go_wp2
   go_ret3
   exact ⟨rfl, HB.out⟩
set_option maxRecDepth 100000 in
theorem taketext_any (s : ByteArray) (most : Nat) (hs : s.size ≤ 9223372036854775000) (hm : most ≤ 1000000) (w : World) :
  Calls Tryz.prog 93 #[.string s, .int .i64 most] w fun e w' => e = .returned (.tuple #[.string (takeTextF most s).1, .string (takeTextF most s).2.1, .int .i64 (takeTextF most s).2.2]) ∧ Below w.heap.size w w' := by
 have HL := Lib.hid (limited_any s most hs hm w)
 by_cases hbad : (limitedF most s).2.2 = 0
 ·cases h : takeL (bytes s) with
  | none => rw [show limitedF most s = (0, ⟨#[]⟩, 2) from by unfold limitedF; rw [h]] at hbad; simp at hbad
  | some x =>
   obtain ⟨n, r⟩ := x
   by_cases hbig : most < n
   ·rw [show limitedF most s = (0, ⟨#[]⟩, 10) from by unfold limitedF; rw [h]; simp only; rw [if_pos hbig]] at hbad; simp at hbad
   ·have hl : limitedF most s = ((n : Int), ofBytes r, 0) := by unfold limitedF; rw [h]; simp only; rw [if_neg hbig]
    rw [hl] at HL
    have hz := size_ofBytes r
    have hrn : r.length ≤ s.size := by
     have := (take_inv h).1
     have h3 := congrArg List.length this
     rw [bytes_length, List.length_append] at h3
     omega
    by_cases hlen : r.length < n
    ·have h2 : takeTextF most s = (⟨#[]⟩, ⟨#[]⟩, 2) := by unfold takeTextF; rw [h]; simp only; rw [if_neg hbig, if_pos hlen]
     rw [h2]
     clear h2 h hl hbad
     go_enter Tryz.func93, Tryz.ntmps93
     go_wp2_with fail
     refine HL.out.mono ?_
     rintro e w' ⟨rfl, hb⟩
     have HB := Lib.hid hb
     clear hb
     go_wp2
     go_ret3
     exact ⟨rfl, HB.out⟩
    ·have h2 : takeTextF most s = (ofBytes (r.take n), ofBytes (r.drop n), 0) := by unfold takeTextF; rw [h]; simp only; rw [if_neg hbig, if_neg hlen]
     have e1 : (ofBytes r).extract 0 n = ofBytes (r.take n) := bs_inj (by rw [bytes_to, bytes_ofBytes, bytes_ofBytes])
     have e2 : (ofBytes r).extract n (ofBytes r).size = ofBytes (r.drop n) := bs_inj (by rw [bytes_from, bytes_ofBytes, bytes_ofBytes])
     rw [h2, ← e1, ← e2]
     clear h2 h hl hbad e1 e2
     generalize ofBytes r = q at *
     go_enter Tryz.func93, Tryz.ntmps93
     go_wp2_with fail
     refine HL.out.mono ?_
     rintro e w' ⟨rfl, hb⟩
     have HB := Lib.hid hb
     clear hb
     go_wp2
     go_quiet (fail)
     go_wp2
     go_ret3
     exact ⟨by rw [hz]; rfl, below_drewN' HB.out _⟩
 ·have h2 : takeTextF most s = (⟨#[]⟩, ⟨#[]⟩, (limitedF most s).2.2) := by
   unfold takeTextF limitedF
   cases h : takeL (bytes s) with
   | none => rfl
   | some x =>
    obtain ⟨n, r⟩ := x
    simp only
    by_cases hbig : most < n
    ·rw [if_pos hbig, if_pos hbig]
    ·exfalso
     apply hbad
     unfold limitedF
     rw [h]
     simp only
     rw [if_neg hbig]
  rw [h2]
  clear h2
  generalize limitedF most s = q at *
  obtain ⟨q1, q2, q3⟩ := q
  have hb : (q3 == 0) = false := by rw [beq_eq_false_iff_ne]; exact hbad
  clear hbad
  go_enter Tryz.func93, Tryz.ntmps93
  go_wp2_with fail
  refine HL.out.mono ?_
  rintro e w' ⟨rfl, hb⟩
  have HB := Lib.hid hb
  clear hb
  go_wp2
  go_ret3
  exact ⟨rfl, HB.out⟩
end Go.Proofs.YtphehoidkmficaaGreatDoor
end
section
namespace Go.Proofs.YtphehoidkmficaaGreatDoor
open Go.RowKit
set_option linter.unusedVariables false
def wire_limited.f (a0 : ByteArray) (a1 : Int) : Option (Int × ByteArray × Int) := if a0.size ≤ 9223372036854775000 ∧ 0 ≤ a1 ∧ a1 ≤ 1000000 then some (limitedF a1.toNat a0) else none
theorem wire_limited.calls (a0 : ByteArray) (a1 : Int) (r1 : Int) (r2 : ByteArray) (r3 : Int) (w : World) (h : wire_limited.f a0 a1 = some (r1, r2, r3)) :
  Calls Tryz.prog 92 #[.string a0, .int .i64 a1] w fun e w' => e = .returned (.tuple #[.int .i64 r1, .string r2, .int .i64 r3]) ∧ Below w.heap.size w w' := by
 unfold wire_limited.f at h
 split at h
 ·rename_i hs
  obtain ⟨n, rfl⟩ := Int.eq_ofNat_of_zero_le hs.2.1
  have h := Option.some.inj h
  rw [Int.toNat_natCast] at h
  have H := limited_any a0 n hs.1 (by omega) w
  rw [h] at H
  exact H
 ·exact absurd h (by simp)
def wire_TakeText.f (a0 : ByteArray) (a1 : Int) : Option (ByteArray × ByteArray × Int) := if a0.size ≤ 9223372036854775000 ∧ 0 ≤ a1 ∧ a1 ≤ 1000000 then some (takeTextF a1.toNat a0) else none
theorem wire_TakeText.calls (a0 : ByteArray) (a1 : Int) (r1 : ByteArray) (r2 : ByteArray) (r3 : Int) (w : World) (h : wire_TakeText.f a0 a1 = some (r1, r2, r3)) :
  Calls Tryz.prog 93 #[.string a0, .int .i64 a1] w fun e w' => e = .returned (.tuple #[.string r1, .string r2, .int .i64 r3]) ∧ Below w.heap.size w w' := by
 unfold wire_TakeText.f at h
 split at h
 ·rename_i hs
  obtain ⟨n, rfl⟩ := Int.eq_ofNat_of_zero_le hs.2.1
  have h := Option.some.inj h
  rw [Int.toNat_natCast] at h
  have H := taketext_any a0 n hs.1 (by omega) w
  rw [h] at H
  exact H
 ·exact absurd h (by simp)
end Go.Proofs.YtphehoidkmficaaGreatDoor
end
end
section

namespace Go.Proofs.YtphehoidkmficaaGreatDoor
open Go.RowKit
structure Moved (S : Nat → Prop) (w w' : World) : Prop where
 os : w'.os = w.os
 tape : w'.tape = w.tape
 output : w'.output = w.output
 size : w.heap.size ≤ w'.heap.size
 block : ∀ k, k < w.heap.size → ¬ S k → w'.heap[k]? = w.heap[k]?
theorem Moved.refl (S : Nat → Prop) (w : World) : Moved S w w := ⟨rfl, rfl, rfl, Nat.le_refl _, fun _ _ _ => rfl⟩
theorem Moved.trans {S : Nat → Prop} {a b c : World} (h : Moved S a b) (k : Moved S b c) : Moved S a c :=
 ⟨k.os.trans h.os, k.tape.trans h.tape, k.output.trans h.output, Nat.le_trans h.size k.size, fun i hi hs => (k.block i (Nat.lt_of_lt_of_le hi h.size) hs).trans (h.block i hi hs)⟩
theorem Moved.mono {S T : Nat → Prop} {a b : World} (h : Moved S a b) (hst : ∀ k, S k → T k) : Moved T a b :=
 ⟨h.os, h.tape, h.output, h.size, fun i hi hs => h.block i hi (fun q => hs (hst _ q))⟩
theorem Moved.of_below {S : Nat → Prop} {w w' : World} (h : Below w.heap.size w w') : Moved S w w' := ⟨h.os, h.tape, h.output, h.size, fun k hk _ => h.block k hk⟩
theorem Moved.setCell {S : Nat → Prop} (w : World) {a : Addr} (ha : S a.block) (u : Value) : Moved S w (w.setCell a u) :=
 ⟨rfl, rfl, rfl, by simp [World.setCell], fun k _ hs => Below.heap_setCell _ _ _ _ (fun e => hs (by rw [e]; exact ha))⟩
theorem Moved.alloc {S : Nat → Prop} (w : World) (o : Obj) : Moved S w (w.alloc o) :=
 ⟨rfl, rfl, rfl, by simp, fun k hk _ => Below.heap_alloc _ _ _ hk⟩
theorem Moved.below {S : Nat → Prop} {B : Nat} {a w w' : World} (hb : Below B a w) (h : Moved S w w') (hB : B ≤ w.heap.size) (hs : ∀ k, S k → B ≤ k) : Below B a w' :=
 hb.trans ⟨h.os, h.tape, h.output, h.size, fun k hk => h.block k (by omega) (fun q => by have := hs k q; omega)⟩
theorem cell_of_blk {w : World} {b j : Nat} {c : Array Value} {t : TypeId} {f : Nat × Nat} {v : Value} (h : w.heap[b]? = some (.cells c t f)) (hv : c[j]? = some v) : w.cell? ⟨b, j, none⟩ = some v := by simp [World.cell?, h, hv]
theorem free_of_blk {w : World} {b j : Nat} {c : Array Value} {t : TypeId} (h : w.heap[b]? = some (.cells c t (0, 0))) : w.frozen? ⟨b, j, none⟩ = false := by simp [World.frozen?, h]
theorem blk_setCell {w : World} {b j : Nat} {c : Array Value} {t : TypeId} {f : Nat × Nat} {u : Value} (h : w.heap[b]? = some (.cells c t f)) : (w.setCell ⟨b, j, none⟩ u).heap[b]? = some (.cells (c.setIfInBounds j u) t f) := by
 have hlt := lt_of_block h
 have h' : w.heap[b] = .cells c t f := by simpa [Array.getElem?_eq_getElem hlt] using h
 show (w.heap.modify b _)[b]? = _
 rw [Array.getElem?_eq_getElem (by simpa using hlt), Array.getElem_modify_self, h']
 rfl
end Go.Proofs.YtphehoidkmficaaGreatDoor
end
section

namespace Go.Proofs
open Go.Shelf
def Tryz.lays156_ren : Go.Shelf.Ren := ⟨fun | 156 => 116 | 165 => 124 | 166 => 125 | 169 => 126 | 240 => 133 | 241 => 134 | 276 => 140 | 277 => 141 | n => n, fun | 31 => 24 | 9 => 9 | 3 => 3 | 4 => 4 | 0 => 0 | 20 => 20 | 72 => 136 | 76 => 140 | 70 => 134 | 37 => 101 | 75 => 139 | 127 => 154 | 164 => 160 | 5 => 5 | 80 => 129 | n => n, fun | n => n⟩
theorem Tryz.lays156 : Go.Proofs.Lays.n156 Tryz.prog Tryz.lays156_ren := {
 mixed := by kernel_rfl
 f156 := Tryz.func116.trans (congrArg some (by kernel_rfl))
 f165 := Tryz.func124.trans (congrArg some (by kernel_rfl))
 f166 := Tryz.func125.trans (congrArg some (by kernel_rfl))
 f169 := Tryz.func126.trans (congrArg some (by kernel_rfl))
 f240 := Tryz.func133.trans (congrArg some (by kernel_rfl))
 f241 := Tryz.func134.trans (congrArg some (by kernel_rfl))
 f276 := Tryz.func140.trans (congrArg some (by kernel_rfl))
 f277 := Tryz.func141.trans (congrArg some (by kernel_rfl))
 t0 := Tryz.underlying0
 a0 := Tryz.isAgg0
 z0 := Tryz.sizeOf0
 v0 := Tryz.zeroValue0
 t3 := Tryz.underlying3
 a3 := Tryz.isAgg3
 z3 := Tryz.sizeOf3
 v3 := Tryz.zeroValue3
 t4 := Tryz.underlying4
 a4 := Tryz.isAgg4
 z4 := Tryz.sizeOf4
 v4 := Tryz.zeroValue4
 t9 := Tryz.underlying9
 a9 := Tryz.isAgg9
 z9 := Tryz.sizeOf9
 v9 := Tryz.zeroValue9
 t20 := Tryz.underlying20
 a20 := Tryz.isAgg20
 z20 := Tryz.sizeOf20
 v20 := Tryz.zeroValue20
 t31 := Tryz.underlying24
 a31 := Tryz.isAgg24
 z31 := Tryz.sizeOf24
 v31 := Tryz.zeroValue24
 t37 := Tryz.underlying101
 a37 := Tryz.isAgg101
 z37 := Tryz.sizeOf101
 v37 := Tryz.zeroValue101
 t70 := Tryz.underlying134
 a70 := Tryz.isAgg134
 z70 := Tryz.sizeOf134
 v70 := Tryz.zeroValue134
 t72 := Tryz.underlying136
 a72 := Tryz.isAgg136
 z72 := Tryz.sizeOf136
 v72 := Tryz.zeroValue136
 t75 := Tryz.underlying139
 a75 := Tryz.isAgg139
 z75 := Tryz.sizeOf139
 v75 := Tryz.zeroValue139
 t76 := Tryz.underlying140
 a76 := Tryz.isAgg140
 z76 := Tryz.sizeOf140
 v76 := Tryz.zeroValue140
 t127 := Tryz.underlying154
 a127 := Tryz.isAgg154
 z127 := Tryz.sizeOf154
 v127 := Tryz.zeroValue154
 t164 := Tryz.underlying160
 a164 := Tryz.isAgg160
 z164 := Tryz.sizeOf160
 v164 := Tryz.zeroValue160 }
theorem Tryz.Builder_Extra_156 : Builder.Extra Tryz.prog Tryz.lays156_ren := {
 sizeBuilder := by kernel_rfl
 liesBuilder := by kernel_rfl
 t5 := Tryz.underlying5
 a5 := Tryz.isAgg5
 z5 := Tryz.sizeOf5
 v5 := Tryz.zeroValue5
 infoByte := by kernel_rfl
 cellsByte := by kernel_rfl
 sizeByte := by kernel_rfl
 neB5 := by decide }
open Go.RowKit in
theorem Tryz.strings_Join_none (a : Option Addr) (c : Nat) (sep : ByteArray) (w : World) :
  Calls Tryz.prog 116 #[.slice a 0 c, .string sep] w fun e w' => e = .returned (.string ⟨#[]⟩) ∧ w' = w := Any.strings_Join_none Tryz.lays156 Tryz.Builder_Extra_156 a c sep w
open Go.RowKit in
theorem Tryz.strings_Join (bk o c : Nat) (xs : List ByteArray) (sep : ByteArray) (w : World) (hcells : ∀ (j : Nat) x, xs[j]? = some x → w.cell? ⟨bk, o + j, none⟩ = some (.string x)) (hbk : bk < w.heap.size) (hN : xs.length ≤ 140737488355328) (hcap : xs.length ≤ c) (hlen : (Lib.join (xs.map (·.data.toList)) sep.data.toList).length ≤ 140737488355328) :
  Calls Tryz.prog 116 #[.slice (some ⟨bk, o, none⟩) xs.length c, .string sep] w fun e w' => e = .returned (.string ⟨(Lib.join (xs.map (·.data.toList)) sep.data.toList).toArray⟩) ∧ Below w.heap.size w w' := Any.strings_Join Tryz.lays156 Tryz.Builder_Extra_156 bk o c xs sep w hcells hbk hN hcap hlen
def Tryz.lays129_ren : Go.Shelf.Ren := ⟨fun | 129 => 90 | n => n, fun | 53 => 64 | 3 => 3 | 4 => 4 | 46 => 102 | 5 => 5 | 9 => 9 | n => n, fun | n => n⟩
theorem Tryz.lays129 : Go.Proofs.Lays.n129 Tryz.prog Tryz.lays129_ren := {
 mixed := by kernel_rfl
 f129 := Tryz.func90.trans (congrArg some (by kernel_rfl))
 t3 := Tryz.underlying3
 a3 := Tryz.isAgg3
 z3 := Tryz.sizeOf3
 v3 := Tryz.zeroValue3
 t4 := Tryz.underlying4
 a4 := Tryz.isAgg4
 z4 := Tryz.sizeOf4
 v4 := Tryz.zeroValue4
 t5 := Tryz.underlying5
 a5 := Tryz.isAgg5
 z5 := Tryz.sizeOf5
 v5 := Tryz.zeroValue5
 t9 := Tryz.underlying9
 a9 := Tryz.isAgg9
 z9 := Tryz.sizeOf9
 v9 := Tryz.zeroValue9
 t46 := Tryz.underlying102
 a46 := Tryz.isAgg102
 z46 := Tryz.sizeOf102
 v46 := Tryz.zeroValue102
 t53 := Tryz.underlying64
 a53 := Tryz.isAgg64
 z53 := Tryz.sizeOf64
 v53 := Tryz.zeroValue64 }
theorem Tryz.bits_Len64 (x : Int) (w : World) (h0 : 0 ≤ x) (h1 : x ≤ 18446744073709551615) :
  Calls Tryz.prog 90 #[.int .u64 x] w fun e w' => e = .returned (.int .i64 (Lib.bitLen x.toNat)) ∧ w' = w := Any.bits_Len64 Tryz.lays129 x w h0 h1
def Tryz.lays145_ren : Go.Shelf.Ren := ⟨fun | 145 => 95 | 220 => 117 | 219 => 127 | 217 => 135 | 225 => 136 | 224 => 137 | 267 => 138 | 266 => 142 | 314 => 143 | n => n, fun | 9 => 9 | 4 => 4 | 59 => 86 | 3 => 3 | 5 => 5 | 46 => 102 | 146 => 164 | 51 => 163 | n => n, fun | 1 => 2 | n => n⟩
theorem Tryz.lays145 : Go.Proofs.Lays.n145 Tryz.prog Tryz.lays145_ren := {
 mixed := by kernel_rfl
 f145 := Tryz.func95.trans (congrArg some (by kernel_rfl))
 f217 := Tryz.func135.trans (congrArg some (by kernel_rfl))
 f219 := Tryz.func127.trans (congrArg some (by kernel_rfl))
 f220 := Tryz.func117.trans (congrArg some (by kernel_rfl))
 f224 := Tryz.func137.trans (congrArg some (by kernel_rfl))
 f225 := Tryz.func136.trans (congrArg some (by kernel_rfl))
 f266 := Tryz.func142.trans (congrArg some (by kernel_rfl))
 f267 := Tryz.func138.trans (congrArg some (by kernel_rfl))
 f314 := Tryz.func143.trans (congrArg some (by kernel_rfl))
 t3 := Tryz.underlying3
 a3 := Tryz.isAgg3
 z3 := Tryz.sizeOf3
 v3 := Tryz.zeroValue3
 t4 := Tryz.underlying4
 a4 := Tryz.isAgg4
 z4 := Tryz.sizeOf4
 v4 := Tryz.zeroValue4
 t5 := Tryz.underlying5
 a5 := Tryz.isAgg5
 z5 := Tryz.sizeOf5
 v5 := Tryz.zeroValue5
 t9 := Tryz.underlying9
 a9 := Tryz.isAgg9
 z9 := Tryz.sizeOf9
 v9 := Tryz.zeroValue9
 t46 := Tryz.underlying102
 a46 := Tryz.isAgg102
 z46 := Tryz.sizeOf102
 v46 := Tryz.zeroValue102
 t51 := Tryz.underlying163
 a51 := Tryz.isAgg163
 z51 := Tryz.sizeOf163
 v51 := Tryz.zeroValue163
 t59 := Tryz.underlying86
 a59 := Tryz.isAgg86
 z59 := Tryz.sizeOf86
 v59 := Tryz.zeroValue86
 t146 := Tryz.underlying164
 a146 := Tryz.isAgg164
 z146 := Tryz.sizeOf164
 v146 := Tryz.zeroValue164
 g1 := by kernel_rfl }
open Go.RowKit Go.Lib in
theorem Tryz.strings_Cut (s sep : ByteArray) (m : Int) (w : World) (hs : s.size < 4294967281) (hm : w.cell? ⟨2, 0, none⟩ = some (.int .i64 m)) :
  Calls Tryz.prog 95 #[.string s, .string sep] w fun e w' => e = .returned (.tuple #[.string ⟨(Lib.cut s.data.toList sep.data.toList).1.toArray⟩, .string ⟨(Lib.cut s.data.toList sep.data.toList).2.1.toArray⟩, .bool (Lib.cut s.data.toList sep.data.toList).2.2]) ∧ ∃ n, w' = w.drewN n := Any.strings_Cut Tryz.lays145 s sep m w hs hm
end Go.Proofs
end
section

namespace Go.Proofs.YtphehoidkmficaaGreatDoor
open Go.RowKit Go.Proofs.YtphehoidkmficaaGreatDoorW.PrintWords
set_option linter.unusedVariables false
def joinB (l : List ByteArray) : ByteArray := ofBytes (l.flatMap bytes)
def wire_join.f (l0 : List ByteArray) : Option ByteArray :=
 if l0.length ≤ 140737488355328 ∧ (joinB l0).size ≤ 140737488355328 then some (joinB l0) else none
theorem join_flat (l : List ByteArray) : Lib.join (l.map (·.data.toList)) (⟨#[]⟩ : ByteArray).data.toList = l.flatMap bytes := by
 cases l with
 | nil => rfl
 | cons x l =>
  rw [List.map_cons, Lib.join_cons]
  have h : (⟨#[]⟩ : ByteArray).data.toList = [] := rfl
  rw [h]
  unfold Lib.joinTail
  rw [List.flatMap_cons, List.flatMap_def, List.map_map]
  show _ = x.data.toList ++ _
  congr 2
theorem add_at (b o j : Nat) : (⟨b, o, none⟩ : Addr).add j = ⟨b, o + j, none⟩ := by
 unfold Addr.add
 split <;> simp_all
theorem pw_cell_below' {w w1 : World} (h : Below w.heap.size w w1) {a : Addr} {v : Value} (hc : w.cell? a = some v) : w1.cell? a = some v := (h.cell (World.block_lt_of_cell? w a hc)).trans hc
theorem spot_none {w : World} {b o : Nat} {sp : Option Nat} {v : Value} (h : w.cell? ⟨b, o, sp⟩ = some v) : sp = none := by
 unfold World.cell? at h
 split at h
 ·cases sp with
  | none => rfl
  | some x => simp at h
 ·exact absurd h (by simp)
theorem join_any (A : Option Addr) (c : Nat) (l : List ByteArray) (w : World) (hr : Kd.C Kd.string w A l.length l) (hc : l.length ≤ c) (h1 : l.length ≤ 140737488355328) (h2 : (joinB l).size ≤ 140737488355328) :
  Calls Tryz.prog 116 #[.slice A l.length c, .string ⟨#[]⟩] w fun e w' => e = .returned (.string (joinB l)) ∧ Below w.heap.size w w' := by
 rcases Nat.eq_zero_or_pos l.length with h0 | h0
 ·obtain rfl : l = [] := List.eq_nil_of_length_eq_zero h0
  refine (Tryz.strings_Join_none A c _ w).mono ?_
  rintro e w' ⟨rfl, rfl⟩
  exact ⟨rfl, Below.refl _ _⟩
 ·obtain ⟨ad, rfl, hcells⟩ := hr.2.2 h0
  obtain ⟨b, o, sp⟩ := ad
  have hcell : ∀ (j : Nat) x, l[j]? = some x → w.cell? ((⟨b, o, sp⟩ : Addr).add j) = some (.string x) := by
   intro j x hx
   obtain ⟨cs, hl, rfl, hz⟩ := hcells j x hx
   have := hz 0 (.string x) rfl
   rwa [show j * Kd.string.sz + 0 = j from by simp [Kd.string, Kd.scalar]] at this
  have hsp : sp = none := by
   have := hcell 0 l[0] (List.getElem?_eq_getElem h0)
   rw [show (⟨b, o, sp⟩ : Addr).add 0 = ⟨b, o, sp⟩ from rfl] at this
   exact spot_none this
  subst hsp
  have h3 := Tryz.strings_Join b o c l (⟨#[]⟩ : ByteArray) w ?_ ?_ h1 hc ?_
  ·rw [join_flat] at h3
   exact h3
  ·intro j x hx
   have := hcell j x hx
   rwa [add_at] at this
  ·have := hcell 0 l[0] (List.getElem?_eq_getElem h0)
   rw [add_at] at this
   exact World.block_lt_of_cell? w _ this
  ·rw [join_flat]
   rwa [joinB, size_ofBytes] at h2
theorem wire_join.calls (A0 : Option Addr) (c0 : Nat) (l0 : List ByteArray) (r : ByteArray) (w : World) (hr0 : Kd.C Kd.string w A0 l0.length l0) (hc0 : l0.length ≤ c0) (h : wire_join.f l0 = some r) :
  Calls Tryz.prog 89 #[.slice A0 l0.length c0] w fun e w' => e = .returned (.string r) ∧ Below w.heap.size w w' := by
 unfold wire_join.f at h
 split at h
 ·rename_i hsz
  obtain ⟨h1, h2⟩ := hsz
  obtain rfl := Option.some.inj h
  have H := Lib.hid (join_any A0 c0 l0 w hr0 hc0 h1 h2)
  clear hr0 hc0 h h1 h2
  go_enter Tryz.func89, Tryz.ntmps89
  go_wp2_with fail
  refine (H.out).mono ?_
  rintro e w' ⟨rfl, hb⟩
  have HB := Lib.hid hb
  clear hb
  go_wp2
  go_ret
  exact ⟨rfl, HB.out⟩
 ·exact absurd h (by simp)
end Go.Proofs.YtphehoidkmficaaGreatDoor
end
section

namespace Go.Proofs.YtphehoidkmficaaGreatDoor
open Go.RowKit Go.Proofs.YtphehoidkmficaaGreatDoorW.PrintWords
set_option linter.unusedVariables false
def bits_Len64.f (a0 : Int) : Option Int := if 0 ≤ a0 ∧ a0 ≤ 18446744073709551615 then some (Lib.bitLen a0.toNat) else none
theorem bits_Len64.calls (a0 : Int) (r : Int) (w : World) (h : bits_Len64.f a0 = some r) :
  Calls Tryz.prog 90 #[.int .u64 a0] w fun e w' => e = .returned (.int .i64 r) ∧ Drawn0 w w' := by
 unfold bits_Len64.f at h
 split at h
 ·rename_i hs
  obtain rfl := Option.some.inj h
  refine (Tryz.bits_Len64 a0 w hs.1 hs.2).mono ?_
  rintro e w' ⟨rfl, rfl⟩
  exact ⟨rfl, Drawn0.refl _⟩
 ·exact absurd h (by simp)
end Go.Proofs.YtphehoidkmficaaGreatDoor
end
section

namespace Go.Proofs
open Go.Shelf Go.RowKit
def Tryz.lays196_ren : Go.Shelf.Ren := ⟨fun | 196 => 118 | 259 => 128 | n => n, fun | 12 => 12 | 46 => 102 | 53 => 64 | 119 => 144 | 138 => 146 | 139 => 147 | n => n, fun | 3 => 0 | 4 => 1 | n => n⟩
theorem Tryz.lays196 : Go.Proofs.Lays.n196 Tryz.prog Tryz.lays196_ren := {
 mixed := by kernel_rfl
 f196 := Tryz.func118.trans (congrArg some (by kernel_rfl))
 f259 := Tryz.func128.trans (congrArg some (by kernel_rfl))
 t0 := Tryz.underlying0
 a0 := Tryz.isAgg0
 z0 := Tryz.sizeOf0
 v0 := Tryz.zeroValue0
 t3 := Tryz.underlying3
 a3 := Tryz.isAgg3
 z3 := Tryz.sizeOf3
 v3 := Tryz.zeroValue3
 t4 := Tryz.underlying4
 a4 := Tryz.isAgg4
 z4 := Tryz.sizeOf4
 v4 := Tryz.zeroValue4
 t5 := Tryz.underlying5
 a5 := Tryz.isAgg5
 z5 := Tryz.sizeOf5
 v5 := Tryz.zeroValue5
 t9 := Tryz.underlying9
 a9 := Tryz.isAgg9
 z9 := Tryz.sizeOf9
 v9 := Tryz.zeroValue9
 t12 := Tryz.underlying12
 a12 := Tryz.isAgg12
 z12 := Tryz.sizeOf12
 v12 := Tryz.zeroValue12
 t46 := Tryz.underlying102
 a46 := Tryz.isAgg102
 z46 := Tryz.sizeOf102
 v46 := Tryz.zeroValue102
 t53 := Tryz.underlying64
 a53 := Tryz.isAgg64
 z53 := Tryz.sizeOf64
 v53 := Tryz.zeroValue64
 t119 := Tryz.underlying144
 a119 := Tryz.isAgg144
 z119 := Tryz.sizeOf144
 t138 := Tryz.underlying146
 a138 := Tryz.isAgg146
 z138 := Tryz.sizeOf146
 v138 := Tryz.zeroValue146
 t139 := Tryz.underlying147
 a139 := Tryz.isAgg147
 z139 := Tryz.sizeOf147
 v139 := Tryz.zeroValue147
 g3 := by kernel_rfl
 g4 := by kernel_rfl }
theorem Tryz.ValidString (s : ByteArray) (w : World) (hs : s.size ≤ 9223372036854775807) (hT : Lib.Utf8Tabs 0 1 w) :
  Calls Tryz.prog 118 #[.string s] w fun e w' => e = .returned (.bool (Lib.validD s.data.toList)) ∧ Below w.heap.size w w' := Any.utf8_ValidString Tryz.lays196 s w hs hT
end Go.Proofs
end
