/- Contracts and laws that the statement of LawDataHides leans on (packed from this claim's own texts): part 3. -/
import Derived.Test.YtlhoahbpklhpmaaGreatDoorProg
import Derived.WalkKit
import Derived.WalkLawsBesides
import Derived.WalkSpells
import Derived.Below
import Derived.LoopTactic
import Derived.Lib.Hide
import Derived.Lib.ConvBytes
import Derived.RegionTactic
import Derived.Deep.QuietTactic
import Derived.BigQuiet
import Derived.Laws.Bits64b
import Derived.OwnWalk
import Derived.Deep.RegionHeld3
import Derived.Deep.AppendLies
import Derived.Deep.RegionWith
import Derived.Deep.RegionLaw
import Derived.Deep.DeepCutAuto
import Derived.Outline
import Derived.OneCell
import Derived.Laws.Bits64
import Derived.Maps.OwnSet
import Derived.Maps.Range
import Derived.Sort.KeysCollected
import Derived.Maps.OwnOps
import Derived.StringKeys
import Derived.Shelf.Strings.Builder1
import Derived.Shelf.Strings.Builder2
import Derived.Shelf.Strings.OnBuilder
import Derived.Shelf.Small.Bits
import Derived.Shelf.Strings.BuilderF
import Derived.Shelf.Strings.BuilderK
import Derived.Shelf.Strings.Builder2Cap
import Derived.Shelf.Strconv.Itoa0
import Derived.Shelf.Strings.Search1
import Derived.Shelf.Strings.Search2
import Derived.Shelf.Strings.Cut
import Derived.Shelf.LaysM
import Derived.Shelf.Strings.Shaped
import Derived.Shelf.Sort.Plain
import Derived.Shelf.Strings.BuilderCap
import Derived.Shelf.Slices.In.SortNone
import Derived.Ground.SlgfProg
import Derived.Shelf.SlicesE.IndexFunc
import Derived.Shelf.SlGeneric
import Derived.Shelf.SlIter.Nil
import Derived.Shelf.SortM.Plain
import Derived.Shelf.SortM.SortNone
import Derived.Ground.GgzProg
import Derived.Ground.SlgmProg
import Derived.RowKit
import Derived.Shelf.Unicode.ValidAny
import Derived.Test.YtlhoahbpklhpmaaGreatDoorQH1
import Derived.Test.YtlhoahbpklhpmaaGreatDoorQH2
section

section
namespace Go.Proofs.YtlhoahbpklhpmaaGreatDoor
open Go.RowKit
set_option linter.unusedVariables false
def wire_Take.f (a0 : ByteArray) : Option (Int × ByteArray × Int) := if a0.size ≤ 9223372036854775000 then some (takeF a0) else none
set_option maxRecDepth 100000 in
theorem take_nil (w : World) :
  Calls Tryz.prog 30 #[.string ⟨#[]⟩] w fun e w' => e = .returned (.tuple #[.int .u64 0, .string ⟨#[]⟩, .int .i64 2]) ∧ w = w' := by
 go_enter Tryz.func30, Tryz.ntmps30
 go_wp2
 go_ret3
 exact ⟨rfl, rfl⟩
set_option maxRecDepth 100000 in
theorem take_bad (s t : ByteArray) (c : Nat) (hc2 : c < 256) (hs : s.size = t.size + 1) (h1 : s.toList.isEmpty = false) (hr : t.size ≤ 9223372036854775000) (hc : ∀ h : 0 < s.size, (s[0]'h).toNat = c) (hx : s.extract 1 (t.size + 1) = t)
  (hbad : 8 < c ∨ t.size < c) (w : World) :
  Calls Tryz.prog 30 #[.string s] w fun e w' => e = .returned (.tuple #[.int .u64 0, .string ⟨#[]⟩, .int .i64 2]) ∧ w = w' := by
 by_cases h8 : 8 < c
 ·clear hbad
  go_enter Tryz.func30, Tryz.ntmps30
  go_wp2
  go_ret3
  exact ⟨rfl, rfl⟩
 ·have h9 : t.size < c := by omega
  clear hbad
  go_enter Tryz.func30, Tryz.ntmps30
  go_wp2
  go_ret3
  exact ⟨rfl, rfl⟩
theorem bytesWorld_below (w : World) (e : TypeId) (s : ByteArray) : Below w.heap.size w (Lib.bytesWorld w e s) :=
 ⟨rfl, rfl, rfl, by rw [Lib.bytesWorld_size]; omega, fun k hk => Lib.bytesWorld_at_old w e s k hk⟩
theorem or_shift (n b : Nat) (hn : n < 72057594037927936) (hb : b < 256) : bits BinOp.or IntKind.u64 (IntKind.u64.wrap ((n : Int) * 256)) (b : Int) = ((n * 256 + b : Nat) : Int) := by
 have h1 : IntKind.u64.wrap ((n : Int) * 256) = ((n * 256 : Nat) : Int) := by rw [IntKind.wrap_u64]; omega
 rw [h1, bits_or_u64_nat _ _ (by omega) (by omega)]
 have h2 : n * 256 ||| b = n * 256 + b := by
  have := Nat.shiftLeft_add_eq_or_of_lt (i := 8) (show b < 2 ^ 8 from hb) n
  rw [Nat.shiftLeft_eq] at this
  exact this.symm
 rw [h2]
theorem take_num (l : Bs) (k : Nat) (hk : k < l.length) (h8 : k < 8) : beNum (l.take k) < 72057594037927936 ∧ beNum (l.take (k + 1)) = beNum (l.take k) * 256 + (l[k]).toNat := by
 constructor
 ·have h1 := beNum_lt (l.take k)
  have h2 : 256 ^ (l.take k).length ≤ 256 ^ 7 := Nat.pow_le_pow_right (by decide) (by rw [List.length_take]; omega)
  have h3 : (256 : Nat) ^ 7 = 72057594037927936 := by decide
  omega
 ·rw [take_succ_get l k hk, beNum_snoc]
def takeRes (c d : Nat) (t : ByteArray) : Value := if 0 < c ∧ d = 0 then .tuple #[.int .u64 0, .string ⟨#[]⟩, .int .i64 2] else .tuple #[.int .u64 (beNum ((bytes t).take c) : Nat), .string (t.extract c t.size), .int .i64 0]
theorem below_drewN' {B : Nat} {w W : World} (h : Below B w W) (n : Nat) : Below B w (W.drewN n) := ⟨h.os, h.tape, h.output, h.size, h.block⟩
set_option maxRecDepth 100000 in
theorem take_loop (s t : ByteArray) (c : Nat) (hc2 : c ≤ 8) (hs : s.size = t.size + 1) (h1 : s.toList.isEmpty = false) (hr : t.size ≤ 9223372036854775000) (hc : ∀ h : 0 < s.size, (s[0]'h).toNat = c) (hx : s.extract 1 (t.size + 1) = t)
  (hgood : c ≤ t.size) (d : Nat) (hd : ∀ h : 0 < t.size, (t[0]'h).toNat = d) (w : World) :
  Calls Tryz.prog 30 #[.string s] w fun e w' => e = .returned (takeRes c d t) ∧ Below w.heap.size w w' := by
 have hcv := Lib.run_convert_string_bytes (P := Tryz.prog) w 9 72 5 (t.extract 0 c) Tryz.underlying9 Tryz.underlying72 Tryz.underlying5
 have hsz : (t.extract 0 c).size = c := by rw [ByteArray.size_extract]; omega
 go_enter Tryz.func30, Tryz.ntmps30
 go_wp2
 have HX := fun j hj => Lib.bytesWorld_cell w 5 (t.extract 0 c) j hj
 have HB := Lib.hid (bytesWorld_below w 5 (t.extract 0 c))
 rw [hsz] at HX
 have HY := Lib.hid HX
 clear HX hcv hsz hx hc
 obtain ⟨W, hW⟩ : ∃ W, Lib.bytesWorld w 5 (t.extract 0 c) = W := ⟨_, rfl⟩
 have HW := Lib.hid hW
 rw [hW] at HY HB ⊢
 clear hW
 go_loop [6, 29] (fun n i => ∃ k : Nat, k ≤ c ∧ i = .int .i64 k ∧ n = .int .u64 (beNum ((bytes t).take k) : Nat)) (fun _ i => c - (intOf i).toNat)
 case atStart => exact ⟨0, Nat.zero_le _, rfl, rfl⟩
 case round =>
  obtain ⟨k, hk, rfl, rfl⟩ := hrel
  by_cases hlt : k < c
  ·have hb := HY.out k hlt
   have hkt : k < (bytes t).length := by rw [bytes_length]; omega
   have hval : (t.extract 0 c).data.toList.getD k 0 = (bytes t)[k] := by
    show (bytes (t.extract 0 c)).getD k 0 = _
    rw [bytes_to, List.getD_eq_getElem?_getD, List.getElem?_take_of_lt hlt, List.getElem?_eq_getElem hkt]
    rfl
   rw [hval] at hb
   have hbl := (bytes t)[k].toNat_lt
   have hsn := take_num (bytes t) k hkt (by omega)
   generalize hB : ((bytes t)[k]).toNat = b at hb hbl hsn
   generalize hN : beNum (List.take k (bytes t)) = N at hsn
   have Hs := Lib.hid hsn.1
   have Hs2 := Lib.hid hsn.2
   clear hsn hval hB hN
   have ho := or_shift N b Hs.out hbl
   go_wp2
   go_round
   case rel => exact ⟨k + 1, by omega, by go_num, by rw [Hs2.out]; go_num⟩
   case measure => simp [intOf]; omega
  ·obtain rfl : k = c := by omega
   clear hlt
   by_cases h0 : 0 < k
   ·have hd0 := hd (by omega)
    by_cases hz : d = 0
    ·have Hz := Lib.hid hz
     have hz1 : ((d : Int) == 0) = true := by rw [beq_iff_eq]; omega
     clear hz
     go_wp2
     go_ret3
     exact ⟨by unfold takeRes; rw [if_pos ⟨h0, Hz.out⟩]; rfl, HB.out⟩
    ·have Hz := Lib.hid hz
     have hz2 : ((d : Int) == 0) = false := by rw [beq_eq_false_iff_ne]; omega
     clear hz
     go_wp2
     go_quiet (fail)
     go_wp2
     go_ret3
     exact ⟨by unfold takeRes; rw [if_neg (fun h => Hz.out h.2)]; rfl, below_drewN' HB.out _⟩
   ·obtain rfl : k = 0 := by omega
    go_wp2
    go_quiet (fail)
    go_wp2
    go_ret3
    exact ⟨by unfold takeRes; rw [if_neg (fun h => h0 h.1), show t.extract 0 t.size = t from by simp]; rfl, below_drewN' HB.out _⟩
theorem bytes_cons {s : ByteArray} {c : UInt8} {r : Bs} (h : bytes s = c :: r) : s.size = r.length + 1 ∧ s.toList.isEmpty = false ∧ (∀ h : 0 < s.size, (s[0]'h) = c) ∧ bytes (s.extract 1 s.size) = r := by
 have h1 : s.size = r.length + 1 := by rw [← bytes_length, h]; rfl
 refine ⟨h1, by rw [bytes_toList, h]; rfl, fun h0 => ?_, by rw [bytes_from, h]; rfl⟩
 have h2 : (bytes s)[0]'(by rw [h]; simp) = c := by simp [h]
 exact h2
theorem takeF_cons {s : ByteArray} {c : UInt8} {r : Bs} (h : bytes s = c :: r) (hc : c.toNat ≤ 8) (hr : c.toNat ≤ r.length) (d : UInt8) (hd : 0 < r.length → r.head? = some d) :
  takeRes c.toNat d.toNat (s.extract 1 s.size) = .tuple #[.int .u64 (takeF s).1, .string (takeF s).2.1, .int .i64 (takeF s).2.2] := by
 have hb := (bytes_cons h).2.2.2
 unfold takeF takeRes
 rw [h]
 simp only [takeL]
 rw [if_neg (show ¬ 8 < c.toNat by omega), if_neg (show ¬ r.length < c.toNat by omega)]
 by_cases h0 : 0 < c.toNat
 ·rw [hd (by omega)]
  by_cases hz : d = 0
  ·subst hz
   rw [if_pos ⟨h0, rfl⟩, if_pos ⟨h0, rfl⟩]
  ·rw [if_neg (fun q => hz (UInt8.toNat_inj.1 q.2)), if_neg (fun q => hz (Option.some.inj q.2))]
   rw [hb]
   have h3 : (s.extract 1 s.size).extract c.toNat (s.extract 1 s.size).size = ofBytes (r.drop c.toNat) := bs_inj (by rw [bytes_from, hb, bytes_ofBytes])
   rw [h3]
 ·rw [if_neg (fun q => h0 q.1), if_neg (fun q => h0 q.1), hb]
  have h3 : (s.extract 1 s.size).extract c.toNat (s.extract 1 s.size).size = ofBytes (r.drop c.toNat) := bs_inj (by rw [bytes_from, hb, bytes_ofBytes])
  rw [h3]
theorem wire_Take.calls (a0 : ByteArray) (r1 : Int) (r2 : ByteArray) (r3 : Int) (w : World) (h : wire_Take.f a0 = some (r1, r2, r3)) :
  Calls Tryz.prog 30 #[.string a0] w fun e w' => e = .returned (.tuple #[.int .u64 r1, .string r2, .int .i64 r3]) ∧ Below w.heap.size w w' := by
 unfold wire_Take.f at h
 split at h
 ·rename_i hsz
  have h := Option.some.inj h
  cases hb : bytes a0 with
  | nil =>
   have ha : a0 = ⟨#[]⟩ := bs_inj (by rw [hb]; rfl)
   subst ha
   have hf : takeF ⟨#[]⟩ = (0, ⟨#[]⟩, 2) := rfl
   rw [hf] at h
   simp only [Prod.mk.injEq] at h
   obtain ⟨rfl, rfl, rfl⟩ := h
   refine (take_nil w).mono ?_
   rintro e w' ⟨rfl, rfl⟩
   exact ⟨rfl, Below.refl _ _⟩
  | cons c r =>
   obtain ⟨h1, h2, h3, h4⟩ := bytes_cons hb
   have h5 : (a0.extract 1 a0.size).size = r.length := by rw [← bytes_length, h4]
   have h6 : a0.size = (a0.extract 1 a0.size).size + 1 := by rw [h5, h1]
   have hc : ∀ q : 0 < a0.size, (a0[0]'q).toNat = c.toNat := fun q => by rw [h3 q]
   by_cases hbad : 8 < c.toNat ∨ r.length < c.toNat
   ·have hf : takeF a0 = (0, ⟨#[]⟩, 2) := by
     unfold takeF
     rw [hb]
     simp only [takeL]
     by_cases q : 8 < c.toNat
     ·rw [if_pos q]
     ·rw [if_neg q, if_pos (by omega)]
    rw [hf] at h
    simp only [Prod.mk.injEq] at h
    obtain ⟨rfl, rfl, rfl⟩ := h
    refine (take_bad a0 (a0.extract 1 a0.size) c.toNat c.toNat_lt h6 h2 (by omega) hc (by rw [← h6]) (by rw [h5]; exact hbad) w).mono ?_
    rintro e w' ⟨rfl, rfl⟩
    exact ⟨rfl, Below.refl _ _⟩
   ·obtain ⟨d, hd⟩ : ∃ d : UInt8, 0 < r.length → r.head? = some d := by
     cases r with
     | nil => exact ⟨0, fun q => absurd q (by simp)⟩
     | cons d r => exact ⟨d, fun _ => rfl⟩
    have hres := takeF_cons hb (by omega) (by omega) d hd
    refine (take_loop a0 (a0.extract 1 a0.size) c.toNat (by omega) h6 h2 (by omega) hc (by rw [← h6]) (by omega) d.toNat ?_ w).mono ?_
    ·intro q
     have q2 : (bytes (a0.extract 1 a0.size))[0]? = some d := by rw [h4, ← List.head?_eq_getElem?]; exact hd (by omega)
     rw [List.getElem?_eq_getElem (by rw [h4]; omega)] at q2
     exact congrArg UInt8.toNat (Option.some.inj q2)
    ·rintro e w' ⟨rfl, hB⟩
     rw [hres, h]
     exact ⟨rfl, hB⟩
 ·exact absurd h (by simp)
end Go.Proofs.YtlhoahbpklhpmaaGreatDoor
end
section
namespace Go.Proofs.YtlhoahbpklhpmaaGreatDoor
open Go.RowKit
set_option linter.unusedVariables false
def takeTextF (most : Nat) (s : ByteArray) : ByteArray × ByteArray × Int :=
 match takeL (bytes s) with
 | none => (⟨#[]⟩, ⟨#[]⟩, 2)
 | some (n, r) => if most < n then (⟨#[]⟩, ⟨#[]⟩, 10) else if r.length < n then (⟨#[]⟩, ⟨#[]⟩, 2) else (ofBytes (r.take n), ofBytes (r.drop n), 0)
def limitedF (most : Nat) (s : ByteArray) : Int × ByteArray × Int :=
 match takeL (bytes s) with
 | none => (0, ⟨#[]⟩, 2)
 | some (n, r) => if most < n then (0, ⟨#[]⟩, 10) else (n, ofBytes r, 0)
set_option maxRecDepth 100000 in
theorem limited_any (s : ByteArray) (most : Nat) (hs : s.size ≤ 9223372036854775000) (hm : most ≤ 1000000) (w : World) :
  Calls Tryz.prog 65 #[.string s, .int .i64 most] w fun e w' => e = .returned (.tuple #[.int .i64 (limitedF most s).1, .string (limitedF most s).2.1, .int .i64 (limitedF most s).2.2]) ∧ Below w.heap.size w w' := by
 cases h : takeL (bytes s) with
 | none =>
  have h1 : takeF s = (0, ⟨#[]⟩, 2) := by unfold takeF; rw [h]
  have h2 : limitedF most s = (0, ⟨#[]⟩, 2) := by unfold limitedF; rw [h]
  rw [h2]
  have HT := Lib.hid (wire_Take.calls s 0 ⟨#[]⟩ 2 w (by unfold wire_Take.f; rw [if_pos hs, h1]))
  clear h1 h2 h
  go_enter Tryz.func65, Tryz.ntmps65
  go_wp2_with fail
  refine HT.out.mono ?_
  rintro e w' ⟨rfl, hb⟩
  have HB := Lib.hid hb
  clear hb
  go_wp2
  go_ret3
  exact ⟨rfl, HB.out⟩
 | some x =>
  obtain ⟨n, r⟩ := x
  have hn := (take_inv h).2
  have h1 : takeF s = ((n : Int), ofBytes r, 0) := by unfold takeF; rw [h]
  have HT := Lib.hid (wire_Take.calls s n (ofBytes r) 0 w (by unfold wire_Take.f; rw [if_pos hs, h1]))
  clear h1
  by_cases hbig : most < n
  ·have h2 : limitedF most s = (0, ⟨#[]⟩, 10) := by unfold limitedF; rw [h]; simp only; rw [if_pos hbig]
   rw [h2]
   clear h2 h
   go_enter Tryz.func65, Tryz.ntmps65
   go_wp2_with fail
   refine HT.out.mono ?_
   rintro e w' ⟨rfl, hb⟩
   have HB := Lib.hid hb
   clear hb
   go_wp2
   go_ret3
   exact ⟨rfl, HB.out⟩
  ·have h2 : limitedF most s = ((n : Int), ofBytes r, 0) := by unfold limitedF; rw [h]; simp only; rw [if_neg hbig]
   rw [h2]
   clear h2 h
   go_enter Tryz.func65, Tryz.ntmps65
   go_wp2_with fail
   refine HT.out.mono ?_
   rintro e w' ⟨rfl, hb⟩
   have HB := Lib.hid hb
   clear hb
   go_wp2
   go_ret3
   exact ⟨rfl, HB.out⟩
set_option maxRecDepth 100000 in
theorem taketext_any (s : ByteArray) (most : Nat) (hs : s.size ≤ 9223372036854775000) (hm : most ≤ 1000000) (w : World) :
  Calls Tryz.prog 66 #[.string s, .int .i64 most] w fun e w' => e = .returned (.tuple #[.string (takeTextF most s).1, .string (takeTextF most s).2.1, .int .i64 (takeTextF most s).2.2]) ∧ Below w.heap.size w w' := by
 have HL := Lib.hid (limited_any s most hs hm w)
 by_cases hbad : (limitedF most s).2.2 = 0
 ·cases h : takeL (bytes s) with
  | none => rw [show limitedF most s = (0, ⟨#[]⟩, 2) from by unfold limitedF; rw [h]] at hbad; simp at hbad
  | some x =>
   obtain ⟨n, r⟩ := x
   by_cases hbig : most < n
   ·rw [show limitedF most s = (0, ⟨#[]⟩, 10) from by unfold limitedF; rw [h]; simp only; rw [if_pos hbig]] at hbad; simp at hbad
   ·have hl : limitedF most s = ((n : Int), ofBytes r, 0) := by unfold limitedF; rw [h]; simp only; rw [if_neg hbig]
    rw [hl] at HL
    have hz := size_ofBytes r
    have hrn : r.length ≤ s.size := by
     have := (take_inv h).1
     have h3 := congrArg List.length this
     rw [bytes_length, List.length_append] at h3
     omega
    by_cases hlen : r.length < n
    ·have h2 : takeTextF most s = (⟨#[]⟩, ⟨#[]⟩, 2) := by unfold takeTextF; rw [h]; simp only; rw [if_neg hbig, if_pos hlen]
     rw [h2]
     clear h2 h hl hbad
     go_enter Tryz.func66, Tryz.ntmps66
     go_wp2_with fail
     refine HL.out.mono ?_
     rintro e w' ⟨rfl, hb⟩
     have HB := Lib.hid hb
     clear hb
     go_wp2
     go_ret3
     exact ⟨rfl, HB.out⟩
    ·have h2 : takeTextF most s = (ofBytes (r.take n), ofBytes (r.drop n), 0) := by unfold takeTextF; rw [h]; simp only; rw [if_neg hbig, if_neg hlen]
     have e1 : (ofBytes r).extract 0 n = ofBytes (r.take n) := bs_inj (by rw [bytes_to, bytes_ofBytes, bytes_ofBytes])
     have e2 : (ofBytes r).extract n (ofBytes r).size = ofBytes (r.drop n) := bs_inj (by rw [bytes_from, bytes_ofBytes, bytes_ofBytes])
     rw [h2, ← e1, ← e2]
     clear h2 h hl hbad e1 e2
     generalize ofBytes r = q at *
     go_enter Tryz.func66, Tryz.ntmps66
     go_wp2_with fail
     refine HL.out.mono ?_
     rintro e w' ⟨rfl, hb⟩
     have HB := Lib.hid hb
     clear hb
     go_wp2
     go_quiet (fail)
     go_wp2
     go_ret3
     exact ⟨by rw [hz]; rfl, below_drewN' HB.out _⟩
 ·have h2 : takeTextF most s = (⟨#[]⟩, ⟨#[]⟩, (limitedF most s).2.2) := by
   unfold takeTextF limitedF
   cases h : takeL (bytes s) with
   | none => rfl
   | some x =>
    obtain ⟨n, r⟩ := x
    simp only
    by_cases hbig : most < n
    ·rw [if_pos hbig, if_pos hbig]
    ·exfalso
     apply hbad
     unfold limitedF
     rw [h]
     simp only
     rw [if_neg hbig]
  rw [h2]
  clear h2
  generalize limitedF most s = q at *
  obtain ⟨q1, q2, q3⟩ := q
  have hb : (q3 == 0) = false := by rw [beq_eq_false_iff_ne]; exact hbad
  clear hbad
  go_enter Tryz.func66, Tryz.ntmps66
  go_wp2_with fail
  refine HL.out.mono ?_
  rintro e w' ⟨rfl, hb⟩
  have HB := Lib.hid hb
  clear hb
  go_wp2
  go_ret3
  exact ⟨rfl, HB.out⟩
end Go.Proofs.YtlhoahbpklhpmaaGreatDoor
end
section
namespace Go.Proofs.YtlhoahbpklhpmaaGreatDoor
open Go.RowKit
set_option linter.unusedVariables false
def wire_limited.f (a0 : ByteArray) (a1 : Int) : Option (Int × ByteArray × Int) := if a0.size ≤ 9223372036854775000 ∧ 0 ≤ a1 ∧ a1 ≤ 1000000 then some (limitedF a1.toNat a0) else none
theorem wire_limited.calls (a0 : ByteArray) (a1 : Int) (r1 : Int) (r2 : ByteArray) (r3 : Int) (w : World) (h : wire_limited.f a0 a1 = some (r1, r2, r3)) :
  Calls Tryz.prog 65 #[.string a0, .int .i64 a1] w fun e w' => e = .returned (.tuple #[.int .i64 r1, .string r2, .int .i64 r3]) ∧ Below w.heap.size w w' := by
 unfold wire_limited.f at h
 split at h
 ·rename_i hs
  obtain ⟨n, rfl⟩ := Int.eq_ofNat_of_zero_le hs.2.1
  have h := Option.some.inj h
  rw [Int.toNat_natCast] at h
  have H := limited_any a0 n hs.1 (by omega) w
  rw [h] at H
  exact H
 ·exact absurd h (by simp)
def wire_TakeText.f (a0 : ByteArray) (a1 : Int) : Option (ByteArray × ByteArray × Int) := if a0.size ≤ 9223372036854775000 ∧ 0 ≤ a1 ∧ a1 ≤ 1000000 then some (takeTextF a1.toNat a0) else none
theorem wire_TakeText.calls (a0 : ByteArray) (a1 : Int) (r1 : ByteArray) (r2 : ByteArray) (r3 : Int) (w : World) (h : wire_TakeText.f a0 a1 = some (r1, r2, r3)) :
  Calls Tryz.prog 66 #[.string a0, .int .i64 a1] w fun e w' => e = .returned (.tuple #[.string r1, .string r2, .int .i64 r3]) ∧ Below w.heap.size w w' := by
 unfold wire_TakeText.f at h
 split at h
 ·rename_i hs
  obtain ⟨n, rfl⟩ := Int.eq_ofNat_of_zero_le hs.2.1
  have h := Option.some.inj h
  rw [Int.toNat_natCast] at h
  have H := taketext_any a0 n hs.1 (by omega) w
  rw [h] at H
  exact H
 ·exact absurd h (by simp)
end Go.Proofs.YtlhoahbpklhpmaaGreatDoor
end
end
section

namespace Go.Proofs.YtlhoahbpklhpmaaGreatDoor
open Go.RowKit
structure Moved (S : Nat → Prop) (w w' : World) : Prop where
 os : w'.os = w.os
 tape : w'.tape = w.tape
 output : w'.output = w.output
 size : w.heap.size ≤ w'.heap.size
 block : ∀ k, k < w.heap.size → ¬ S k → w'.heap[k]? = w.heap[k]?
theorem Moved.refl (S : Nat → Prop) (w : World) : Moved S w w := ⟨rfl, rfl, rfl, Nat.le_refl _, fun _ _ _ => rfl⟩
theorem Moved.trans {S : Nat → Prop} {a b c : World} (h : Moved S a b) (k : Moved S b c) : Moved S a c :=
 ⟨k.os.trans h.os, k.tape.trans h.tape, k.output.trans h.output, Nat.le_trans h.size k.size, fun i hi hs => (k.block i (Nat.lt_of_lt_of_le hi h.size) hs).trans (h.block i hi hs)⟩
theorem Moved.mono {S T : Nat → Prop} {a b : World} (h : Moved S a b) (hst : ∀ k, S k → T k) : Moved T a b :=
 ⟨h.os, h.tape, h.output, h.size, fun i hi hs => h.block i hi (fun q => hs (hst _ q))⟩
theorem Moved.of_below {S : Nat → Prop} {w w' : World} (h : Below w.heap.size w w') : Moved S w w' := ⟨h.os, h.tape, h.output, h.size, fun k hk _ => h.block k hk⟩
theorem Moved.setCell {S : Nat → Prop} (w : World) {a : Addr} (ha : S a.block) (u : Value) : Moved S w (w.setCell a u) :=
 ⟨rfl, rfl, rfl, by simp [World.setCell], fun k _ hs => Below.heap_setCell _ _ _ _ (fun e => hs (by rw [e]; exact ha))⟩
theorem Moved.alloc {S : Nat → Prop} (w : World) (o : Obj) : Moved S w (w.alloc o) :=
 ⟨rfl, rfl, rfl, by simp, fun k hk _ => Below.heap_alloc _ _ _ hk⟩
theorem Moved.below {S : Nat → Prop} {B : Nat} {a w w' : World} (hb : Below B a w) (h : Moved S w w') (hB : B ≤ w.heap.size) (hs : ∀ k, S k → B ≤ k) : Below B a w' :=
 hb.trans ⟨h.os, h.tape, h.output, h.size, fun k hk => h.block k (by omega) (fun q => by have := hs k q; omega)⟩
theorem cell_of_blk {w : World} {b j : Nat} {c : Array Value} {t : TypeId} {f : Nat × Nat} {v : Value} (h : w.heap[b]? = some (.cells c t f)) (hv : c[j]? = some v) : w.cell? ⟨b, j, none⟩ = some v := by simp [World.cell?, h, hv]
theorem free_of_blk {w : World} {b j : Nat} {c : Array Value} {t : TypeId} (h : w.heap[b]? = some (.cells c t (0, 0))) : w.frozen? ⟨b, j, none⟩ = false := by simp [World.frozen?, h]
theorem blk_setCell {w : World} {b j : Nat} {c : Array Value} {t : TypeId} {f : Nat × Nat} {u : Value} (h : w.heap[b]? = some (.cells c t f)) : (w.setCell ⟨b, j, none⟩ u).heap[b]? = some (.cells (c.setIfInBounds j u) t f) := by
 have hlt := lt_of_block h
 have h' : w.heap[b] = .cells c t f := by simpa [Array.getElem?_eq_getElem hlt] using h
 show (w.heap.modify b _)[b]? = _
 rw [Array.getElem?_eq_getElem (by simpa using hlt), Array.getElem_modify_self, h']
 rfl
end Go.Proofs.YtlhoahbpklhpmaaGreatDoor
end
section

namespace Go.Proofs.YtlhoahbpklhpmaaGreatDoor
open Go.RowKit Go.Maps
set_option linter.unusedVariables false
theorem hadLaw : Keyed Tryz.prog 9 := string_keyed Tryz.underlying9
def HadD (S : List T) (D : DataW Unit) : Prop :=
 Maps.size D = S.length ∧ S.Nodup ∧ (∀ t ∈ S, Wf t) ∧ ∀ l : List UInt8, Maps.has D (.string l) = S.any (fun t => enc t == l)
def HadAt (w : World) (b : Nat) (S : List T) : Prop := ∃ D : DataW Unit, w.ownsMap Tryz.prog 9 unitElem b S.length D ∧ HadD S D
theorem ownsMap_tight {H : Type} {w : World} {P : Program} {k : TypeId} {R : Value → Option (DataW H × List MemPlace)} {b n : Nat} {D : DataW H} (h : w.ownsMap P k R b n D) : w.ownsMap P k R b (Maps.size D) D := by
 obtain ⟨es, clock, h1, h2, h3, h4⟩ := h
 refine ⟨es, clock, h1, h2, ?_, h4⟩
 rw [h4]
 show es.size ≤ (List.foldr DataW.insert [] (es.toList.map (WideElems.rg P k R))).length
 rw [length_read]
 exact Nat.le_refl _
theorem hadD_nil : HadD [] (.map []) := ⟨rfl, List.nodup_nil, fun t h => by simp at h, fun l => rfl⟩
theorem any_enc {S : List T} {t : T} (hS : ∀ u ∈ S, Wf u) (ht : Wf t) : (S.any fun u => enc u == enc t) = S.contains t := by
 cases h : S.contains t with
 | true =>
  exact List.any_eq_true.2 ⟨t, List.contains_iff_mem.1 h, by simp⟩
 | false =>
  refine List.any_eq_false.2 fun u hu he => ?_
  have h1 := enc_inj (hS u hu).1 ht.1 (by simpa using he)
  rw [← h1, List.contains_iff_mem.2 hu] at h
  exact absurd h (by simp)
theorem hadD_has {S : List T} {D : DataW Unit} (h : HadD S D) {t : T} (ht : Wf t) : Maps.has D (.string (enc t)) = S.contains t := by
 rw [h.2.2.2, any_enc h.2.2.1 ht]
theorem isKey_string (l : List UInt8) : WideAt.IsKeyLit (.string l) := by simp [WideAt.IsKeyLit]
theorem addAll_one (S : List T) (t : T) : addAll S [t] = if S.contains t then S else S ++ [t] := rfl
theorem hadD_put {S : List T} {D : DataW Unit} (h : HadD S D) (hT : Tidy D) {t : T} (ht : Wf t) (u : DataW Unit) : HadD (addAll S [t]) (D.put (.string (enc t)) u) := by
 have hh := hadD_has h ht
 obtain ⟨h1, h2, h3, h4⟩ := h
 refine ⟨?_, nodup_addAll _ _ h2, ?_, fun l => ?_⟩
 ·rw [size_put hT, hh, addAll_one, h1]
  by_cases hc : S.contains t = true
  ·rw [if_pos hc, if_pos hc]
  ·rw [if_neg hc, if_neg hc, List.length_append, List.length_singleton]
 ·intro x hx
  rcases (mem_addAll S [t] x).1 hx with hx | hx
  ·exact h3 x hx
  ·rw [List.mem_singleton.1 hx]; exact ht
 ·have hany : (addAll S [t]).any (fun t => enc t == l) = (S.any (fun t => enc t == l) || enc t == l) := by
   rw [addAll_one]
   by_cases hc : S.contains t = true
   ·rw [if_pos hc]
    cases he : (enc t == l) with
    | false => simp
    | true =>
     rw [Bool.or_true]
     exact List.any_eq_true.2 ⟨t, List.contains_iff_mem.1 hc, he⟩
   ·rw [if_neg hc]
    simp
  rw [hany]
  by_cases he : enc t = l
  ·subst he
   rw [has_put_same hT.isMap (isKey_string _)]
   simp
  ·rw [has_put_other (fun e => he (by injection e with e; exact e.symm)), h4]
   simp [he]
theorem HadAt.lt {w : World} {b : Nat} {S : List T} (h : HadAt w b S) : b < w.heap.size := by
 obtain ⟨D, h1, _⟩ := h
 exact h1.lt
theorem HadAt.of_block {w w' : World} {b : Nat} {S : List T} (h : HadAt w b S) (hb : w'.heap[b]? = w.heap[b]?) : HadAt w' b S := by
 obtain ⟨D, ⟨es, clock, h1, h2, h3, h4⟩, h5⟩ := h
 exact ⟨D, ⟨es, clock, hb.trans h1, h2, h3, h4⟩, h5⟩
theorem HadAt.below {w w' : World} {b : Nat} {S : List T} (h : HadAt w b S) (hb : Below w.heap.size w w') : HadAt w' b S := h.of_block (hb.block b h.lt)
theorem hadAt_put {w w' : World} {b n : Nat} {S : List T} {D : DataW Unit} (h : HadD S D) (ho : w.ownsMap Tryz.prog 9 unitElem b S.length D) {t : T} (ht : Wf t) {u : DataW Unit}
  (h' : w'.ownsMap Tryz.prog 9 unitElem b n (D.put (.string (enc t)) u)) : HadAt w' b (addAll S [t]) := by
 have h1 := hadD_put h (ho.tidy hadLaw) ht u
 refine ⟨_, ?_, h1⟩
 have := ownsMap_tight h'
 rwa [h1.1] at this
def sortedB (S : List T) : List (List UInt8) := (S.map enc).mergeSort (fun x y => decide (x ≤ y))
theorem hadAt_keys {w : World} {b : Nat} {S : List T} {D : DataW Unit} (h : HadD S D) (ho : w.ownsMap Tryz.prog 9 unitElem b S.length D) {ss : List (List UInt8)} (hp : ss.Perm (Go.strKeys D)) :
  ss.mergeSort (fun x y => decide (x ≤ y)) = sortedB S := by
 obtain ⟨es, rfl, he, hk⟩ := ho.entries hadLaw
 obtain ⟨h1, h2, h3, h4⟩ := h
 have hk2 : ∀ p ∈ es, ∃ x, p.1 = .string x := by
  intro p hp
  obtain ⟨es', hD', hko⟩ := ho.keysOf
  obtain rfl : es = es' := by simpa using hD'
  obtain ⟨v, hv⟩ := hko p hp
  obtain ⟨x, _, hx, _⟩ := Maps.keyOf_str Tryz.underlying9 hv
  exact ⟨x, hx⟩
 have hn : (S.map enc).Nodup := by
  refine List.pairwise_map.2 (h2.imp_of_mem fun {a c} ha hc hne e => hne (enc_inj (h3 a ha).1 (h3 c hc).1 e))
 have := Go.perm_strKeys he hk2 hn (fun x => by
  rw [h4]
  simp [List.any_eq_true])
 exact Go.mergeSort_of_perm (hp.trans this.symm)
end Go.Proofs.YtlhoahbpklhpmaaGreatDoor
end
section

namespace Go.Proofs.YtlhoahbpklhpmaaGreatDoor
open Go.RowKit Go.Maps Go.Proofs.YtlhoahbpklhpmaaGreatDoorW.PrintWords
set_option linter.unusedVariables false
def tB (t : T) : ByteArray := ofBytes (enc t)
theorem tB_size {t : T} (h : Wf t) : (tB t).size ≤ 4000 := by unfold tB; rw [size_ofBytes]; exact h.2
theorem tB_data (t : T) : (tB t).data.toList = enc t := bytes_ofBytes _
theorem tB_key {t : T} (h : Wf t) : keyOf Tryz.prog 9 (.string (tB t)) = some (.string (enc t)) := by
 have := Go.WideMaps.keyOf_string_mk Tryz.underlying9 (s := tB t) (by have := tB_size h; unfold maxLen; omega)
 rwa [tB_data] at this
theorem zeroUnit (w : World) : (zeroValue 77).run Tryz.prog w = .ok (.agg #[]) w := by kernel_rfl
theorem has_any (b : Nat) (S : List T) (t : T) (w : World) (hS : HadAt w b S) (ht : Wf t) :
  Calls Tryz.prog 62 #[.map (some b), .string (tB t)] w fun e w' => e = .returned (.bool (S.contains t)) ∧ Below w.heap.size w w' := by
 obtain ⟨D, hown, hD⟩ := hS
 have hk := tB_key ht
 have hh := hadD_has hD ht
 rw [← hh]
 clear hh hD
 go_enter Tryz.func62, Tryz.ntmps62
 go_wp2_with (first
  | (at_lookup; refine wpList_lookup_own_unit _ rfl _ _ 47 rfl 9 77 hadLaw Tryz.underlying47 (zeroUnit _) b S.length D rfl hown _ _ rfl hk ?_)
  | go_in)
 go_ret
 exact ⟨rfl, (Below.refl _ _).alloc (Nat.le_refl _) _⟩
def firstAt (p : ByteArray → Bool) (l : List ByteArray) : Int := match l.findIdx? p with | some i => i | none => -1
theorem index_any (A : Option Addr) (l : List ByteArray) (cap x : Nat) (p : ByteArray → Bool) (w : World) (hlen : l.length ≤ 1000000)
  (hc : ∀ k (hk : k < l.length), ∃ ad, A = some ad ∧ w.cell? (ad.add k) = some (.string l[k]))
  (hf : ∀ s ∈ l, ∀ W, Below w.heap.size w W → Calls Tryz.prog 64 #[.string s, .pointer (some ⟨x, 0, none⟩)] W fun e w' => e = .returned (.bool (p s)) ∧ Below W.heap.size W w') :
  Calls Tryz.prog 81 #[.slice A l.length cap, .func (.func 64) #[] #[.pointer (some ⟨x, 0, none⟩)]] w fun e w' => e = .returned (.int .i64 (firstAt p l)) ∧ Below w.heap.size w w' := by
 have HC := Lib.hid hc
 have HF := Lib.hid hf
 clear hc hf
 go_enter Tryz.func81, Tryz.ntmps81
 go_wp2_with fail
 go_loopw [8] (fun i wr => ∃ k : Nat, k ≤ l.length ∧ i = .int .i64 k ∧ (∀ j (hj : j < l.length), j < k → p l[j] = false) ∧ Below w.heap.size w wr ∧ w.heap.size ≤ wr.heap.size) (fun i _ => 1000001 - (intOf i).toNat)
 case atStart => exact ⟨0, by omega, rfl, fun j hj h => by omega, Below.refl _ _, Nat.le_refl _⟩
 case round =>
  obtain ⟨k, hk, rfl, hno, hb⟩ := hrel
  have HN := Lib.hid hno
  have HB := Lib.hid hb
  clear hno hb
  by_cases hlt : k < l.length
  ·obtain ⟨ad, rfl, hcell⟩ := HC.out k hlt
   have hcw := pw_cell_below HB.out.1 hcell
   clear hcell
   have hlt2 : (k : Int) < (l.length : Int) := by omega
   cases hp : p l[k] with
   | true =>
    have hv : firstAt p l = (k : Int) := by
     unfold firstAt
     rw [List.findIdx?_eq_some_iff_getElem.2 ⟨hlt, hp, fun j hj => by rw [HN.out j (by omega) hj]; simp⟩]
    have HV := Lib.hid hv
    generalize hs : l[k] = s at hcw hp
    have hm : s ∈ l := by rw [← hs]; exact List.getElem_mem hlt
    have HM := Lib.hid (HF.out s hm)
    rw [hp] at HM
    clear hv hm HF HC HN hs hp
    go_wp2_with fail
    refine (HM.out _ HB.out.1).mono ?_
    rintro e w5 ⟨rfl, hb⟩
    have HB5 := Lib.hid (HB.out.1.trans (hb.mono HB.out.2))
    clear hb HM HB hcw
    go_wp2
    go_ret
    exact ⟨by rw [HV.out]; rfl, HB5.out⟩
   | false =>
    have HN2 := Lib.hid (show ∀ j (hj : j < l.length), j < k + 1 → p l[j] = false from fun j hj h => by
     by_cases e : j = k
     ·subst e; exact hp
     ·exact HN.out j hj (by omega))
    generalize hs : l[k] = s at hcw hp
    have hm : s ∈ l := by rw [← hs]; exact List.getElem_mem hlt
    have HM := Lib.hid (HF.out s hm)
    rw [hp] at HM
    clear hm HN hs hp
    go_wp2_with fail
    refine (HM.out _ HB.out.1).mono ?_
    rintro e w5 ⟨rfl, hb⟩
    have HB5 := Lib.hid (And.intro (HB.out.1.trans (hb.mono HB.out.2)) (Nat.le_trans HB.out.2 hb.size))
    clear hb HM HB hcw
    go_wp2
    go_roundw
    case rel => exact ⟨k + 1, by omega, by go_num, HN2.out, HB5.out⟩
    case measure => simp [intOf]; omega
  ·have hv : firstAt p l = -1 := by
    unfold firstAt
    rw [List.findIdx?_eq_none_iff.2 fun x hx => by
     obtain ⟨j, hj, rfl⟩ := List.getElem_of_mem hx
     exact HN.out j hj (by omega)]
   have HV := Lib.hid hv
   have hlt2 : (l.length : Int) ≤ (k : Int) := by omega
   clear hv HN HF HC
   go_wp2
   go_ret
   exact ⟨by rw [HV.out]; rfl, HB.out.1⟩
theorem firstAt_any (p : ByteArray → Bool) (l : List ByteArray) : decide (0 ≤ firstAt p l) = l.any p := by
 unfold firstAt
 cases h : l.findIdx? p with
 | none =>
  have := List.findIdx?_eq_none_iff.1 h
  rw [List.any_eq_false.2 fun x hx => by rw [this x hx]; simp]
  rfl
 | some i =>
  obtain ⟨hi, hp, _⟩ := List.findIdx?_eq_some_iff_getElem.1 h
  rw [List.any_eq_true.2 ⟨_, List.getElem_mem hi, hp⟩]
  simp
theorem contains_any (A : Option Addr) (l : List ByteArray) (cap x : Nat) (p : ByteArray → Bool) (w : World) (hlen : l.length ≤ 1000000)
  (hc : ∀ k (hk : k < l.length), ∃ ad, A = some ad ∧ w.cell? (ad.add k) = some (.string l[k]))
  (hf : ∀ s ∈ l, ∀ W, Below w.heap.size w W → Calls Tryz.prog 64 #[.string s, .pointer (some ⟨x, 0, none⟩)] W fun e w' => e = .returned (.bool (p s)) ∧ Below W.heap.size W w') :
  Calls Tryz.prog 63 #[.slice A l.length cap, .func (.func 64) #[] #[.pointer (some ⟨x, 0, none⟩)]] w fun e w' => e = .returned (.bool (l.any p)) ∧ Below w.heap.size w w' := by
 have HI := Lib.hid (index_any A l cap x p w hlen hc hf)
 have ha := firstAt_any p l
 generalize firstAt p l = n at HI ha
 rw [← ha]
 clear hc hf ha
 go_enter Tryz.func63, Tryz.ntmps63
 go_wp2_with fail
 refine HI.out.mono ?_
 rintro e w5 ⟨rfl, hb⟩
 have HB := Lib.hid hb
 clear hb HI
 go_wp2
 go_ret
 exact ⟨rfl, HB.out⟩
end Go.Proofs.YtlhoahbpklhpmaaGreatDoor
end
section

namespace Go.Proofs
open Go.Shelf
def Tryz.lays156_ren : Go.Shelf.Ren := ⟨fun | 156 => 93 | 165 => 108 | 166 => 109 | 169 => 110 | 240 => 119 | 241 => 120 | 276 => 122 | 277 => 123 | n => n, fun | 31 => 32 | 9 => 9 | 3 => 3 | 4 => 4 | 0 => 0 | 20 => 20 | 72 => 135 | 76 => 139 | 70 => 133 | 37 => 72 | 75 => 138 | 127 => 149 | 164 => 153 | 5 => 5 | 80 => 98 | n => n, fun | n => n⟩
theorem Tryz.lays156 : Go.Proofs.Lays.n156 Tryz.prog Tryz.lays156_ren := {
 mixed := by kernel_rfl
 f156 := Tryz.func93.trans (congrArg some (by kernel_rfl))
 f165 := Tryz.func108.trans (congrArg some (by kernel_rfl))
 f166 := Tryz.func109.trans (congrArg some (by kernel_rfl))
 f169 := Tryz.func110.trans (congrArg some (by kernel_rfl))
 f240 := Tryz.func119.trans (congrArg some (by kernel_rfl))
 f241 := Tryz.func120.trans (congrArg some (by kernel_rfl))
 f276 := Tryz.func122.trans (congrArg some (by kernel_rfl))
 f277 := Tryz.func123.trans (congrArg some (by kernel_rfl))
 t0 := Tryz.underlying0
 a0 := Tryz.isAgg0
 z0 := Tryz.sizeOf0
 v0 := Tryz.zeroValue0
 t3 := Tryz.underlying3
 a3 := Tryz.isAgg3
 z3 := Tryz.sizeOf3
 v3 := Tryz.zeroValue3
 t4 := Tryz.underlying4
 a4 := Tryz.isAgg4
 z4 := Tryz.sizeOf4
 v4 := Tryz.zeroValue4
 t9 := Tryz.underlying9
 a9 := Tryz.isAgg9
 z9 := Tryz.sizeOf9
 v9 := Tryz.zeroValue9
 t20 := Tryz.underlying20
 a20 := Tryz.isAgg20
 z20 := Tryz.sizeOf20
 v20 := Tryz.zeroValue20
 t31 := Tryz.underlying32
 a31 := Tryz.isAgg32
 z31 := Tryz.sizeOf32
 v31 := Tryz.zeroValue32
 t37 := Tryz.underlying72
 a37 := Tryz.isAgg72
 z37 := Tryz.sizeOf72
 v37 := Tryz.zeroValue72
 t70 := Tryz.underlying133
 a70 := Tryz.isAgg133
 z70 := Tryz.sizeOf133
 v70 := Tryz.zeroValue133
 t72 := Tryz.underlying135
 a72 := Tryz.isAgg135
 z72 := Tryz.sizeOf135
 v72 := Tryz.zeroValue135
 t75 := Tryz.underlying138
 a75 := Tryz.isAgg138
 z75 := Tryz.sizeOf138
 v75 := Tryz.zeroValue138
 t76 := Tryz.underlying139
 a76 := Tryz.isAgg139
 z76 := Tryz.sizeOf139
 v76 := Tryz.zeroValue139
 t127 := Tryz.underlying149
 a127 := Tryz.isAgg149
 z127 := Tryz.sizeOf149
 v127 := Tryz.zeroValue149
 t164 := Tryz.underlying153
 a164 := Tryz.isAgg153
 z164 := Tryz.sizeOf153
 v164 := Tryz.zeroValue153 }
theorem Tryz.Builder_Extra_156 : Builder.Extra Tryz.prog Tryz.lays156_ren := {
 sizeBuilder := by kernel_rfl
 liesBuilder := by kernel_rfl
 t5 := Tryz.underlying5
 a5 := Tryz.isAgg5
 z5 := Tryz.sizeOf5
 v5 := Tryz.zeroValue5
 infoByte := by kernel_rfl
 cellsByte := by kernel_rfl
 sizeByte := by kernel_rfl
 neB5 := by decide }
open Go.RowKit in
theorem Tryz.strings_Join_none (a : Option Addr) (c : Nat) (sep : ByteArray) (w : World) :
  Calls Tryz.prog 93 #[.slice a 0 c, .string sep] w fun e w' => e = .returned (.string ⟨#[]⟩) ∧ w' = w := Any.strings_Join_none Tryz.lays156 Tryz.Builder_Extra_156 a c sep w
open Go.RowKit in
theorem Tryz.strings_Join (bk o c : Nat) (xs : List ByteArray) (sep : ByteArray) (w : World) (hcells : ∀ (j : Nat) x, xs[j]? = some x → w.cell? ⟨bk, o + j, none⟩ = some (.string x)) (hbk : bk < w.heap.size) (hN : xs.length ≤ 140737488355328) (hcap : xs.length ≤ c) (hlen : (Lib.join (xs.map (·.data.toList)) sep.data.toList).length ≤ 140737488355328) :
  Calls Tryz.prog 93 #[.slice (some ⟨bk, o, none⟩) xs.length c, .string sep] w fun e w' => e = .returned (.string ⟨(Lib.join (xs.map (·.data.toList)) sep.data.toList).toArray⟩) ∧ Below w.heap.size w w' := Any.strings_Join Tryz.lays156 Tryz.Builder_Extra_156 bk o c xs sep w hcells hbk hN hcap hlen
def Tryz.lays129_ren : Go.Shelf.Ren := ⟨fun | 129 => 57 | n => n, fun | 53 => 22 | 3 => 3 | 4 => 4 | 46 => 73 | 5 => 5 | 9 => 9 | n => n, fun | n => n⟩
theorem Tryz.lays129 : Go.Proofs.Lays.n129 Tryz.prog Tryz.lays129_ren := {
 mixed := by kernel_rfl
 f129 := Tryz.func57.trans (congrArg some (by kernel_rfl))
 t3 := Tryz.underlying3
 a3 := Tryz.isAgg3
 z3 := Tryz.sizeOf3
 v3 := Tryz.zeroValue3
 t4 := Tryz.underlying4
 a4 := Tryz.isAgg4
 z4 := Tryz.sizeOf4
 v4 := Tryz.zeroValue4
 t5 := Tryz.underlying5
 a5 := Tryz.isAgg5
 z5 := Tryz.sizeOf5
 v5 := Tryz.zeroValue5
 t9 := Tryz.underlying9
 a9 := Tryz.isAgg9
 z9 := Tryz.sizeOf9
 v9 := Tryz.zeroValue9
 t46 := Tryz.underlying73
 a46 := Tryz.isAgg73
 z46 := Tryz.sizeOf73
 v46 := Tryz.zeroValue73
 t53 := Tryz.underlying22
 a53 := Tryz.isAgg22
 z53 := Tryz.sizeOf22
 v53 := Tryz.zeroValue22 }
theorem Tryz.bits_Len64 (x : Int) (w : World) (h0 : 0 ≤ x) (h1 : x ≤ 18446744073709551615) :
  Calls Tryz.prog 57 #[.int .u64 x] w fun e w' => e = .returned (.int .i64 (Lib.bitLen x.toNat)) ∧ w' = w := Any.bits_Len64 Tryz.lays129 x w h0 h1
def Tryz.lays145_ren : Go.Shelf.Ren := ⟨fun | 145 => 67 | 220 => 82 | 219 => 90 | 217 => 104 | 225 => 105 | 224 => 106 | 267 => 107 | 266 => 117 | 314 => 118 | n => n, fun | 9 => 9 | 4 => 4 | 59 => 87 | 3 => 3 | 5 => 5 | 46 => 73 | 146 => 147 | 51 => 129 | n => n, fun | 1 => 2 | n => n⟩
theorem Tryz.lays145 : Go.Proofs.Lays.n145 Tryz.prog Tryz.lays145_ren := {
 mixed := by kernel_rfl
 f145 := Tryz.func67.trans (congrArg some (by kernel_rfl))
 f217 := Tryz.func104.trans (congrArg some (by kernel_rfl))
 f219 := Tryz.func90.trans (congrArg some (by kernel_rfl))
 f220 := Tryz.func82.trans (congrArg some (by kernel_rfl))
 f224 := Tryz.func106.trans (congrArg some (by kernel_rfl))
 f225 := Tryz.func105.trans (congrArg some (by kernel_rfl))
 f266 := Tryz.func117.trans (congrArg some (by kernel_rfl))
 f267 := Tryz.func107.trans (congrArg some (by kernel_rfl))
 f314 := Tryz.func118.trans (congrArg some (by kernel_rfl))
 t3 := Tryz.underlying3
 a3 := Tryz.isAgg3
 z3 := Tryz.sizeOf3
 v3 := Tryz.zeroValue3
 t4 := Tryz.underlying4
 a4 := Tryz.isAgg4
 z4 := Tryz.sizeOf4
 v4 := Tryz.zeroValue4
 t5 := Tryz.underlying5
 a5 := Tryz.isAgg5
 z5 := Tryz.sizeOf5
 v5 := Tryz.zeroValue5
 t9 := Tryz.underlying9
 a9 := Tryz.isAgg9
 z9 := Tryz.sizeOf9
 v9 := Tryz.zeroValue9
 t46 := Tryz.underlying73
 a46 := Tryz.isAgg73
 z46 := Tryz.sizeOf73
 v46 := Tryz.zeroValue73
 t51 := Tryz.underlying129
 a51 := Tryz.isAgg129
 z51 := Tryz.sizeOf129
 v51 := Tryz.zeroValue129
 t59 := Tryz.underlying87
 a59 := Tryz.isAgg87
 z59 := Tryz.sizeOf87
 v59 := Tryz.zeroValue87
 t146 := Tryz.underlying147
 a146 := Tryz.isAgg147
 z146 := Tryz.sizeOf147
 v146 := Tryz.zeroValue147
 g1 := by kernel_rfl }
open Go.RowKit Go.Lib in
theorem Tryz.strings_Cut (s sep : ByteArray) (m : Int) (w : World) (hs : s.size < 4294967281) (hm : w.cell? ⟨2, 0, none⟩ = some (.int .i64 m)) :
  Calls Tryz.prog 67 #[.string s, .string sep] w fun e w' => e = .returned (.tuple #[.string ⟨(Lib.cut s.data.toList sep.data.toList).1.toArray⟩, .string ⟨(Lib.cut s.data.toList sep.data.toList).2.1.toArray⟩, .bool (Lib.cut s.data.toList sep.data.toList).2.2]) ∧ ∃ n, w' = w.drewN n := Any.strings_Cut Tryz.lays145 s sep m w hs hm
end Go.Proofs
end
section

namespace Go.Proofs.YtlhoahbpklhpmaaGreatDoor
open Go.RowKit Go.Proofs.YtlhoahbpklhpmaaGreatDoorW.PrintWords
set_option linter.unusedVariables false
def joinB (l : List ByteArray) : ByteArray := ofBytes (l.flatMap bytes)
def wire_join.f (l0 : List ByteArray) : Option ByteArray :=
 if l0.length ≤ 140737488355328 ∧ (joinB l0).size ≤ 140737488355328 then some (joinB l0) else none
theorem join_flat (l : List ByteArray) : Lib.join (l.map (·.data.toList)) (⟨#[]⟩ : ByteArray).data.toList = l.flatMap bytes := by
 cases l with
 | nil => rfl
 | cons x l =>
  rw [List.map_cons, Lib.join_cons]
  have h : (⟨#[]⟩ : ByteArray).data.toList = [] := rfl
  rw [h]
  unfold Lib.joinTail
  rw [List.flatMap_cons, List.flatMap_def, List.map_map]
  show _ = x.data.toList ++ _
  congr 2
theorem add_at (b o j : Nat) : (⟨b, o, none⟩ : Addr).add j = ⟨b, o + j, none⟩ := by
 unfold Addr.add
 split <;> simp_all
theorem pw_cell_below' {w w1 : World} (h : Below w.heap.size w w1) {a : Addr} {v : Value} (hc : w.cell? a = some v) : w1.cell? a = some v := (h.cell (World.block_lt_of_cell? w a hc)).trans hc
theorem spot_none {w : World} {b o : Nat} {sp : Option Nat} {v : Value} (h : w.cell? ⟨b, o, sp⟩ = some v) : sp = none := by
 unfold World.cell? at h
 split at h
 ·cases sp with
  | none => rfl
  | some x => simp at h
 ·exact absurd h (by simp)
theorem join_any (A : Option Addr) (c : Nat) (l : List ByteArray) (w : World) (hr : Kd.C Kd.string w A l.length l) (hc : l.length ≤ c) (h1 : l.length ≤ 140737488355328) (h2 : (joinB l).size ≤ 140737488355328) :
  Calls Tryz.prog 93 #[.slice A l.length c, .string ⟨#[]⟩] w fun e w' => e = .returned (.string (joinB l)) ∧ Below w.heap.size w w' := by
 rcases Nat.eq_zero_or_pos l.length with h0 | h0
 ·obtain rfl : l = [] := List.eq_nil_of_length_eq_zero h0
  refine (Tryz.strings_Join_none A c _ w).mono ?_
  rintro e w' ⟨rfl, rfl⟩
  exact ⟨rfl, Below.refl _ _⟩
 ·obtain ⟨ad, rfl, hcells⟩ := hr.2.2 h0
  obtain ⟨b, o, sp⟩ := ad
  have hcell : ∀ (j : Nat) x, l[j]? = some x → w.cell? ((⟨b, o, sp⟩ : Addr).add j) = some (.string x) := by
   intro j x hx
   obtain ⟨cs, hl, rfl, hz⟩ := hcells j x hx
   have := hz 0 (.string x) rfl
   rwa [show j * Kd.string.sz + 0 = j from by simp [Kd.string, Kd.scalar]] at this
  have hsp : sp = none := by
   have := hcell 0 l[0] (List.getElem?_eq_getElem h0)
   rw [show (⟨b, o, sp⟩ : Addr).add 0 = ⟨b, o, sp⟩ from rfl] at this
   exact spot_none this
  subst hsp
  have h3 := Tryz.strings_Join b o c l (⟨#[]⟩ : ByteArray) w ?_ ?_ h1 hc ?_
  ·rw [join_flat] at h3
   exact h3
  ·intro j x hx
   have := hcell j x hx
   rwa [add_at] at this
  ·have := hcell 0 l[0] (List.getElem?_eq_getElem h0)
   rw [add_at] at this
   exact World.block_lt_of_cell? w _ this
  ·rw [join_flat]
   rwa [joinB, size_ofBytes] at h2
theorem wire_join.calls (A0 : Option Addr) (c0 : Nat) (l0 : List ByteArray) (r : ByteArray) (w : World) (hr0 : Kd.C Kd.string w A0 l0.length l0) (hc0 : l0.length ≤ c0) (h : wire_join.f l0 = some r) :
  Calls Tryz.prog 85 #[.slice A0 l0.length c0] w fun e w' => e = .returned (.string r) ∧ Below w.heap.size w w' := by
 unfold wire_join.f at h
 split at h
 ·rename_i hsz
  obtain ⟨h1, h2⟩ := hsz
  obtain rfl := Option.some.inj h
  have H := Lib.hid (join_any A0 c0 l0 w hr0 hc0 h1 h2)
  clear hr0 hc0 h h1 h2
  go_enter Tryz.func85, Tryz.ntmps85
  go_wp2_with fail
  refine (H.out).mono ?_
  rintro e w' ⟨rfl, hb⟩
  have HB := Lib.hid hb
  clear hb
  go_wp2
  go_ret
  exact ⟨rfl, HB.out⟩
 ·exact absurd h (by simp)
end Go.Proofs.YtlhoahbpklhpmaaGreatDoor
end
section

namespace Go.Proofs
open Go.Shelf
def Tryz.keys60_ren : Go.Shelf.Ren := ⟨fun | 7 => 60 | 10 => 80 | n => n, fun | 23 => 47 | 26 => 9 | 3 => 77 | 28 => 80 | 0 => 0 | 27 => 79 | 33 => 43 | 4 => 4 | n => n, fun | n => n⟩
theorem Tryz.keys60 : Go.Proofs.SlLaysZ.n7 Tryz.prog Tryz.keys60_ren := {
 mixed := by kernel_rfl
 f7 := ⟨Tryz.f60.name, by decide, Tryz.func60.trans (congrArg some (by kernel_rfl))⟩
 f10 := ⟨Tryz.f80.name, by decide, Tryz.func80.trans (congrArg some (by kernel_rfl))⟩
 t0 := Tryz.underlying0
 a0 := Tryz.isAgg0
 z0 := Tryz.sizeOf0
 v0 := Tryz.zeroValue0
 t4 := Tryz.underlying4
 a4 := Tryz.isAgg4
 z4 := Tryz.sizeOf4
 v4 := Tryz.zeroValue4
 t23 := Tryz.underlying47
 a23 := Tryz.isAgg47
 z23 := Tryz.sizeOf47
 v23 := Tryz.zeroValue47
 t26 := Tryz.underlying9
 a26 := Tryz.isAgg9
 z26 := Tryz.sizeOf9
 v26 := Tryz.zeroValue9
 t27 := Tryz.underlying79
 a27 := Tryz.isAgg79
 z27 := Tryz.sizeOf79
 v27 := Tryz.zeroValue79
 t28 := Tryz.underlying80
 a28 := Tryz.isAgg80
 z28 := Tryz.sizeOf80
 v28 := Tryz.zeroValue80
 t33 := Tryz.underlying43
 a33 := Tryz.isAgg43
 z33 := Tryz.sizeOf43
 v33 := Tryz.zeroValue43 }
def Tryz.sorted59_ren : Go.Shelf.Ren := ⟨fun | 6 => 59 | 8 => 78 | 9 => 79 | 11 => 87 | 13 => 89 | 12 => 88 | 23 => 103 | 24 => 57 | 14 => 94 | 15 => 95 | 16 => 96 | 17 => 97 | 18 => 98 | 19 => 99 | 20 => 100 | 21 => 101 | 22 => 102 | 25 => 111 | 26 => 112 | 27 => 113 | 28 => 114 | 29 => 115 | 30 => 116 | 31 => 121 | n => n, fun | 26 => 9 | 28 => 80 | 24 => 32 | 0 => 0 | 3 => 3 | 37 => 73 | 48 => 129 | 50 => 22 | 4 => 4 | 40 => 121 | 39 => 120 | 45 => 126 | 5 => 5 | 9 => 9 | 51 => 141 | 55 => 145 | 57 => 150 | 58 => 151 | 33 => 43 | n => n, fun | n => n⟩
theorem Tryz.sorted59 : Go.Proofs.SlLaysZ.n6 Tryz.prog Tryz.sorted59_ren := {
 mixed := by kernel_rfl
 f6 := ⟨Tryz.f59.name, by decide, Tryz.func59.trans (congrArg some (by kernel_rfl))⟩
 f8 := ⟨Tryz.f78.name, by decide, Tryz.func78.trans (congrArg some (by kernel_rfl))⟩
 f11 := ⟨Tryz.f87.name, by decide, Tryz.func87.trans (congrArg some (by kernel_rfl))⟩
 t0 := Tryz.underlying0
 a0 := Tryz.isAgg0
 z0 := Tryz.sizeOf0
 v0 := Tryz.zeroValue0
 t24 := Tryz.underlying32
 a24 := Tryz.isAgg32
 z24 := Tryz.sizeOf32
 v24 := Tryz.zeroValue32
 t26 := Tryz.underlying9
 a26 := Tryz.isAgg9
 z26 := Tryz.sizeOf9
 v26 := Tryz.zeroValue9
 t28 := Tryz.underlying80
 a28 := Tryz.isAgg80
 z28 := Tryz.sizeOf80
 v28 := Tryz.zeroValue80
 i26 := by kernel_rfl }
def Tryz.sort79_ren : Go.Shelf.Ren := ⟨fun | 6 => 79 | 8 => 89 | 9 => 88 | 19 => 103 | 20 => 57 | 21 => 94 | 22 => 95 | 23 => 96 | 24 => 97 | 25 => 98 | 26 => 99 | 27 => 100 | 28 => 101 | 29 => 102 | 36 => 111 | 31 => 112 | 32 => 113 | 37 => 114 | 38 => 115 | 39 => 116 | 41 => 121 | n => n, fun | 27 => 32 | 29 => 9 | 3 => 3 | 32 => 73 | 26 => 32 | 0 => 0 | 44 => 129 | 46 => 22 | 4 => 4 | 36 => 121 | 35 => 120 | 41 => 126 | 5 => 5 | 9 => 9 | 53 => 141 | 57 => 145 | 63 => 150 | 64 => 151 | n => n, fun | n => n⟩
theorem Tryz.sort79 : Go.Proofs.SlLaysM.n6 Tryz.prog Tryz.sort79_ren := {
 mixed := by kernel_rfl
 f6 := ⟨Tryz.f79.name, by decide, Tryz.func79.trans (congrArg some (by kernel_rfl))⟩
 f8 := Tryz.func89.trans (congrArg some (by kernel_rfl))
 f9 := ⟨Tryz.f88.name, by decide, Tryz.func88.trans (congrArg some (by kernel_rfl))⟩
 f19 := Tryz.func103.trans (congrArg some (by kernel_rfl))
 f20 := Tryz.func57.trans (congrArg some (by kernel_rfl))
 f21 := ⟨Tryz.f94.name, by decide, Tryz.func94.trans (congrArg some (by kernel_rfl))⟩
 f22 := ⟨Tryz.f95.name, by decide, Tryz.func95.trans (congrArg some (by kernel_rfl))⟩
 f23 := ⟨Tryz.f96.name, by decide, Tryz.func96.trans (congrArg some (by kernel_rfl))⟩
 f24 := ⟨Tryz.f97.name, by decide, Tryz.func97.trans (congrArg some (by kernel_rfl))⟩
 f25 := ⟨Tryz.f98.name, by decide, Tryz.func98.trans (congrArg some (by kernel_rfl))⟩
 f26 := ⟨Tryz.f99.name, by decide, Tryz.func99.trans (congrArg some (by kernel_rfl))⟩
 f27 := ⟨Tryz.f100.name, by decide, Tryz.func100.trans (congrArg some (by kernel_rfl))⟩
 f28 := ⟨Tryz.f101.name, by decide, Tryz.func101.trans (congrArg some (by kernel_rfl))⟩
 f29 := ⟨Tryz.f102.name, by decide, Tryz.func102.trans (congrArg some (by kernel_rfl))⟩
 f31 := Tryz.func112.trans (congrArg some (by kernel_rfl))
 f32 := Tryz.func113.trans (congrArg some (by kernel_rfl))
 f36 := ⟨Tryz.f111.name, by decide, Tryz.func111.trans (congrArg some (by kernel_rfl))⟩
 f37 := ⟨Tryz.f114.name, by decide, Tryz.func114.trans (congrArg some (by kernel_rfl))⟩
 f38 := ⟨Tryz.f115.name, by decide, Tryz.func115.trans (congrArg some (by kernel_rfl))⟩
 f39 := ⟨Tryz.f116.name, by decide, Tryz.func116.trans (congrArg some (by kernel_rfl))⟩
 f41 := ⟨Tryz.f121.name, by decide, Tryz.func121.trans (congrArg some (by kernel_rfl))⟩
 t0 := Tryz.underlying0
 a0 := Tryz.isAgg0
 z0 := Tryz.sizeOf0
 v0 := Tryz.zeroValue0
 t3 := Tryz.underlying3
 a3 := Tryz.isAgg3
 z3 := Tryz.sizeOf3
 v3 := Tryz.zeroValue3
 t4 := Tryz.underlying4
 a4 := Tryz.isAgg4
 z4 := Tryz.sizeOf4
 v4 := Tryz.zeroValue4
 t5 := Tryz.underlying5
 a5 := Tryz.isAgg5
 z5 := Tryz.sizeOf5
 v5 := Tryz.zeroValue5
 t9 := Tryz.underlying9
 a9 := Tryz.isAgg9
 z9 := Tryz.sizeOf9
 v9 := Tryz.zeroValue9
 t26 := Tryz.underlying32
 a26 := Tryz.isAgg32
 z26 := Tryz.sizeOf32
 v26 := Tryz.zeroValue32
 t27 := Tryz.underlying32
 a27 := Tryz.isAgg32
 z27 := Tryz.sizeOf32
 v27 := Tryz.zeroValue32
 t29 := Tryz.underlying9
 a29 := Tryz.isAgg9
 z29 := Tryz.sizeOf9
 v29 := Tryz.zeroValue9
 t32 := Tryz.underlying73
 a32 := Tryz.isAgg73
 z32 := Tryz.sizeOf73
 v32 := Tryz.zeroValue73
 t35 := Tryz.underlying120
 a35 := Tryz.isAgg120
 z35 := Tryz.sizeOf120
 v35 := Tryz.zeroValue120
 t36 := Tryz.underlying121
 a36 := Tryz.isAgg121
 z36 := Tryz.sizeOf121
 v36 := Tryz.zeroValue121
 t41 := Tryz.underlying126
 a41 := Tryz.isAgg126
 z41 := Tryz.sizeOf126
 v41 := Tryz.zeroValue126
 t44 := Tryz.underlying129
 a44 := Tryz.isAgg129
 z44 := Tryz.sizeOf129
 v44 := Tryz.zeroValue129
 t46 := Tryz.underlying22
 a46 := Tryz.isAgg22
 z46 := Tryz.sizeOf22
 v46 := Tryz.zeroValue22
 t53 := Tryz.underlying141
 a53 := Tryz.isAgg141
 z53 := Tryz.sizeOf141
 v53 := Tryz.zeroValue141
 t57 := Tryz.underlying145
 a57 := Tryz.isAgg145
 z57 := Tryz.sizeOf145
 v57 := Tryz.zeroValue145
 t63 := Tryz.underlying150
 a63 := Tryz.isAgg150
 z63 := Tryz.sizeOf150
 v63 := Tryz.zeroValue150
 t64 := Tryz.underlying151
 a64 := Tryz.isAgg151
 z64 := Tryz.sizeOf151
 v64 := Tryz.zeroValue151 }
open Go.RowKit Go.Maps Go.Sort in
theorem Tryz.sorts59 (m : Nat) : AnyZ.SortsIn Tryz.prog Tryz.sorted59_ren Fence.wide m :=
 ⟨fun blk off cap ss W hH hblk hsz => callsIn_wide.2 (AnyM.slices_Sort_string Tryz.sort79 blk off cap ss W hH hblk hsz),
  fun p cap W => callsIn_wide.2 (AnyM.slices_Sort_string_none Tryz.sort79 p cap W)⟩
open Go.RowKit Go.Maps Go.Sort in
theorem Tryz.maps_Keys_60 (mb : Option Nat) (W : World) : CallsIn Fence.wide 5 Tryz.prog 60 #[.map mb] W fun e w' => e = .returned (.func (.func 80) #[] #[.pointer (some ⟨W.heap.size, 0, none⟩)]) ∧ w' = W.alloc (.cells #[.map mb] 47) :=
 AnyZ.keys_in Tryz.keys60 Fence.wide 5 trivial rfl mb W
open Go.RowKit Go.Maps Go.Sort in
theorem Tryz.slices_Sorted_keys_59_60 {H : Type} (b nn : Nat) (D0 : DataW H) (R : Value → Option (DataW H × List MemPlace)) (w : World) (hown : w.ownsMap Tryz.prog 9 R b nn D0) (hmax : Maps.size D0 ≤ maxLen) (hbytes : Maps.size D0 * 16 ≤ 140737488355328) :
  CallsIn Fence.wide 5 Tryz.prog 59 #[.func (.func 80) #[] #[.pointer (some ⟨w.heap.size, 0, none⟩)]] (w.alloc (.cells #[.map (some b)] 47)) fun e w' => ∃ (v : Value) (ss : List (List UInt8)), e = .returned v ∧ ss.Perm (strKeys D0) ∧
   w'.ownsRow (w.alloc (.cells #[.map (some b)] 47)).heap.size 9 1 v ss.length ((ss.mergeSort (fun x y => decide (x ≤ y))).map encStr) ∧ (v = .slice none 0 0 ↔ ss = []) ∧ Below (w.alloc (.cells #[.map (some b)] 47)).heap.size (w.alloc (.cells #[.map (some b)] 47)) w' := by
 have hbl := hown.lt
 have hseq : SeqGives Fence.wide 2 Tryz.prog 80 #[.pointer (some ⟨w.heap.size, 0, none⟩)] encStr (fun ss => ss.Perm (strKeys D0)) (Maps.size D0) (w.alloc (.cells #[.map (some b)] 47)) :=
  AnyZ.keys_gives (ρ := Tryz.keys60_ren) { Tryz.keys60 with } Fence.wide _ trivial rfl (by omega) w.heap.size b nn D0 _ (by simp) (by simp) (by
   obtain ⟨es, clock, hb, Ft, hs, hD⟩ := hown
   exact ⟨es, clock, (Below.heap_alloc _ _ b hbl).trans hb, Ft, hs, hD⟩)
 exact AnyZ.sorted_in Tryz.sorted59 Fence.wide 5 trivial trivial trivial trivial rfl (by omega) (Tryz.sorts59 _) (enters_of Tryz.func79 (by kernel_rfl) rfl) 80 #[.pointer (some ⟨w.heap.size, 0, none⟩)] trivial (enters_of Tryz.func80 (by kernel_rfl) rfl) _ _ hmax hbytes _ hseq
end Go.Proofs
end
section

namespace Go.Proofs.YtlhoahbpklhpmaaGreatDoor
open Go.RowKit Go.Proofs.YtlhoahbpklhpmaaGreatDoorW.PrintWords
set_option linter.unusedVariables false
def bits_Len64.f (a0 : Int) : Option Int := if 0 ≤ a0 ∧ a0 ≤ 18446744073709551615 then some (Lib.bitLen a0.toNat) else none
theorem bits_Len64.calls (a0 : Int) (r : Int) (w : World) (h : bits_Len64.f a0 = some r) :
  Calls Tryz.prog 57 #[.int .u64 a0] w fun e w' => e = .returned (.int .i64 r) ∧ Drawn0 w w' := by
 unfold bits_Len64.f at h
 split at h
 ·rename_i hs
  obtain rfl := Option.some.inj h
  refine (Tryz.bits_Len64 a0 w hs.1 hs.2).mono ?_
  rintro e w' ⟨rfl, rfl⟩
  exact ⟨rfl, Drawn0.refl _⟩
 ·exact absurd h (by simp)
end Go.Proofs.YtlhoahbpklhpmaaGreatDoor
end
section

namespace Go.Proofs
open Go.Shelf Go.RowKit
def Tryz.lays196_ren : Go.Shelf.Ren := ⟨fun | 196 => 83 | 259 => 91 | n => n, fun | 12 => 12 | 46 => 73 | 53 => 22 | 119 => 109 | 138 => 111 | 139 => 112 | n => n, fun | 3 => 0 | 4 => 1 | n => n⟩
theorem Tryz.lays196 : Go.Proofs.Lays.n196 Tryz.prog Tryz.lays196_ren := {
 mixed := by kernel_rfl
 f196 := Tryz.func83.trans (congrArg some (by kernel_rfl))
 f259 := Tryz.func91.trans (congrArg some (by kernel_rfl))
 t0 := Tryz.underlying0
 a0 := Tryz.isAgg0
 z0 := Tryz.sizeOf0
 v0 := Tryz.zeroValue0
 t3 := Tryz.underlying3
 a3 := Tryz.isAgg3
 z3 := Tryz.sizeOf3
 v3 := Tryz.zeroValue3
 t4 := Tryz.underlying4
 a4 := Tryz.isAgg4
 z4 := Tryz.sizeOf4
 v4 := Tryz.zeroValue4
 t5 := Tryz.underlying5
 a5 := Tryz.isAgg5
 z5 := Tryz.sizeOf5
 v5 := Tryz.zeroValue5
 t9 := Tryz.underlying9
 a9 := Tryz.isAgg9
 z9 := Tryz.sizeOf9
 v9 := Tryz.zeroValue9
 t12 := Tryz.underlying12
 a12 := Tryz.isAgg12
 z12 := Tryz.sizeOf12
 v12 := Tryz.zeroValue12
 t46 := Tryz.underlying73
 a46 := Tryz.isAgg73
 z46 := Tryz.sizeOf73
 v46 := Tryz.zeroValue73
 t53 := Tryz.underlying22
 a53 := Tryz.isAgg22
 z53 := Tryz.sizeOf22
 v53 := Tryz.zeroValue22
 t119 := Tryz.underlying109
 a119 := Tryz.isAgg109
 z119 := Tryz.sizeOf109
 t138 := Tryz.underlying111
 a138 := Tryz.isAgg111
 z138 := Tryz.sizeOf111
 v138 := Tryz.zeroValue111
 t139 := Tryz.underlying112
 a139 := Tryz.isAgg112
 z139 := Tryz.sizeOf112
 v139 := Tryz.zeroValue112
 g3 := by kernel_rfl
 g4 := by kernel_rfl }
theorem Tryz.ValidString (s : ByteArray) (w : World) (hs : s.size ≤ 9223372036854775807) (hT : Lib.Utf8Tabs 0 1 w) :
  Calls Tryz.prog 83 #[.string s] w fun e w' => e = .returned (.bool (Lib.validD s.data.toList)) ∧ Below w.heap.size w w' := Any.utf8_ValidString Tryz.lays196 s w hs hT
end Go.Proofs
end
