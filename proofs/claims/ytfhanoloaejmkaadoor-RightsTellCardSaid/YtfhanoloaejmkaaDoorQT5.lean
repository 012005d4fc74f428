/- Contracts and laws that the statement of LawRightsTell leans on (packed from this claim's own texts): part 5. -/
import Derived.WalkKit
import Derived.WalkLawsBesides
import Derived.WalkSpells
import Derived.Below
import Derived.Lib.Hide
import Derived.Test.YtfhanoloaejmkaaDoorProg
import Derived.LoopTactic
import Derived.Lib.ConvBytes
import Derived.RegionTactic
import Derived.Deep.QuietTactic
import Derived.BigQuiet
import Derived.Laws.Bits64b
import Derived.OwnWalk
import Derived.Deep.RegionHeld3
import Derived.Deep.AppendLies
import Derived.Deep.RegionWith
import Derived.Deep.RegionLaw
import Derived.Deep.DeepCutAuto
import Derived.Outline
import Derived.Test.YtfhanoloaejmkaaDoorQT1
import Derived.Test.YtfhanoloaejmkaaDoorQT2
import Derived.Test.YtfhanoloaejmkaaDoorQT3
import Derived.Test.YtfhanoloaejmkaaDoorQT4
section

namespace Go.Proofs.YtfhanoloaejmkaaDoor
open Go.RowKit Go.Proofs.YtfhanoloaejmkaaDoorW.PrintWords
set_option linter.unusedVariables false
def joinB (l : List ByteArray) : ByteArray := ofBytes (l.flatMap bytes)
def wire_join.f (l0 : List ByteArray) : Option ByteArray :=
 if l0.length ≤ 140737488355328 ∧ (joinB l0).size ≤ 140737488355328 then some (joinB l0) else none
theorem join_flat (l : List ByteArray) : Lib.join (l.map (·.data.toList)) (⟨#[]⟩ : ByteArray).data.toList = l.flatMap bytes := by
 cases l with
 | nil => rfl
 | cons x l =>
  rw [List.map_cons, Lib.join_cons]
  have h : (⟨#[]⟩ : ByteArray).data.toList = [] := rfl
  rw [h]
  unfold Lib.joinTail
  rw [List.flatMap_cons, List.flatMap_def, List.map_map]
  show _ = x.data.toList ++ _
  congr 2
theorem add_at (b o j : Nat) : (⟨b, o, none⟩ : Addr).add j = ⟨b, o + j, none⟩ := by
 unfold Addr.add
 split <;> simp_all
theorem spot_none {w : World} {b o : Nat} {sp : Option Nat} {v : Value} (h : w.cell? ⟨b, o, sp⟩ = some v) : sp = none := by
 unfold World.cell? at h
 split at h
 ·cases sp with
  | none => rfl
  | some x => simp at h
 ·exact absurd h (by simp)
theorem join_any (A : Option Addr) (c : Nat) (l : List ByteArray) (w : World) (hr : Kd.C Kd.string w A l.length l) (hc : l.length ≤ c) (h1 : l.length ≤ 140737488355328) (h2 : (joinB l).size ≤ 140737488355328) :
  Calls Tryd.prog 76 #[.slice A l.length c, .string ⟨#[]⟩] w fun e w' => e = .returned (.string (joinB l)) ∧ Below w.heap.size w w' := by
 rcases Nat.eq_zero_or_pos l.length with h0 | h0
 ·obtain rfl : l = [] := List.eq_nil_of_length_eq_zero h0
  refine (Tryd.strings_Join_none A c _ w).mono ?_
  rintro e w' ⟨rfl, rfl⟩
  exact ⟨rfl, Below.refl _ _⟩
 ·obtain ⟨ad, rfl, hcells⟩ := hr.2.2 h0
  obtain ⟨b, o, sp⟩ := ad
  have hcell : ∀ (j : Nat) x, l[j]? = some x → w.cell? ((⟨b, o, sp⟩ : Addr).add j) = some (.string x) := by
   intro j x hx
   obtain ⟨cs, hl, rfl, hz⟩ := hcells j x hx
   have := hz 0 (.string x) rfl
   rwa [show j * Kd.string.sz + 0 = j from by simp [Kd.string, Kd.scalar]] at this
  have hsp : sp = none := by
   have := hcell 0 l[0] (List.getElem?_eq_getElem h0)
   rw [show (⟨b, o, sp⟩ : Addr).add 0 = ⟨b, o, sp⟩ from rfl] at this
   exact spot_none this
  subst hsp
  have h3 := Tryd.strings_Join b o c l (⟨#[]⟩ : ByteArray) w ?_ ?_ h1 hc ?_
  ·rw [join_flat] at h3
   exact h3
  ·intro j x hx
   have := hcell j x hx
   rwa [add_at] at this
  ·have := hcell 0 l[0] (List.getElem?_eq_getElem h0)
   rw [add_at] at this
   exact World.block_lt_of_cell? w _ this
  ·rw [join_flat]
   rwa [joinB, size_ofBytes] at h2
theorem wire_join.calls (A0 : Option Addr) (c0 : Nat) (l0 : List ByteArray) (r : ByteArray) (w : World) (hr0 : Kd.C Kd.string w A0 l0.length l0) (hc0 : l0.length ≤ c0) (h : wire_join.f l0 = some r) :
  Calls Tryd.prog 62 #[.slice A0 l0.length c0] w fun e w' => e = .returned (.string r) ∧ Below w.heap.size w w' := by
 unfold wire_join.f at h
 split at h
 ·rename_i hsz
  obtain ⟨h1, h2⟩ := hsz
  obtain rfl := Option.some.inj h
  have H := Lib.hid (join_any A0 c0 l0 w hr0 hc0 h1 h2)
  clear hr0 hc0 h h1 h2
  go_enter Tryd.func62, Tryd.ntmps62
  go_wp2_with fail
  refine (H.out).mono ?_
  rintro e w' ⟨rfl, hb⟩
  have HB := Lib.hid hb
  clear hb
  go_wp2
  go_ret
  exact ⟨rfl, HB.out⟩
 ·exact absurd h (by simp)
end Go.Proofs.YtfhanoloaejmkaaDoor
end
section

namespace Go.Proofs.YtfhanoloaejmkaaDoor
open Go.RowKit Go.Proofs.YtfhanoloaejmkaaDoorW.PrintWords
set_option linter.unusedVariables false
set_option linter.unusedSimpArgs false
theorem less_lt : ∀ (x y : List UInt8), Op.bytesLess x y = decide (x < y)
 | [], [] => by simp [Op.bytesLess]
 | _ :: _, [] => by simp [Op.bytesLess]
 | [], _ :: _ => by simp [Op.bytesLess]
 | a :: x, b :: y => by
  rw [Op.bytesLess, less_lt x y]
  by_cases h1 : a < b
  ·simp [h1, List.cons_lt_cons_iff]
  ·by_cases h2 : a = b
   ·subst h2; simp
   ·have h3 : (a == b) = false := beq_eq_false_iff_ne.mpr h2
    simp [h1, h2, List.cons_lt_cons_iff]
theorem lessB (a b : ByteArray) : Op.bytesLess a.toList b.toList = ltB a b := by
 rw [less_lt, bytes_toList, bytes_toList]; rfl
theorem rowC {w : World} {A : Option Addr} {l : List ByteArray} (h : Kd.C Kd.string w A l.length l) (h0 : 0 < l.length) : ∃ b o, A = some ⟨b, o, none⟩ ∧ ∀ j, j < l.length → w.cell? ⟨b, o + j, none⟩ = some (.string (nth l j)) := by
 obtain ⟨ad, rfl, hcells⟩ := h.2.2 h0
 obtain ⟨b, o, sp⟩ := ad
 have hcell : ∀ (j : Nat) x, l[j]? = some x → w.cell? ((⟨b, o, sp⟩ : Addr).add j) = some (.string x) := by
  intro j x hx
  obtain ⟨cs, hl, rfl, hz⟩ := hcells j x hx
  have := hz 0 (.string x) rfl
  rwa [show j * Kd.string.sz + 0 = j from by simp [Kd.string, Kd.scalar]] at this
 have hsp : sp = none := by
  have := hcell 0 l[0] (List.getElem?_eq_getElem h0)
  rw [show (⟨b, o, sp⟩ : Addr).add 0 = ⟨b, o, sp⟩ from rfl] at this
  exact spot_none this
 subst hsp
 refine ⟨b, o, rfl, fun j hj => ?_⟩
 have := hcell j l[j] (List.getElem?_eq_getElem hj)
 rw [add_at] at this
 rw [this, nth_get hj]
theorem search_any (A : Option Addr) (c : Nat) (l : List ByteArray) (x : ByteArray) (w : World) (hr : Kd.C Kd.string w A l.length l) (hl : l.length < 4611686018427387904) :
  Calls Tryd.prog 56 #[.slice A l.length c, .string x] w fun e w' => e = .returned (.tuple #[.int .i64 (searchN l x : Nat), .bool (searchB l x)]) ∧ Drawn0 w w' := by
 rcases Nat.eq_zero_or_pos l.length with h0 | h0
 ·obtain rfl : l = [] := List.eq_nil_of_length_eq_zero h0
  refine (Any2.slices_BinarySearch_string_empty Tryd.lays2_26 A c x w).mono ?_
  rintro e w' ⟨rfl, rfl⟩
  exact ⟨rfl, Drawn0.refl _⟩
 ·obtain ⟨b, o, rfl, hc⟩ := rowC hr h0
  refine (Any2.slices_BinarySearch_string Tryd.lays2_26 b o l.length c (nth l) x w hl hc).mono ?_
  rintro e w' ⟨rfl, hw⟩
  have e1 : (fun t => Op.bytesLess (nth l t).toList x.toList) = fun t => ltB (nth l t) x := funext fun t => lessB _ _
  rw [e1]
  exact ⟨rfl, ⟨hw⟩⟩
def rights_place.f (l : List ByteArray) (x : ByteArray) : Option (Int × Bool) := if l.length ≤ 140737488355328 then some ((searchN l x : Nat), searchB l x) else none
theorem rights_place.calls (A0 : Option Addr) (c0 : Nat) (l0 : List ByteArray) (a1 : ByteArray) (r1 : Int) (r2 : Bool) (w : World) (hr0 : Kd.C Kd.string w A0 l0.length l0) (hc0 : l0.length ≤ c0) (h : rights_place.f l0 a1 = some (r1, r2)) :
  Calls Tryd.prog 34 #[.slice A0 l0.length c0, .string a1] w fun e w' => e = .returned (.tuple #[.int .i64 r1, .bool r2]) ∧ Below w.heap.size w w' := by
 unfold rights_place.f at h
 split at h
 ·rename_i hsz
  simp only [Option.some.injEq, Prod.mk.injEq] at h
  obtain ⟨rfl, rfl⟩ := h
  have H := Lib.hid (search_any A0 c0 l0 a1 w hr0 (by omega))
  generalize searchN l0 a1 = N at H ⊢
  generalize searchB l0 a1 = R at H ⊢
  clear hr0 hc0 hsz
  go_enter Tryd.func34, Tryd.ntmps34
  go_wp2_with fail
  refine (H.out).mono ?_
  rintro e w' ⟨rfl, hb⟩
  have HB := Lib.hid hb.below
  clear hb
  go_wp2
  go_ret2
  exact ⟨rfl, HB.out⟩
 ·exact absurd h (by simp)
end Go.Proofs.YtfhanoloaejmkaaDoor
end
section

section
namespace Go.Proofs.YtfhanoloaejmkaaDoor
open Go.RowKit
set_option linter.unusedVariables false
def wire_Take.f (a0 : ByteArray) : Option (Int × ByteArray × Int) := if a0.size ≤ 9223372036854775000 then some (takeF a0) else none
set_option maxRecDepth 100000 in
theorem take_nil (w : World) :
  Calls Tryd.prog 46 #[.string ⟨#[]⟩] w fun e w' => e = .returned (.tuple #[.int .u64 0, .string ⟨#[]⟩, .int .i64 2]) ∧ w = w' := by
 go_enter Tryd.func46, Tryd.ntmps46
 go_wp2
 go_ret3
 exact ⟨rfl, rfl⟩
set_option maxRecDepth 100000 in
theorem take_bad (s t : ByteArray) (c : Nat) (hc2 : c < 256) (hs : s.size = t.size + 1) (h1 : s.toList.isEmpty = false) (hr : t.size ≤ 9223372036854775000) (hc : ∀ h : 0 < s.size, (s[0]'h).toNat = c) (hx : s.extract 1 (t.size + 1) = t)
  (hbad : 8 < c ∨ t.size < c) (w : World) :
  Calls Tryd.prog 46 #[.string s] w fun e w' => e = .returned (.tuple #[.int .u64 0, .string ⟨#[]⟩, .int .i64 2]) ∧ w = w' := by
 by_cases h8 : 8 < c
 ·clear hbad
  go_enter Tryd.func46, Tryd.ntmps46
  go_wp2
  go_ret3
  exact ⟨rfl, rfl⟩
 ·have h9 : t.size < c := by omega
  clear hbad
  go_enter Tryd.func46, Tryd.ntmps46
  go_wp2
  go_ret3
  exact ⟨rfl, rfl⟩
theorem bytesWorld_below (w : World) (e : TypeId) (s : ByteArray) : Below w.heap.size w (Lib.bytesWorld w e s) :=
 ⟨rfl, rfl, rfl, by rw [Lib.bytesWorld_size]; omega, fun k hk => Lib.bytesWorld_at_old w e s k hk⟩
theorem or_shift (n b : Nat) (hn : n < 72057594037927936) (hb : b < 256) : bits BinOp.or IntKind.u64 (IntKind.u64.wrap ((n : Int) * 256)) (b : Int) = ((n * 256 + b : Nat) : Int) := by
 have h1 : IntKind.u64.wrap ((n : Int) * 256) = ((n * 256 : Nat) : Int) := by rw [IntKind.wrap_u64]; omega
 rw [h1, bits_or_u64_nat _ _ (by omega) (by omega)]
 have h2 : n * 256 ||| b = n * 256 + b := by
  have := Nat.shiftLeft_add_eq_or_of_lt (i := 8) (show b < 2 ^ 8 from hb) n
  rw [Nat.shiftLeft_eq] at this
  exact this.symm
 rw [h2]
theorem take_num (l : Bs) (k : Nat) (hk : k < l.length) (h8 : k < 8) : beNum (l.take k) < 72057594037927936 ∧ beNum (l.take (k + 1)) = beNum (l.take k) * 256 + (l[k]).toNat := by
 constructor
 ·have h1 := beNum_lt (l.take k)
  have h2 : 256 ^ (l.take k).length ≤ 256 ^ 7 := Nat.pow_le_pow_right (by decide) (by rw [List.length_take]; omega)
  have h3 : (256 : Nat) ^ 7 = 72057594037927936 := by decide
  omega
 ·rw [take_succ_get l k hk, beNum_snoc]
def takeRes (c d : Nat) (t : ByteArray) : Value := if 0 < c ∧ d = 0 then .tuple #[.int .u64 0, .string ⟨#[]⟩, .int .i64 2] else .tuple #[.int .u64 (beNum ((bytes t).take c) : Nat), .string (t.extract c t.size), .int .i64 0]
theorem below_drewN' {B : Nat} {w W : World} (h : Below B w W) (n : Nat) : Below B w (W.drewN n) := ⟨h.os, h.tape, h.output, h.size, h.block⟩
set_option maxRecDepth 100000 in
theorem take_loop (s t : ByteArray) (c : Nat) (hc2 : c ≤ 8) (hs : s.size = t.size + 1) (h1 : s.toList.isEmpty = false) (hr : t.size ≤ 9223372036854775000) (hc : ∀ h : 0 < s.size, (s[0]'h).toNat = c) (hx : s.extract 1 (t.size + 1) = t)
  (hgood : c ≤ t.size) (d : Nat) (hd : ∀ h : 0 < t.size, (t[0]'h).toNat = d) (w : World) :
  Calls Tryd.prog 46 #[.string s] w fun e w' => e = .returned (takeRes c d t) ∧ Below w.heap.size w w' := by
 have hcv := Lib.run_convert_string_bytes (P := Tryd.prog) w 9 79 5 (t.extract 0 c) Tryd.underlying9 Tryd.underlying79 Tryd.underlying5
 have hsz : (t.extract 0 c).size = c := by rw [ByteArray.size_extract]; omega
 go_enter Tryd.func46, Tryd.ntmps46
 go_wp2
 have HX := fun j hj => Lib.bytesWorld_cell w 5 (t.extract 0 c) j hj
 have HB := Lib.hid (bytesWorld_below w 5 (t.extract 0 c))
 rw [hsz] at HX
 have HY := Lib.hid HX
 clear HX hcv hsz hx hc
 obtain ⟨W, hW⟩ : ∃ W, Lib.bytesWorld w 5 (t.extract 0 c) = W := ⟨_, rfl⟩
 have HW := Lib.hid hW
 rw [hW] at HY HB ⊢
 clear hW
 go_loop [6, 29] (fun n i => ∃ k : Nat, k ≤ c ∧ i = .int .i64 k ∧ n = .int .u64 (beNum ((bytes t).take k) : Nat)) (fun _ i => c - (intOf i).toNat)
 case atStart => exact ⟨0, Nat.zero_le _, rfl, rfl⟩
 case round =>
  obtain ⟨k, hk, rfl, rfl⟩ := hrel
  by_cases hlt : k < c
  ·have hb := HY.out k hlt
   have hkt : k < (bytes t).length := by rw [bytes_length]; omega
   have hval : (t.extract 0 c).data.toList.getD k 0 = (bytes t)[k] := by
    show (bytes (t.extract 0 c)).getD k 0 = _
    rw [bytes_to, List.getD_eq_getElem?_getD, List.getElem?_take_of_lt hlt, List.getElem?_eq_getElem hkt]
    rfl
   rw [hval] at hb
   have hbl := (bytes t)[k].toNat_lt
   have hsn := take_num (bytes t) k hkt (by omega)
   generalize hB : ((bytes t)[k]).toNat = b at hb hbl hsn
   generalize hN : beNum (List.take k (bytes t)) = N at hsn
   have Hs := Lib.hid hsn.1
   have Hs2 := Lib.hid hsn.2
   clear hsn hval hB hN
   have ho := or_shift N b Hs.out hbl
   go_wp2
   go_round
   case rel => exact ⟨k + 1, by omega, by go_num, by rw [Hs2.out]; go_num⟩
   case measure => simp [intOf]; omega
  ·obtain rfl : k = c := by omega
   clear hlt
   by_cases h0 : 0 < k
   ·have hd0 := hd (by omega)
    by_cases hz : d = 0
    ·have Hz := Lib.hid hz
     have hz1 : ((d : Int) == 0) = true := by rw [beq_iff_eq]; omega
     clear hz
     go_wp2
     go_ret3
     exact ⟨by unfold takeRes; rw [if_pos ⟨h0, Hz.out⟩]; rfl, HB.out⟩
    ·have Hz := Lib.hid hz
     have hz2 : ((d : Int) == 0) = false := by rw [beq_eq_false_iff_ne]; omega
     clear hz
     go_wp2
     go_quiet (fail)
     go_wp2
     go_ret3
     exact ⟨by unfold takeRes; rw [if_neg (fun h => Hz.out h.2)]; rfl, below_drewN' HB.out _⟩
   ·obtain rfl : k = 0 := by omega
    go_wp2
    go_quiet (fail)
    go_wp2
    go_ret3
    exact ⟨by unfold takeRes; rw [if_neg (fun h => h0 h.1), show t.extract 0 t.size = t from by simp]; rfl, below_drewN' HB.out _⟩
theorem bytes_cons {s : ByteArray} {c : UInt8} {r : Bs} (h : bytes s = c :: r) : s.size = r.length + 1 ∧ s.toList.isEmpty = false ∧ (∀ h : 0 < s.size, (s[0]'h) = c) ∧ bytes (s.extract 1 s.size) = r := by
 have h1 : s.size = r.length + 1 := by rw [← bytes_length, h]; rfl
 refine ⟨h1, by rw [bytes_toList, h]; rfl, fun h0 => ?_, by rw [bytes_from, h]; rfl⟩
 have h2 : (bytes s)[0]'(by rw [h]; simp) = c := by simp [h]
 exact h2
theorem takeF_cons {s : ByteArray} {c : UInt8} {r : Bs} (h : bytes s = c :: r) (hc : c.toNat ≤ 8) (hr : c.toNat ≤ r.length) (d : UInt8) (hd : 0 < r.length → r.head? = some d) :
  takeRes c.toNat d.toNat (s.extract 1 s.size) = .tuple #[.int .u64 (takeF s).1, .string (takeF s).2.1, .int .i64 (takeF s).2.2] := by
 have hb := (bytes_cons h).2.2.2
 unfold takeF takeRes
 rw [h]
 simp only [takeL]
 rw [if_neg (show ¬ 8 < c.toNat by omega), if_neg (show ¬ r.length < c.toNat by omega)]
 by_cases h0 : 0 < c.toNat
 ·rw [hd (by omega)]
  by_cases hz : d = 0
  ·subst hz
   rw [if_pos ⟨h0, rfl⟩, if_pos ⟨h0, rfl⟩]
  ·rw [if_neg (fun q => hz (UInt8.toNat_inj.1 q.2)), if_neg (fun q => hz (Option.some.inj q.2))]
   rw [hb]
   have h3 : (s.extract 1 s.size).extract c.toNat (s.extract 1 s.size).size = ofBytes (r.drop c.toNat) := bs_inj (by rw [bytes_from, hb, bytes_ofBytes])
   rw [h3]
 ·rw [if_neg (fun q => h0 q.1), if_neg (fun q => h0 q.1), hb]
  have h3 : (s.extract 1 s.size).extract c.toNat (s.extract 1 s.size).size = ofBytes (r.drop c.toNat) := bs_inj (by rw [bytes_from, hb, bytes_ofBytes])
  rw [h3]
theorem wire_Take.calls (a0 : ByteArray) (r1 : Int) (r2 : ByteArray) (r3 : Int) (w : World) (h : wire_Take.f a0 = some (r1, r2, r3)) :
  Calls Tryd.prog 46 #[.string a0] w fun e w' => e = .returned (.tuple #[.int .u64 r1, .string r2, .int .i64 r3]) ∧ Below w.heap.size w w' := by
 unfold wire_Take.f at h
 split at h
 ·rename_i hsz
  have h := Option.some.inj h
  cases hb : bytes a0 with
  | nil =>
   have ha : a0 = ⟨#[]⟩ := bs_inj (by rw [hb]; rfl)
   subst ha
   have hf : takeF ⟨#[]⟩ = (0, ⟨#[]⟩, 2) := rfl
   rw [hf] at h
   simp only [Prod.mk.injEq] at h
   obtain ⟨rfl, rfl, rfl⟩ := h
   refine (take_nil w).mono ?_
   rintro e w' ⟨rfl, rfl⟩
   exact ⟨rfl, Below.refl _ _⟩
  | cons c r =>
   obtain ⟨h1, h2, h3, h4⟩ := bytes_cons hb
   have h5 : (a0.extract 1 a0.size).size = r.length := by rw [← bytes_length, h4]
   have h6 : a0.size = (a0.extract 1 a0.size).size + 1 := by rw [h5, h1]
   have hc : ∀ q : 0 < a0.size, (a0[0]'q).toNat = c.toNat := fun q => by rw [h3 q]
   by_cases hbad : 8 < c.toNat ∨ r.length < c.toNat
   ·have hf : takeF a0 = (0, ⟨#[]⟩, 2) := by
     unfold takeF
     rw [hb]
     simp only [takeL]
     by_cases q : 8 < c.toNat
     ·rw [if_pos q]
     ·rw [if_neg q, if_pos (by omega)]
    rw [hf] at h
    simp only [Prod.mk.injEq] at h
    obtain ⟨rfl, rfl, rfl⟩ := h
    refine (take_bad a0 (a0.extract 1 a0.size) c.toNat c.toNat_lt h6 h2 (by omega) hc (by rw [← h6]) (by rw [h5]; exact hbad) w).mono ?_
    rintro e w' ⟨rfl, rfl⟩
    exact ⟨rfl, Below.refl _ _⟩
   ·obtain ⟨d, hd⟩ : ∃ d : UInt8, 0 < r.length → r.head? = some d := by
     cases r with
     | nil => exact ⟨0, fun q => absurd q (by simp)⟩
     | cons d r => exact ⟨d, fun _ => rfl⟩
    have hres := takeF_cons hb (by omega) (by omega) d hd
    refine (take_loop a0 (a0.extract 1 a0.size) c.toNat (by omega) h6 h2 (by omega) hc (by rw [← h6]) (by omega) d.toNat ?_ w).mono ?_
    ·intro q
     have q2 : (bytes (a0.extract 1 a0.size))[0]? = some d := by rw [h4, ← List.head?_eq_getElem?]; exact hd (by omega)
     rw [List.getElem?_eq_getElem (by rw [h4]; omega)] at q2
     exact congrArg UInt8.toNat (Option.some.inj q2)
    ·rintro e w' ⟨rfl, hB⟩
     rw [hres, h]
     exact ⟨rfl, hB⟩
 ·exact absurd h (by simp)
end Go.Proofs.YtfhanoloaejmkaaDoor
end
section
namespace Go.Proofs.YtfhanoloaejmkaaDoor
open Go.RowKit
set_option linter.unusedVariables false
def takeTextF (most : Nat) (s : ByteArray) : ByteArray × ByteArray × Int :=
 match takeL (bytes s) with
 | none => (⟨#[]⟩, ⟨#[]⟩, 2)
 | some (n, r) => if most < n then (⟨#[]⟩, ⟨#[]⟩, 10) else if r.length < n then (⟨#[]⟩, ⟨#[]⟩, 2) else (ofBytes (r.take n), ofBytes (r.drop n), 0)
def limitedF (most : Nat) (s : ByteArray) : Int × ByteArray × Int :=
 match takeL (bytes s) with
 | none => (0, ⟨#[]⟩, 2)
 | some (n, r) => if most < n then (0, ⟨#[]⟩, 10) else (n, ofBytes r, 0)
set_option maxRecDepth 100000 in
theorem limited_any (s : ByteArray) (most : Nat) (hs : s.size ≤ 9223372036854775000) (hm : most ≤ 1000000) (w : World) :
  Calls Tryd.prog 66 #[.string s, .int .i64 most] w fun e w' => e = .returned (.tuple #[.int .i64 (limitedF most s).1, .string (limitedF most s).2.1, .int .i64 (limitedF most s).2.2]) ∧ Below w.heap.size w w' := by
 cases h : takeL (bytes s) with
 | none =>
  have h1 : takeF s = (0, ⟨#[]⟩, 2) := by unfold takeF; rw [h]
  have h2 : limitedF most s = (0, ⟨#[]⟩, 2) := by unfold limitedF; rw [h]
  rw [h2]
  have HT := Lib.hid (wire_Take.calls s 0 ⟨#[]⟩ 2 w (by unfold wire_Take.f; rw [if_pos hs, h1]))
  clear h1 h2 h
  go_enter Tryd.func66, Tryd.ntmps66
  go_wp2_with fail
  refine HT.out.mono ?_
  rintro e w' ⟨rfl, hb⟩
  have HB := Lib.hid hb
  clear hb
  go_wp2
  go_ret3
  exact ⟨rfl, HB.out⟩
 | some x =>
  obtain ⟨n, r⟩ := x
  have hn := (take_inv h).2
  have h1 : takeF s = ((n : Int), ofBytes r, 0) := by unfold takeF; rw [h]
  have HT := Lib.hid (wire_Take.calls s n (ofBytes r) 0 w (by unfold wire_Take.f; rw [if_pos hs, h1]))
  clear h1
  by_cases hbig : most < n
  ·have h2 : limitedF most s = (0, ⟨#[]⟩, 10) := by unfold limitedF; rw [h]; simp only; rw [if_pos hbig]
   rw [h2]
   clear h2 h
   go_enter Tryd.func66, Tryd.ntmps66
   go_wp2_with fail
   refine HT.out.mono ?_
   rintro e w' ⟨rfl, hb⟩
   have HB := Lib.hid hb
   clear hb
   go_wp2
   go_ret3
   exact ⟨rfl, HB.out⟩
  ·have h2 : limitedF most s = ((n : Int), ofBytes r, 0) := by unfold limitedF; rw [h]; simp only; rw [if_neg hbig]
   rw [h2]
   clear h2 h
   go_enter Tryd.func66, Tryd.ntmps66
   go_wp2_with fail
   refine HT.out.mono ?_
   rintro e w' ⟨rfl, hb⟩
   have HB := Lib.hid hb
   clear hb
   go_wp2
   go_ret3
   exact ⟨rfl, HB.out⟩
set_option maxRecDepth 100000 in
theorem taketext_any (s : ByteArray) (most : Nat) (hs : s.size ≤ 9223372036854775000) (hm : most ≤ 1000000) (w : World) :
  Calls Tryd.prog 67 #[.string s, .int .i64 most] w fun e w' => e = .returned (.tuple #[.string (takeTextF most s).1, .string (takeTextF most s).2.1, .int .i64 (takeTextF most s).2.2]) ∧ Below w.heap.size w w' := by
 have HL := Lib.hid (limited_any s most hs hm w)
 by_cases hbad : (limitedF most s).2.2 = 0
 ·cases h : takeL (bytes s) with
  | none => rw [show limitedF most s = (0, ⟨#[]⟩, 2) from by unfold limitedF; rw [h]] at hbad; simp at hbad
  | some x =>
   obtain ⟨n, r⟩ := x
   by_cases hbig : most < n
   ·rw [show limitedF most s = (0, ⟨#[]⟩, 10) from by unfold limitedF; rw [h]; simp only; rw [if_pos hbig]] at hbad; simp at hbad
   ·have hl : limitedF most s = ((n : Int), ofBytes r, 0) := by unfold limitedF; rw [h]; simp only; rw [if_neg hbig]
    rw [hl] at HL
    have hz := size_ofBytes r
    have hrn : r.length ≤ s.size := by
     have := (take_inv h).1
     have h3 := congrArg List.length this
     rw [bytes_length, List.length_append] at h3
     omega
    by_cases hlen : r.length < n
    ·have h2 : takeTextF most s = (⟨#[]⟩, ⟨#[]⟩, 2) := by unfold takeTextF; rw [h]; simp only; rw [if_neg hbig, if_pos hlen]
     rw [h2]
     clear h2 h hl hbad
     go_enter Tryd.func67, Tryd.ntmps67
     go_wp2_with fail
     refine HL.out.mono ?_
     rintro e w' ⟨rfl, hb⟩
     have HB := Lib.hid hb
     clear hb
     go_wp2
     go_ret3
     exact ⟨rfl, HB.out⟩
    ·have h2 : takeTextF most s = (ofBytes (r.take n), ofBytes (r.drop n), 0) := by unfold takeTextF; rw [h]; simp only; rw [if_neg hbig, if_neg hlen]
     have e1 : (ofBytes r).extract 0 n = ofBytes (r.take n) := bs_inj (by rw [bytes_to, bytes_ofBytes, bytes_ofBytes])
     have e2 : (ofBytes r).extract n (ofBytes r).size = ofBytes (r.drop n) := bs_inj (by rw [bytes_from, bytes_ofBytes, bytes_ofBytes])
     rw [h2, ← e1, ← e2]
     clear h2 h hl hbad e1 e2
     generalize ofBytes r = q at *
     go_enter Tryd.func67, Tryd.ntmps67
     go_wp2_with fail
     refine HL.out.mono ?_
     rintro e w' ⟨rfl, hb⟩
     have HB := Lib.hid hb
     clear hb
     go_wp2
     go_quiet (fail)
     go_wp2
     go_ret3
     exact ⟨by rw [hz]; rfl, below_drewN' HB.out _⟩
 ·have h2 : takeTextF most s = (⟨#[]⟩, ⟨#[]⟩, (limitedF most s).2.2) := by
   unfold takeTextF limitedF
   cases h : takeL (bytes s) with
   | none => rfl
   | some x =>
    obtain ⟨n, r⟩ := x
    simp only
    by_cases hbig : most < n
    ·rw [if_pos hbig, if_pos hbig]
    ·exfalso
     apply hbad
     unfold limitedF
     rw [h]
     simp only
     rw [if_neg hbig]
  rw [h2]
  clear h2
  generalize limitedF most s = q at *
  obtain ⟨q1, q2, q3⟩ := q
  have hb : (q3 == 0) = false := by rw [beq_eq_false_iff_ne]; exact hbad
  clear hbad
  go_enter Tryd.func67, Tryd.ntmps67
  go_wp2_with fail
  refine HL.out.mono ?_
  rintro e w' ⟨rfl, hb⟩
  have HB := Lib.hid hb
  clear hb
  go_wp2
  go_ret3
  exact ⟨rfl, HB.out⟩
end Go.Proofs.YtfhanoloaejmkaaDoor
end
section
namespace Go.Proofs.YtfhanoloaejmkaaDoor
open Go.RowKit
set_option linter.unusedVariables false
def wire_limited.f (a0 : ByteArray) (a1 : Int) : Option (Int × ByteArray × Int) := if a0.size ≤ 9223372036854775000 ∧ 0 ≤ a1 ∧ a1 ≤ 1000000 then some (limitedF a1.toNat a0) else none
theorem wire_limited.calls (a0 : ByteArray) (a1 : Int) (r1 : Int) (r2 : ByteArray) (r3 : Int) (w : World) (h : wire_limited.f a0 a1 = some (r1, r2, r3)) :
  Calls Tryd.prog 66 #[.string a0, .int .i64 a1] w fun e w' => e = .returned (.tuple #[.int .i64 r1, .string r2, .int .i64 r3]) ∧ Below w.heap.size w w' := by
 unfold wire_limited.f at h
 split at h
 ·rename_i hs
  obtain ⟨n, rfl⟩ := Int.eq_ofNat_of_zero_le hs.2.1
  have h := Option.some.inj h
  rw [Int.toNat_natCast] at h
  have H := limited_any a0 n hs.1 (by omega) w
  rw [h] at H
  exact H
 ·exact absurd h (by simp)
def wire_TakeText.f (a0 : ByteArray) (a1 : Int) : Option (ByteArray × ByteArray × Int) := if a0.size ≤ 9223372036854775000 ∧ 0 ≤ a1 ∧ a1 ≤ 1000000 then some (takeTextF a1.toNat a0) else none
theorem wire_TakeText.calls (a0 : ByteArray) (a1 : Int) (r1 : ByteArray) (r2 : ByteArray) (r3 : Int) (w : World) (h : wire_TakeText.f a0 a1 = some (r1, r2, r3)) :
  Calls Tryd.prog 67 #[.string a0, .int .i64 a1] w fun e w' => e = .returned (.tuple #[.string r1, .string r2, .int .i64 r3]) ∧ Below w.heap.size w w' := by
 unfold wire_TakeText.f at h
 split at h
 ·rename_i hs
  obtain ⟨n, rfl⟩ := Int.eq_ofNat_of_zero_le hs.2.1
  have h := Option.some.inj h
  rw [Int.toNat_natCast] at h
  have H := taketext_any a0 n hs.1 (by omega) w
  rw [h] at H
  exact H
 ·exact absurd h (by simp)
end Go.Proofs.YtfhanoloaejmkaaDoor
end
end
section

namespace Go.Proofs.YtfhanoloaejmkaaDoor
open Go.RowKit Go.Proofs.YtfhanoloaejmkaaDoorW.PrintWords
set_option linter.unusedVariables false
def bits_Len64.f (a0 : Int) : Option Int := if 0 ≤ a0 ∧ a0 ≤ 18446744073709551615 then some (Lib.bitLen a0.toNat) else none
theorem bits_Len64.calls (a0 : Int) (r : Int) (w : World) (h : bits_Len64.f a0 = some r) :
  Calls Tryd.prog 63 #[.int .u64 a0] w fun e w' => e = .returned (.int .i64 r) ∧ Drawn0 w w' := by
 unfold bits_Len64.f at h
 split at h
 ·rename_i hs
  obtain rfl := Option.some.inj h
  refine (Tryd.bits_Len64 a0 w hs.1 hs.2).mono ?_
  rintro e w' ⟨rfl, rfl⟩
  exact ⟨rfl, Drawn0.refl _⟩
 ·exact absurd h (by simp)
end Go.Proofs.YtfhanoloaejmkaaDoor
end
