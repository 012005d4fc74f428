/- Contracts and laws that the statement of LawDataHides leans on (packed from this claim's own texts): part 4. -/
import Derived.Test.YtlhoahbpklhpmaaGreatDoorProg
import Derived.WalkKit
import Derived.WalkLawsBesides
import Derived.WalkSpells
import Derived.Below
import Derived.LoopTactic
import Derived.Lib.Hide
import Derived.Lib.ConvBytes
import Derived.RegionTactic
import Derived.Deep.QuietTactic
import Derived.BigQuiet
import Derived.Laws.Bits64b
import Derived.OwnWalk
import Derived.Deep.RegionHeld3
import Derived.Deep.AppendLies
import Derived.Deep.RegionWith
import Derived.Deep.RegionLaw
import Derived.Deep.DeepCutAuto
import Derived.Outline
import Derived.Test.YtlhoahbpklhpmaaGreatDoorQH1
import Derived.Test.YtlhoahbpklhpmaaGreatDoorQH2
import Derived.Test.YtlhoahbpklhpmaaGreatDoorQH3
section

section
namespace Go.Proofs.YtlhoahbpklhpmaaGreatDoor
open Go.RowKit
set_option linter.unusedVariables false
def leafVal : T → Value
 | .atom n => .iface 118 (.agg #[.string (ofBytes (enc (.atom n))), .int .u64 n])
 | .text s => .iface 94 (.agg #[.string (ofBytes (enc (.text s))), .string (ofBytes s)])
 | _ => .nilIface
def leafRes : Option (T × Bs) → Value
 | none => .nilIface
 | some x => leafVal x.1
set_option maxRecDepth 100000 in
theorem leaf_atom (s q : ByteArray) (hs : s.size = q.size + 1) (hq : q.size ≤ 9223372036854774000) (hc : ∀ h : 0 < s.size, (s[0]'h).toNat = 97) (hx : s.extract 1 (q.size + 1) = q) (hb : bytes s = 97 :: bytes q) (w : World) :
  Calls Tryz.prog 86 #[.string s] w fun e w' => e = .returned (leafRes ((takeL (bytes q)).map fun x => (.atom x.1, x.2))) ∧ Below w.heap.size w w' := by
 have hwf : wire_Take.f q = some (takeF q) := by unfold wire_Take.f; rw [if_pos (by omega)]
 cases h : takeL (bytes q) with
 | none =>
  have h1 : takeF q = (0, ⟨#[]⟩, 2) := by unfold takeF; rw [h]
  rw [h1] at hwf
  have HT := Lib.hid (wire_Take.calls q 0 ⟨#[]⟩ 2 w hwf)
  clear h1 hwf h hb
  go_enter Tryz.func86, Tryz.ntmps86
  go_wp2_with fail
  refine HT.out.mono ?_
  rintro e w' ⟨rfl, hb⟩
  have HB := Lib.hid hb
  clear hb
  go_wp2
  go_ret
  exact ⟨rfl, HB.out⟩
 | some x =>
  obtain ⟨n, r⟩ := x
  have h1 : takeF q = ((n : Int), ofBytes r, 0) := by unfold takeF; rw [h]
  rw [h1] at hwf
  have HT := Lib.hid (wire_Take.calls q n (ofBytes r) 0 w hwf)
  obtain ⟨h2, h3⟩ := take_inv h
  have hr : r.length ≤ q.size := by
   have := congrArg List.length h2
   rw [bytes_length, List.length_append] at this
   omega
  have hraw : s.extract 0 (s.size - r.length) = ofBytes (enc (.atom n)) := by
   apply bs_inj
   rw [bytes_to, bytes_ofBytes, hb, h2]
   have : s.size - r.length = (97 :: putL n).length := by
    have := congrArg List.length h2
    rw [bytes_length, List.length_append] at this
    simp only [List.length_cons]
    omega
   rw [this]
   show List.take _ ((97 :: putL n) ++ r) = _
   rw [List.take_left]
   rfl
  rw [hs] at hraw
  have HV : Hid (leafRes (Option.map (fun x => (T.atom x.1, x.2)) (some (n, r))) = .iface 118 (.agg #[.string (s.extract 0 (q.size + 1 - r.length)), .int .u64 n])) := by
   show leafRes (some (T.atom n, r)) = _
   unfold leafRes leafVal
   rw [hraw]
  rw [HV.out]
  have hz := size_ofBytes r
  generalize ofBytes r = q2 at *
  clear h1 hwf h h2 hraw HV hb
  go_enter Tryz.func86, Tryz.ntmps86
  go_wp2_with fail
  refine HT.out.mono ?_
  rintro e w' ⟨rfl, hb⟩
  have HB := Lib.hid hb
  clear hb
  go_wp2
  go_ret
  exact ⟨rfl, HB.out⟩
set_option maxRecDepth 100000 in
theorem leaf_text (s q : ByteArray) (c : Nat) (hc97 : ((c : Int) == 97) = false) (hs : s.size = q.size + 1) (hq : q.size ≤ 9223372036854774000) (hc : ∀ h : 0 < s.size, (s[0]'h).toNat = c) (hx : s.extract 1 (q.size + 1) = q) (hb : bytes s = 116 :: bytes q) (w : World) :
  Calls Tryz.prog 86 #[.string s] w fun e w' => e = .returned (leafRes ((takeT 4000 (bytes q)).map fun x => (.text x.1, x.2))) ∧ Below w.heap.size w w' := by
 have HT := Lib.hid (taketext_any q 4000 (by omega) (by omega) w)
 have HT2 : Hid (Calls Tryz.prog 66 #[.string q, .int .i64 4000] w fun e w' => e = .returned (.tuple #[.string (takeTextF 4000 q).1, .string (takeTextF 4000 q).2.1, .int .i64 (takeTextF 4000 q).2.2]) ∧ Below w.heap.size w w') := HT.out
 clear HT
 cases h : takeT 4000 (bytes q) with
 | none =>
  have h1 : ∃ e : Int, takeTextF 4000 q = (⟨#[]⟩, ⟨#[]⟩, e) ∧ (e == 0) = false := by
   unfold takeTextF
   unfold takeT at h
   cases h2 : takeL (bytes q) with
   | none => exact ⟨2, rfl, rfl⟩
   | some x =>
    obtain ⟨n, r⟩ := x
    rw [h2] at h
    simp only at h ⊢
    by_cases h3 : 4000 < n
    ·exact ⟨10, by rw [if_pos h3], rfl⟩
    ·rw [if_neg h3] at h
     by_cases h4 : r.length < n
     ·exact ⟨2, by rw [if_neg h3, if_pos h4], rfl⟩
     ·rw [if_neg h4] at h; simp at h
  obtain ⟨er, h1, h2⟩ := h1
  rw [h1] at HT2
  clear h1 h hb
  go_enter Tryz.func86, Tryz.ntmps86
  go_wp2_with fail
  refine HT2.out.mono ?_
  rintro e w' ⟨rfl, hb⟩
  have HB := Lib.hid hb
  clear hb
  go_wp2
  go_ret
  exact ⟨rfl, HB.out⟩
 | some x =>
  obtain ⟨tx, r⟩ := x
  have h1 : takeTextF 4000 q = (ofBytes tx, ofBytes r, 0) := by
   unfold takeTextF
   unfold takeT at h
   cases h2 : takeL (bytes q) with
   | none => rw [h2] at h; simp at h
   | some x =>
    obtain ⟨n, r2⟩ := x
    rw [h2] at h
    simp only at h ⊢
    by_cases h3 : 4000 < n
    ·rw [if_pos h3] at h; simp at h
    ·rw [if_neg h3] at h ⊢
     by_cases h4 : r2.length < n
     ·rw [if_pos h4] at h; simp at h
     ·rw [if_neg h4] at h ⊢
      simp only [Option.some.injEq, Prod.mk.injEq] at h
      obtain ⟨rfl, rfl⟩ := h
      rfl
  rw [h1] at HT2
  obtain ⟨h2, h3⟩ := takeT_inv h
  have hl := congrArg List.length h2
  rw [bytes_length, List.length_append] at hl
  have hr : r.length ≤ q.size := by omega
  have hraw : s.extract 0 (s.size - r.length) = ofBytes (enc (.text tx)) := by
   apply bs_inj
   rw [bytes_to, bytes_ofBytes, hb, h2]
   have : s.size - r.length = (116 :: putT tx).length := by
    simp only [List.length_cons]
    omega
   rw [this]
   show List.take _ ((116 :: putT tx) ++ r) = _
   rw [List.take_left]
   rfl
  rw [hs] at hraw
  have HV : Hid (leafRes (Option.map (fun x => (T.text x.1, x.2)) (some (tx, r))) = .iface 94 (.agg #[.string (s.extract 0 (q.size + 1 - r.length)), .string (ofBytes tx)])) := by
   show leafRes (some (T.text tx, r)) = _
   unfold leafRes leafVal
   rw [hraw]
  rw [HV.out]
  have hz := size_ofBytes r
  generalize ofBytes r = q2 at *
  generalize ofBytes tx = q3 at *
  clear h1 h h2 hl hraw HV hb
  go_enter Tryz.func86, Tryz.ntmps86
  go_wp2_with fail
  refine HT2.out.mono ?_
  rintro e w' ⟨rfl, hb⟩
  have HB := Lib.hid hb
  clear hb
  go_wp2
  go_ret
  exact ⟨rfl, HB.out⟩
end Go.Proofs.YtlhoahbpklhpmaaGreatDoor
end
section
namespace Go.Proofs.YtlhoahbpklhpmaaGreatDoor
open Go.RowKit Go.Proofs.YtlhoahbpklhpmaaGreatDoorW.PrintWords
set_option linter.unusedVariables false
def strCells (l : List Bs) : List Value := l.map fun x => .string (ofBytes x)
def NodeAt (w : World) (base : Nat) (v : Value) (t : T) : Prop :=
 match t with
 | .atom n => v = leafVal (.atom n)
 | .text s => v = leafVal (.text s)
 | .one k a => ∃ sv, v = .iface 90 (.agg #[.string (ofBytes (enc (.one k a))), sv]) ∧ w.ownsRow base 9 1 sv 1 (strCells [enc a])
 | .two k a b => ∃ sv, v = .iface 90 (.agg #[.string (ofBytes (enc (.two k a b))), sv]) ∧ w.ownsRow base 9 1 sv 2 (strCells [enc a, enc b])
def NodeRes (w : World) (base : Nat) (v : Value) : Option (T × Bs) → Prop
 | none => v = .nilIface
 | some x => NodeAt w base v x.1
def ReadPost (w : World) (d : Nat) (s : ByteArray) (e : Ending) (w' : World) : Prop := ∃ v, e = .returned v ∧ NodeRes w' w.heap.size v (parse d (bytes s)) ∧ Below w.heap.size w w'
theorem infoStr : (Tryz.prog.info? 9).map (fun i => (i.zero, i.size, i.bytes)) = some (some (.string ⟨#[]⟩), 1, 16) := by kernel_rfl
theorem World.grownBy.frozen_far {w w' : World} {row : Option Nat} (hg : w.grownBy w' row) (a : Addr) (hlt : a.block < w.heap.size) (hne : some a.block ≠ row) : w'.frozen? a = w.frozen? a := World.frozen?_of_block (w := w) (hg.block _ hlt hne)
theorem meth_number (n : Nat) (x y : Value) (W : World) (h : n ≠ 0) : Sem.run Tryz.prog (method n 118 (.agg #[x, y]) "letterlock/term.bytes") W = .ok (142, .agg #[x, y]) W := by
 cases n with
 | zero => exact absurd rfl h
 | succ n => kernel_rfl
theorem meth_words (n : Nat) (x y : Value) (W : World) (h : n ≠ 0) : Sem.run Tryz.prog (method n 94 (.agg #[x, y]) "letterlock/term.bytes") W = .ok (141, .agg #[x, y]) W := by
 cases n with
 | zero => exact absurd rfl h
 | succ n => kernel_rfl
theorem meth_parts (n : Nat) (x y : Value) (W : World) (h : n ≠ 0) : Sem.run Tryz.prog (method n 90 (.agg #[x, y]) "letterlock/term.bytes") W = .ok (140, .agg #[x, y]) W := by
 cases n with
 | zero => exact absurd rfl h
 | succ n => kernel_rfl
theorem enters_number (args : Array Value) (W : World) : Sem.run Tryz.prog (callFunc 142 args) W = .ok (.enter 142 args) W := by kernel_rfl
theorem enters_words (args : Array Value) (W : World) : Sem.run Tryz.prog (callFunc 141 args) W = .ok (.enter 141 args) W := by kernel_rfl
theorem enters_parts (args : Array Value) (W : World) : Sem.run Tryz.prog (callFunc 140 args) W = .ok (.enter 140 args) W := by kernel_rfl
set_option maxRecDepth 100000 in
theorem bytes_number (raw : ByteArray) (n : Int) (w : World) :
  Calls Tryz.prog 142 #[.agg #[.string raw, .int .u64 n]] w fun e w' => e = .returned (.string raw) ∧ w' = w.alloc (.cells #[.string raw, .int .u64 n] 118) := by
 go_enter Tryz.func142, Tryz.ntmps142
 go_wp2
 go_ret
 exact ⟨rfl, rfl⟩
set_option maxRecDepth 100000 in
theorem bytes_words (raw s : ByteArray) (w : World) :
  Calls Tryz.prog 141 #[.agg #[.string raw, .string s]] w fun e w' => e = .returned (.string raw) ∧ w' = w.alloc (.cells #[.string raw, .string s] 94) := by
 go_enter Tryz.func141, Tryz.ntmps141
 go_wp2
 go_ret
 exact ⟨rfl, rfl⟩
set_option maxRecDepth 100000 in
theorem bytes_parts (raw : ByteArray) (a : Option Addr) (l c : Nat) (w : World) :
  Calls Tryz.prog 140 #[.agg #[.string raw, .slice a l c]] w fun e w' => e = .returned (.string raw) ∧ w' = w.alloc (.cells #[.string raw, .slice a l c] 90) := by
 go_enter Tryz.func140, Tryz.ntmps140
 go_wp2
 go_ret
 exact ⟨rfl, rfl⟩
def IsNode (v : Value) (raw : ByteArray) : Prop := ∃ ty f y, v = .iface ty (.agg #[.string raw, y]) ∧
 (∀ (n : Nat) (W : World), n ≠ 0 → Sem.run Tryz.prog (method n ty (.agg #[.string raw, y]) "letterlock/term.bytes") W = .ok (f, .agg #[.string raw, y]) W) ∧
 (∀ (args : Array Value) (W : World), Sem.run Tryz.prog (callFunc f args) W = .ok (.enter f args) W) ∧
 (∀ W, Calls Tryz.prog f #[.agg #[.string raw, y]] W fun e w' => e = .returned (.string raw) ∧ w' = W.alloc (.cells #[.string raw, y] ty))
theorem NodeAt.isNode {w : World} {base : Nat} {v : Value} {t : T} (h : NodeAt w base v t) : IsNode v (ofBytes (enc t)) := by
 cases t with
 | atom n => exact ⟨_, _, _, h, fun n W hn => meth_number n _ _ W hn, enters_number, fun W => bytes_number _ _ W⟩
 | text s => exact ⟨_, _, _, h, fun n W hn => meth_words n _ _ W hn, enters_words, fun W => bytes_words _ _ W⟩
 | one k a =>
  obtain ⟨sv, rfl, ho⟩ := h
  obtain ⟨g, c, rfl, _, _⟩ := ho.form (by omega)
  exact ⟨_, _, _, rfl, fun n W hn => meth_parts n _ _ W hn, enters_parts, fun W => bytes_parts _ _ _ _ W⟩
 | two k a b =>
  obtain ⟨sv, rfl, ho⟩ := h
  obtain ⟨g, c, rfl, _, _⟩ := ho.form (by omega)
  exact ⟨_, _, _, rfl, fun n W hn => meth_parts n _ _ W hn, enters_parts, fun W => bytes_parts _ _ _ _ W⟩
set_option maxRecDepth 100000 in
theorem read_nil (d : Nat) (w : World) :
  Calls Tryz.prog 77 #[.string ⟨#[]⟩, .int .i64 d] w fun e w' => e = .returned .nilIface ∧ w = w' := by
 go_enter Tryz.func77, Tryz.ntmps77
 go_wp2
 go_ret
 exact ⟨rfl, rfl⟩
set_option maxRecDepth 100000 in
theorem read_zero (s : ByteArray) (h1 : s.toList.isEmpty = false) (w : World) :
  Calls Tryz.prog 77 #[.string s, .int .i64 0] w fun e w' => e = .returned .nilIface ∧ w = w' := by
 go_enter Tryz.func77, Tryz.ntmps77
 go_wp2
 go_ret
 exact ⟨rfl, rfl⟩
def parseN (d : Nat) (l : Bs) : Nat → Option (List T × Bs)
 | 0 => some ([], l)
 | k + 1 => (parseN d l k).bind fun y => (parse d y.2).map fun x => (y.1 ++ [x.1], x.2)
def RelR (w0 : World) (s : ByteArray) (d k at_ : Nat) (wr : World) : Prop :=
 ∃ ts rest sv, parseN d (bytes s).tail k = some (ts, rest) ∧ ts.length = k ∧ at_ + rest.length = s.size ∧ (bytes s).drop at_ = rest ∧ 0 < at_ ∧
  wr.heap[w0.heap.size]? = some (.cells #[.string ⟨#[]⟩, sv] 90 (0, 0)) ∧ wr.ownsRow (w0.heap.size + 1) 9 1 sv k (strCells (ts.map enc)) ∧ Below w0.heap.size w0 wr ∧ w0.heap.size < wr.heap.size
def MidRel (w0 : World) (s : ByteArray) (d k at_ : Nat) (t : T) (wr : World) : Prop :=
 ∃ ts rest sv, parseN d (bytes s).tail k = some (ts, rest) ∧ ts.length = k ∧ at_ + rest.length = s.size ∧ (bytes s).drop at_ = rest ∧ 0 < at_ ∧
  wr.heap[w0.heap.size]? = some (.cells #[.string ⟨#[]⟩, sv] 90 (0, 0)) ∧ wr.ownsRow (w0.heap.size + 1) 9 1 sv (k + 1) (strCells ((ts ++ [t]).map enc)) ∧ Below w0.heap.size w0 wr ∧ w0.heap.size < wr.heap.size
theorem mid_of {w w5 w1 : World} {s : ByteArray} {d k at_ : Nat} {t : T} {ts : List T} {rest : Bs} {sv : Value} {gg cap : Nat} {o o' : Obj}
  (hq : parseN d (bytes s).tail k = some (ts, rest) ∧ ts.length = k ∧ at_ + rest.length = s.size ∧ (bytes s).drop at_ = rest ∧ 0 < at_) (hb5 : Below w.heap.size w w5) (hsz5 : w.heap.size < w5.heap.size)
  (hblk : w5.heap[w.heap.size]? = some (.cells #[.string ⟨#[]⟩, sv] 90 (0, 0))) (hne : some w.heap.size ≠ sv.ownBlock) (hbase : ∀ k, sv.ownBlock = some k → w.heap.size + 1 ≤ k)
  (hown : w1.ownsRow (w.heap.size + 1) 9 1 (.slice (some ⟨gg, 0, none⟩) (k + 1) cap) (k + 1) (strCells (ts.map enc) ++ [.string (ofBytes (enc t))]))
  (hgrow : ((w5.alloc o).alloc o').drew.grownBy w1 sv.ownBlock) :
  MidRel w s d k at_ t (w1.setCell ⟨w.heap.size, 1, none⟩ (.slice (some ⟨gg, 0, none⟩) (k + 1) cap)) := by
 obtain ⟨h1, h2, h3, h4, h5⟩ := hq
 have hlt : w.heap.size < ((w5.alloc o).alloc o').drew.heap.size := by
  show w.heap.size < ((w5.alloc o).alloc o').heap.size
  simp; omega
 have hblk1 : w1.heap[w.heap.size]? = some (.cells #[.string ⟨#[]⟩, sv] 90 (0, 0)) :=
  (hgrow.block _ hlt hne).trans ((Below.heap_alloc _ _ _ (by simp; omega)).trans ((Below.heap_alloc _ _ _ hsz5).trans hblk))
 have hb1 : Below w.heap.size w w1 := by
  have h6 : Below w.heap.size w ((w5.alloc o).alloc o').drew := ((hb5.alloc (by omega) o).alloc (by simp; omega) o').drew
  exact h6.grown hgrow (by omega) (fun j hj => by have := hbase j hj; omega)
 refine ⟨ts, rest, _, h1, h2, h3, h4, h5, blk_setCell hblk1, ?_, hb1.setCell (Nat.le_refl _) _, ?_⟩
 ·have : strCells ((ts ++ [t]).map enc) = strCells (ts.map enc) ++ [.string (ofBytes (enc t))] := by simp [strCells]
  rw [this]
  refine ownsRow_setCell_other hown ?_ _
  intro e
  have := own_base hown _ e
  simp at this
  omega
 ·have := hgrow.size
  show w.heap.size < (w1.setCell _ _).heap.size
  simp only [World.setCell, Array.size_modify]
  omega
theorem rel_start (w : World) (s : ByteArray) (d : Nat) (h : 0 < s.size) :
  RelR w s d 0 1 (w.alloc (Obj.cells #[Value.string ⟨#[]⟩, Value.slice none 0 0] 90)) := by
 refine ⟨[], (bytes s).tail, .slice none 0 0, rfl, rfl, ?_, ?_, by omega, heap_alloc_new w _, ⟨by simp [strCells], .inl ⟨rfl, rfl⟩⟩, (Below.refl _ _).alloc (Nat.le_refl _) _, by simp⟩
 ·rw [List.length_tail, bytes_length]; omega
 ·rw [List.drop_one]
theorem bytes_split {s : ByteArray} (h : 0 < s.size) : bytes s = (s[0]'h) :: (bytes s).tail := by
 have h1 : 0 < (bytes s).length := by rw [bytes_length]; exact h
 have h2 : (bytes s)[0] = (s[0]'h) := rfl
 cases hb : bytes s with
 | nil => rw [hb] at h1; simp at h1
 | cons c l => simp only [hb, List.getElem_cons_zero] at h2; rw [h2]; rfl
theorem rel_len {w : World} {s : ByteArray} {d k at_ : Nat} {wr : World} {t : T} {r2 : Bs} (h : RelR w s d k at_ wr) (hp : parse d (bytes (s.extract at_ s.size)) = some (t, r2)) : at_ + (enc t).length ≤ s.size := by
 obtain ⟨ts, rest, sv, h1, h2, h3, h4, _⟩ := h
 rw [bytes_from, h4] at hp
 have h5 := congrArg List.length (parse_inv _ _ _ _ hp).1
 rw [List.length_append] at h5
 omega
theorem rel_next {w : World} {s : ByteArray} {d k at_ : Nat} {wc : World} {t : T} {r2 : Bs} (h : MidRel w s d k at_ t wc) (hp : parse d (bytes (s.extract at_ s.size)) = some (t, r2)) (o : Obj) :
  RelR w s d (k + 1) (at_ + (enc t).length) (wc.alloc o) := by
 obtain ⟨ts, rest, sv, h1, h2, h3, h4, h5, h6, h7, h8, h9⟩ := h
 rw [bytes_from, h4] at hp
 have h10 := (parse_inv _ _ _ _ hp).1
 have h11 := congrArg List.length h10
 rw [List.length_append] at h11
 refine ⟨ts ++ [t], r2, sv, ?_, by simp [h2], by omega, ?_, by omega, (Below.heap_alloc _ _ _ h9).trans h6, h7.alloc _, h8.alloc (by omega) _, by simp; omega⟩
 ·simp only [parseN, h1, Option.bind_some, hp]
  rfl
 ·rw [← List.drop_drop, h4, h10, List.drop_left]
theorem fail_one {d : Nat} {c : UInt8} {k1 : K1} {l : Bs} (hk : kind1 c = some k1) (h : parseN d l 1 = none) : parse (d + 1) (c :: l) = none := by
 have hc := kind1_inv hk
 simp only [parseN, Option.bind_some, Option.map_eq_none_iff] at h
 simp only [parse]
 rw [if_neg (by rw [hc]; cases k1 <;> decide), if_neg (by rw [hc]; cases k1 <;> decide), hk]
 simp only
 rw [h]; rfl
theorem fail_two {d : Nat} {c : UInt8} {k2 : K2} {l : Bs} (hk : kind2 c = some k2) (h : parseN d l 2 = none) : parse (d + 1) (c :: l) = none := by
 have hc := kind2_inv hk
 have h1 : kind1 c = none := by rw [hc]; exact kind1_k2 k2
 simp only [parse]
 rw [if_neg (by rw [hc]; cases k2 <;> decide), if_neg (by rw [hc]; cases k2 <;> decide), h1]
 simp only
 rw [hk]
 simp only
 simp only [parseN, Option.bind_some] at h
 cases h3 : parse d l with
 | none => rfl
 | some x =>
  rw [h3] at h
  simp only [Option.map_some, Option.bind_some, Option.map_eq_none_iff] at h
  simp only [Option.bind_some]
  rw [h]; rfl
theorem parseN_fail {d : Nat} {l : Bs} {k m : Nat} {ts : List T} {rest : Bs} (h : parseN d l k = some (ts, rest)) (hf : parse d rest = none) (hkm : k < m) : parseN d l m = none := by
 obtain ⟨j, rfl⟩ : ∃ j, m = k + 1 + j := ⟨m - (k + 1), by omega⟩
 clear hkm
 induction j with
 | zero => simp only [parseN, h, Option.bind_some, hf]; rfl
 | succ j ih => show (parseN d l (k + 1 + j)).bind _ = none; rw [ih]; rfl
theorem rel_fail {w : World} {s : ByteArray} {d k at_ m : Nat} {wr : World} (h : RelR w s d k at_ wr) (hp : parse d (bytes (s.extract at_ s.size)) = none) (hkm : k < m) : parseN d (bytes s).tail m = none := by
 obtain ⟨ts, rest, sv, h1, h2, h3, h4, _⟩ := h
 rw [bytes_from, h4] at hp
 exact parseN_fail h1 hp hkm
theorem rel_end {w : World} {s : ByteArray} {d m at_ : Nat} {wr : World} (h : RelR w s d m at_ wr) :
  ∃ ts rest sv, parseN d (bytes s).tail m = some (ts, rest) ∧ ts.length = m ∧ at_ ≤ s.size ∧ (bytes s).take at_ ++ rest = bytes s ∧ wr.heap[w.heap.size]? = some (.cells #[.string ⟨#[]⟩, sv] 90 (0, 0)) ∧
   wr.ownsRow (w.heap.size + 1) 9 1 sv m (strCells (ts.map enc)) ∧ Below w.heap.size w wr ∧ w.heap.size < wr.heap.size := by
 obtain ⟨ts, rest, sv, h1, h2, h3, h4, h5, h6, h7, h8, h9⟩ := h
 exact ⟨ts, rest, sv, h1, h2, by omega, by rw [← h4, List.take_append_drop], h6, h7, h8, h9⟩
theorem own_lower {w : World} {b b' e : Nat} {v : Value} {n : Nat} {xs : List Value} (h : w.ownsRow b e 1 v n xs) (hb : b' ≤ b) : w.ownsRow b' e 1 v n xs := by
 obtain ⟨h1, h2⟩ := h
 refine ⟨h1, ?_⟩
 rcases h2 with h2 | ⟨g, cap, cur, hv, hg, r⟩
 ·exact .inl h2
 ·exact .inr ⟨g, cap, cur, hv, by omega, r⟩
theorem done_one {d : Nat} {s : ByteArray} (hp : 0 < s.size) {k1 : K1} (hc : (s[0]'hp) = k1.code) {ts : List T} {rest : Bs} {at_ : Nat} (h : parseN d (bytes s).tail 1 = some (ts, rest)) (hat : (bytes s).take at_ ++ rest = bytes s) :
  ∃ a, ts = [a] ∧ parse (d + 1) (bytes s) = some (.one k1 a, rest) ∧ s.extract 0 at_ = ofBytes (enc (.one k1 a)) := by
 simp only [parseN, Option.bind_some, Option.map_eq_some_iff, Prod.mk.injEq] at h
 obtain ⟨⟨a, r⟩, h1, h2, rfl⟩ := h
 obtain rfl : [a] = ts := h2
 have h3 : parse (d + 1) (bytes s) = some (.one k1 a, r) := by
  rw [bytes_split hp, hc]
  simp only [parse]
  rw [if_neg (by cases k1 <;> decide), if_neg (by cases k1 <;> decide), kind1_code]
  simp only
  rw [h1]; rfl
 refine ⟨a, rfl, h3, bs_inj ?_⟩
 have h4 := (parse_inv _ _ _ _ h3).1
 rw [bytes_to, bytes_ofBytes]
 exact List.append_cancel_right (hat.trans h4)
theorem node_one {w w1 : World} {s : ByteArray} {d at_ : Nat} {wr : World} {k1 : K1} {sv : Value} {a : T} (h1 : w.heap.size ≤ wr.heap.size) (ho : wr.ownsRow (w.heap.size + 1) 9 1 sv 1 (strCells ([a].map enc))) (hraw : s.extract 0 at_ = ofBytes (enc (.one k1 a))) (u : Value) :
  NodeAt (wr.setCell ⟨w.heap.size, 0, none⟩ u) w.heap.size (.iface 90 (.agg #[.string (s.extract 0 at_), sv])) (.one k1 a) := by
 refine ⟨sv, by rw [hraw], ?_⟩
 refine ownsRow_setCell_other (own_lower ho (by omega)) ?_ _
 intro e
 have := own_base ho _ e
 simp at this
 omega
theorem done_two {d : Nat} {s : ByteArray} (hp : 0 < s.size) {k2 : K2} (hc : (s[0]'hp) = k2.code) {ts : List T} {rest : Bs} {at_ : Nat} (h : parseN d (bytes s).tail 2 = some (ts, rest)) (hat : (bytes s).take at_ ++ rest = bytes s) :
  ∃ a b, ts = [a, b] ∧ (k2 = .b ∧ a.isPub = false → parse (d + 1) (bytes s) = none) ∧ (¬ (k2 = .b ∧ a.isPub = false) → parse (d + 1) (bytes s) = some (.two k2 a b, rest) ∧ s.extract 0 at_ = ofBytes (enc (.two k2 a b))) := by
 have h0 : parseN d (bytes s).tail 2 = (parseN d (bytes s).tail 1).bind fun y => (parse d y.2).map fun x => (y.1 ++ [x.1], x.2) := rfl
 rw [h0] at h
 obtain ⟨⟨ts1, r1⟩, h1, h2⟩ := Option.bind_eq_some_iff.1 h
 simp only [parseN, Option.bind_some, Option.map_eq_some_iff, Prod.mk.injEq] at h1
 obtain ⟨⟨a, r0⟩, h3, h4, rfl⟩ := h1
 obtain rfl : [a] = ts1 := h4
 simp only [Option.map_eq_some_iff, Prod.mk.injEq] at h2
 obtain ⟨⟨b, r2⟩, h5, h6, rfl⟩ := h2
 obtain rfl : [a] ++ [b] = ts := h6
 have h7 : parse (d + 1) (bytes s) = if k2 = .b ∧ a.isPub = false then none else some (.two k2 a b, r2) := by
  rw [bytes_split hp, hc]
  simp only [parse]
  rw [if_neg (by cases k2 <;> decide), if_neg (by cases k2 <;> decide), kind1_k2, kind2_code]
  simp only
  rw [h3]
  simp only [Option.bind_some]
  have h5' : parse d r0 = some (b, r2) := h5
  rw [h5']; rfl
 refine ⟨a, b, rfl, fun hb => by rw [h7, if_pos hb], fun hb => ?_⟩
 rw [if_neg hb] at h7
 refine ⟨h7, bs_inj ?_⟩
 have h8 := (parse_inv _ _ _ _ h7).1
 rw [bytes_to, bytes_ofBytes]
 exact List.append_cancel_right (hat.trans h8)
theorem node_two {w : World} {s : ByteArray} {at_ : Nat} {wr : World} {k2 : K2} {sv : Value} {a b : T} (ho : wr.ownsRow (w.heap.size + 1) 9 1 sv 2 (strCells ([a, b].map enc))) (hraw : s.extract 0 at_ = ofBytes (enc (.two k2 a b))) (u : Value) :
  NodeAt (wr.setCell ⟨w.heap.size, 0, none⟩ u) w.heap.size (.iface 90 (.agg #[.string (s.extract 0 at_), sv])) (.two k2 a b) := by
 refine ⟨sv, by rw [hraw], ?_⟩
 refine ownsRow_setCell_other (own_lower ho (by omega)) ?_ _
 intro e
 have := own_base ho _ e
 simp at this
 omega
theorem pub_byte (a : T) (h : a.isPub = true) : ∃ l, enc a = 117 :: l := by
 cases a with
 | one k a => cases k with
  | u => exact ⟨_, rfl⟩
  | h => simp [T.isPub] at h
 | atom n => simp [T.isPub] at h
 | text n => simp [T.isPub] at h
 | two k a b => simp [T.isPub] at h
theorem npub_byte (a : T) (h : a.isPub = false) : ∃ c l, enc a = c :: l ∧ c ≠ 117 := by
 cases a with
 | one k a => cases k with
  | h => exact ⟨_, _, rfl, by decide⟩
  | u => simp [T.isPub] at h
 | atom n => exact ⟨_, _, rfl, by decide⟩
 | text n => exact ⟨_, _, rfl, by decide⟩
 | two k a b => exact ⟨_, _, rfl, by cases k <;> decide⟩
set_option maxRecDepth 100000 in
theorem read_h (d : Nat) (hd : d ≤ 1000) (ih : ∀ (s : ByteArray) (w : World), s.size ≤ 9223372036854774000 → Calls Tryz.prog 77 #[.string s, .int .i64 d] w (ReadPost w d s))
  (s : ByteArray) (hs0 : s.size ≤ 9223372036854774000) (h1 : s.toList.isEmpty = false) (hp : 0 < s.size) (hc : ∀ h : 0 < s.size, (s[0]'h).toNat = 104) (w : World) :
  Calls Tryz.prog 77 #[.string s, .int .i64 ((d + 1 : Nat) : Int)] w (ReadPost w (d + 1) s) := by
 have hd0 : ((d : Int) + 1 == 0) = false := by rw [beq_eq_false_iff_ne]; omega
 have IH := Lib.hid ih
 clear ih
 have HS := Lib.hid (rel_start w s d hp)
 rw [show (((d + 1 : Nat) : Int)) = (d : Int) + 1 from by omega]
 go_enter Tryz.func77, Tryz.ntmps77
 go_wp2_with fail
 go_loopw [7, 32] (fun a i wr => ∃ k at_ : Nat, k ≤ 1 ∧ i = .int .i64 k ∧ a = .int .i64 at_ ∧ RelR w s d k at_ wr) (fun _ i _ => 10 - (intOf i).toNat)
 case atStart => exact ⟨0, 1, by omega, rfl, rfl, HS.out⟩
 case round =>
  obtain ⟨k, at_, hk, rfl, rfl, hr⟩ := hrel
  have Hr := Lib.hid hr
  clear hr HS
  by_cases hlt : k < 1
  ·have hat : at_ ≤ s.size := by obtain ⟨ts, rest, sv, _, _, h3, _⟩ := Hr.out; omega
   go_wp2_with fail
   refine (IH.out (s.extract at_ s.size) _ (by rw [ByteArray.size_extract]; omega)).mono ?_
   rintro e w5 ⟨v, rfl, hv, hb5⟩
   have Hv := Lib.hid hv
   have Hb5 := Lib.hid hb5
   clear hv hb5
   cases hpr : parse d (bytes (s.extract at_ s.size)) with
   | none =>
    have hvn : v = .nilIface := by have := Hv.out; rw [hpr] at this; exact this
    subst hvn
    have HF : Hid (parse (d + 1) (bytes s) = none) := by
     rw [bytes_split hp]
     exact fail_one (k1 := K1.h) (by rw [UInt8.toNat_inj.1 ((hc hp).trans (show 104 = (K1.h).code.toNat from rfl))]; rfl) (rel_fail Hr.out hpr hlt)
    have HB : Hid (Below w.heap.size w w5) := by obtain ⟨ts, rest, sv, q1, q2, q3, q4, q0, q5, q6, q7, q8⟩ := Hr.out; exact q7.trans (Hb5.out.mono (by omega))
    clear Hv hpr
    go_wp2
    go_ret
    exact ⟨_, rfl, by rw [HF.out]; rfl, HB.out⟩
   | some x =>
    obtain ⟨t, r2⟩ := x
    have hnode : NodeAt w5 wr.heap.size v t := by have := Hv.out; rw [hpr] at this; exact this
    obtain ⟨ty, f, y, rfl, hm, hen, hcf⟩ := hnode.isNode
    have Hn := Lib.hid hnode
    have Hcf := Lib.hid hcf
    clear hnode hcf Hv
    go_upto_region 23 with (fail)
    obtain ⟨ts, rest, sv, q1, q2, q3, q4, q0, q5, q6, q7, q8⟩ := Hr.out
    have hsz5 : w.heap.size < w5.heap.size := by have := Hb5.out.size; omega
    have hblk : w5.heap[w.heap.size]? = some (.cells #[.string ⟨#[]⟩, sv] 90 (0, 0)) := (Hb5.out.block _ q8).trans q5
    have Hown : Hid (∀ o o', ((w5.alloc o).alloc o').drew.ownsRow (w.heap.size + 1) 9 1 sv k (strCells (ts.map enc))) := fun o o' => (((pw_own_below q6 Hb5.out).alloc o).alloc o').drew
    have Hnew : Hid (∀ o o', ((w5.alloc o).alloc o').drew.heap[w5.heap.size + 1]? = some o') := fun o o' => by
     have := heap_alloc_new (w5.alloc o) o'
     rwa [show (w5.alloc o).heap.size = w5.heap.size + 1 from by simp] at this
    have Hne : Hid (some w.heap.size ≠ sv.ownBlock) := fun e => by have := own_base q6 _ e.symm; omega
    have hcell := cell_of_blk (j := 1) (v := sv) hblk rfl
    have hfree := free_of_blk (j := 1) hblk
    have Hq := Lib.hid (And.intro q1 (And.intro q2 (And.intro q3 (And.intro q4 q0))))
    have Hb := Lib.hid (q7.trans (Hb5.out.mono (by omega)))
    have Hbase : Hid (∀ j, sv.ownBlock = some j → w.heap.size + 1 ≤ j) := fun j hj => own_base q6 j hj
    have Hblk := Lib.hid hblk
    obtain ⟨i0, hi0, hz0, hz1, hz2⟩ := info_parts infoStr
    clear q1 q2 q3 q4 q0 q5 q6 q7 q8 hblk
    have Hi0 := Lib.hid hi0
    have Hz0 := Lib.hid hz0
    have Hz1 := Lib.hid hz1
    have Hz2 := Lib.hid hz2
    clear hi0 hz0 hz1 hz2
    have K2 : Hid (∀ o o', ((w5.alloc o).alloc o').drew.cell? ⟨w.heap.size, 1, none⟩ = some sv ∧ ((w5.alloc o).alloc o').drew.frozen? ⟨w.heap.size, 1, none⟩ = false) := fun o o' => by
     have hb : ((w5.alloc o).alloc o').drew.heap[w.heap.size]? = some (.cells #[.string ⟨#[]⟩, sv] 90 (0, 0)) := (Below.heap_alloc _ _ _ (by simp; omega)).trans ((Below.heap_alloc _ _ _ hsz5).trans Hblk.out)
     exact ⟨cell_of_blk hb rfl, free_of_blk hb⟩
    go_cut [] (fun wx => MidRel w s d k at_ t wx)
    case first =>
     go_region_law (first
      | (refine step_append_lies _ (by rfl) _ _ _ (by rfl) (w.heap.size + 1) 9 i0 _ 1 16 Tryz.underlying32 Hi0.out Hz0.out Hz1.out Hz2.out rfl (by omega) sv k (strCells (ts.map enc)) (by rfl) (Hown.out _ _) ⟨w5.heap.size + 1, 0, none⟩ 1 1 [.string (ofBytes (enc t))] (by rfl) (by rfl) (World.news_of_block (cs := #[.string (ofBytes (enc t))]) (t := 9) (fr := (0, 0)) (Hnew.out _ _)) (by simp [Value.oneCell']) (by omega) (by unfold maxLen; omega) (by omega) (by simp; omega) (w5.heap.size + 2) (by simp) ?_; intro gg cap w1 hown1 hgrow hat hlt1; have hc1 := (hgrow.cell_far ⟨w.heap.size, 1, none⟩ (by simp; omega) Hne.out).trans (K2.out _ _).1; have hf1 := (hgrow.frozen_far ⟨w.heap.size, 1, none⟩ (by simp; omega) Hne.out).trans (K2.out _ _).2)
      | (go_simp; (with_reducible refine (Hcf.out _).mono ?_); rintro e w' ⟨rfl, rfl⟩))
     all_goals (go_wp2_with fail; go_meet)
     all_goals exact mid_of Hq.out Hb.out hsz5 Hblk.out Hne.out Hbase.out hown1 hgrow
    case rest =>
     have Hc := Lib.hid hcut
     have hL := rel_len Hr.out hpr
     have hLz := size_ofBytes (enc t)
     have Hpr := Lib.hid hpr
     clear hcut hcell hfree hpr Hblk Hne Hown Hnew K2 Hi0 Hz0 Hz1 Hz2 Hq
     go_wp2_with fail
     refine (Hcf.out _).mono ?_
     rintro e w6 ⟨rfl, rfl⟩
     go_wp2
     go_roundw
     case rel => exact ⟨k + 1, at_ + (enc t).length, by omega, by go_num, by go_num, rel_next Hc.out Hpr.out _⟩
     case measure => simp [intOf]; omega
  ·obtain rfl : k = 1 := by omega
   clear hlt
   obtain ⟨ts, rest, sv, q1, q2, q3, q4, q5, q6, q7, q8⟩ := rel_end Hr.out
   obtain ⟨a, rfl, q9, q10⟩ := done_one hp (k1 := K1.h) (UInt8.toNat_inj.1 (hc hp)) q1 q4
   have HP : Hid (∀ u, ReadPost w (d + 1) s (.returned (.iface 90 (.agg #[.string (s.extract 0 at_), sv]))) (wr.setCell ⟨w.heap.size, 0, none⟩ u)) := fun u =>
    ⟨_, rfl, by rw [q9]; exact node_one (w1 := w) (d := d) (by omega) q6 q10 u, q7.setCell (Nat.le_refl _) _⟩
   have hc0 := cell_of_blk (j := 0) (v := .string ⟨#[]⟩) q5 rfl
   have hc1 := cell_of_blk (j := 1) (v := sv) q5 rfl
   have hf0 := free_of_blk (j := 0) q5
   clear q1 q2 q4 q5 q6 q7 q8 q9 q10 Hr
   go_wp2
   go_ret
   exact HP.out _
end Go.Proofs.YtlhoahbpklhpmaaGreatDoor
end
section
namespace Go.Proofs.YtlhoahbpklhpmaaGreatDoor
open Go.RowKit Go.Proofs.YtlhoahbpklhpmaaGreatDoorW.PrintWords
set_option linter.unusedVariables false
set_option maxRecDepth 100000 in
theorem read_u (d : Nat) (hd : d ≤ 1000) (ih : ∀ (s : ByteArray) (w : World), s.size ≤ 9223372036854774000 → Calls Tryz.prog 77 #[.string s, .int .i64 d] w (ReadPost w d s))
  (s : ByteArray) (hs0 : s.size ≤ 9223372036854774000) (h1 : s.toList.isEmpty = false) (hp : 0 < s.size) (hc : ∀ h : 0 < s.size, (s[0]'h).toNat = 117) (w : World) :
  Calls Tryz.prog 77 #[.string s, .int .i64 ((d + 1 : Nat) : Int)] w (ReadPost w (d + 1) s) := by
 have hd0 : ((d : Int) + 1 == 0) = false := by rw [beq_eq_false_iff_ne]; omega
 have IH := Lib.hid ih
 clear ih
 have HS := Lib.hid (rel_start w s d hp)
 rw [show (((d + 1 : Nat) : Int)) = (d : Int) + 1 from by omega]
 go_enter Tryz.func77, Tryz.ntmps77
 go_wp2_with fail
 go_loopw [7, 32] (fun a i wr => ∃ k at_ : Nat, k ≤ 1 ∧ i = .int .i64 k ∧ a = .int .i64 at_ ∧ RelR w s d k at_ wr) (fun _ i _ => 10 - (intOf i).toNat)
 case atStart => exact ⟨0, 1, by omega, rfl, rfl, HS.out⟩
 case round =>
  obtain ⟨k, at_, hk, rfl, rfl, hr⟩ := hrel
  have Hr := Lib.hid hr
  clear hr HS
  by_cases hlt : k < 1
  ·have hat : at_ ≤ s.size := by obtain ⟨ts, rest, sv, _, _, h3, _⟩ := Hr.out; omega
   go_wp2_with fail
   refine (IH.out (s.extract at_ s.size) _ (by rw [ByteArray.size_extract]; omega)).mono ?_
   rintro e w5 ⟨v, rfl, hv, hb5⟩
   have Hv := Lib.hid hv
   have Hb5 := Lib.hid hb5
   clear hv hb5
   cases hpr : parse d (bytes (s.extract at_ s.size)) with
   | none =>
    have hvn : v = .nilIface := by have := Hv.out; rw [hpr] at this; exact this
    subst hvn
    have HF : Hid (parse (d + 1) (bytes s) = none) := by
     rw [bytes_split hp]
     exact fail_one (k1 := K1.u) (by rw [UInt8.toNat_inj.1 ((hc hp).trans (show 117 = (K1.u).code.toNat from rfl))]; rfl) (rel_fail Hr.out hpr hlt)
    have HB : Hid (Below w.heap.size w w5) := by obtain ⟨ts, rest, sv, q1, q2, q3, q4, q0, q5, q6, q7, q8⟩ := Hr.out; exact q7.trans (Hb5.out.mono (by omega))
    clear Hv hpr
    go_wp2
    go_ret
    exact ⟨_, rfl, by rw [HF.out]; rfl, HB.out⟩
   | some x =>
    obtain ⟨t, r2⟩ := x
    have hnode : NodeAt w5 wr.heap.size v t := by have := Hv.out; rw [hpr] at this; exact this
    obtain ⟨ty, f, y, rfl, hm, hen, hcf⟩ := hnode.isNode
    have Hn := Lib.hid hnode
    have Hcf := Lib.hid hcf
    clear hnode hcf Hv
    go_upto_region 23 with (fail)
    obtain ⟨ts, rest, sv, q1, q2, q3, q4, q0, q5, q6, q7, q8⟩ := Hr.out
    have hsz5 : w.heap.size < w5.heap.size := by have := Hb5.out.size; omega
    have hblk : w5.heap[w.heap.size]? = some (.cells #[.string ⟨#[]⟩, sv] 90 (0, 0)) := (Hb5.out.block _ q8).trans q5
    have Hown : Hid (∀ o o', ((w5.alloc o).alloc o').drew.ownsRow (w.heap.size + 1) 9 1 sv k (strCells (ts.map enc))) := fun o o' => (((pw_own_below q6 Hb5.out).alloc o).alloc o').drew
    have Hnew : Hid (∀ o o', ((w5.alloc o).alloc o').drew.heap[w5.heap.size + 1]? = some o') := fun o o' => by
     have := heap_alloc_new (w5.alloc o) o'
     rwa [show (w5.alloc o).heap.size = w5.heap.size + 1 from by simp] at this
    have Hne : Hid (some w.heap.size ≠ sv.ownBlock) := fun e => by have := own_base q6 _ e.symm; omega
    have hcell := cell_of_blk (j := 1) (v := sv) hblk rfl
    have hfree := free_of_blk (j := 1) hblk
    have Hq := Lib.hid (And.intro q1 (And.intro q2 (And.intro q3 (And.intro q4 q0))))
    have Hb := Lib.hid (q7.trans (Hb5.out.mono (by omega)))
    have Hbase : Hid (∀ j, sv.ownBlock = some j → w.heap.size + 1 ≤ j) := fun j hj => own_base q6 j hj
    have Hblk := Lib.hid hblk
    obtain ⟨i0, hi0, hz0, hz1, hz2⟩ := info_parts infoStr
    clear q1 q2 q3 q4 q0 q5 q6 q7 q8 hblk
    have Hi0 := Lib.hid hi0
    have Hz0 := Lib.hid hz0
    have Hz1 := Lib.hid hz1
    have Hz2 := Lib.hid hz2
    clear hi0 hz0 hz1 hz2
    have K2 : Hid (∀ o o', ((w5.alloc o).alloc o').drew.cell? ⟨w.heap.size, 1, none⟩ = some sv ∧ ((w5.alloc o).alloc o').drew.frozen? ⟨w.heap.size, 1, none⟩ = false) := fun o o' => by
     have hb : ((w5.alloc o).alloc o').drew.heap[w.heap.size]? = some (.cells #[.string ⟨#[]⟩, sv] 90 (0, 0)) := (Below.heap_alloc _ _ _ (by simp; omega)).trans ((Below.heap_alloc _ _ _ hsz5).trans Hblk.out)
     exact ⟨cell_of_blk hb rfl, free_of_blk hb⟩
    go_cut [] (fun wx => MidRel w s d k at_ t wx)
    case first =>
     go_region_law (first
      | (refine step_append_lies _ (by rfl) _ _ _ (by rfl) (w.heap.size + 1) 9 i0 _ 1 16 Tryz.underlying32 Hi0.out Hz0.out Hz1.out Hz2.out rfl (by omega) sv k (strCells (ts.map enc)) (by rfl) (Hown.out _ _) ⟨w5.heap.size + 1, 0, none⟩ 1 1 [.string (ofBytes (enc t))] (by rfl) (by rfl) (World.news_of_block (cs := #[.string (ofBytes (enc t))]) (t := 9) (fr := (0, 0)) (Hnew.out _ _)) (by simp [Value.oneCell']) (by omega) (by unfold maxLen; omega) (by omega) (by simp; omega) (w5.heap.size + 2) (by simp) ?_; intro gg cap w1 hown1 hgrow hat hlt1; have hc1 := (hgrow.cell_far ⟨w.heap.size, 1, none⟩ (by simp; omega) Hne.out).trans (K2.out _ _).1; have hf1 := (hgrow.frozen_far ⟨w.heap.size, 1, none⟩ (by simp; omega) Hne.out).trans (K2.out _ _).2)
      | (go_simp; (with_reducible refine (Hcf.out _).mono ?_); rintro e w' ⟨rfl, rfl⟩))
     all_goals (go_wp2_with fail; go_meet)
     all_goals exact mid_of Hq.out Hb.out hsz5 Hblk.out Hne.out Hbase.out hown1 hgrow
    case rest =>
     have Hc := Lib.hid hcut
     have hL := rel_len Hr.out hpr
     have hLz := size_ofBytes (enc t)
     have Hpr := Lib.hid hpr
     clear hcut hcell hfree hpr Hblk Hne Hown Hnew K2 Hi0 Hz0 Hz1 Hz2 Hq
     go_wp2_with fail
     refine (Hcf.out _).mono ?_
     rintro e w6 ⟨rfl, rfl⟩
     go_wp2
     go_roundw
     case rel => exact ⟨k + 1, at_ + (enc t).length, by omega, by go_num, by go_num, rel_next Hc.out Hpr.out _⟩
     case measure => simp [intOf]; omega
  ·obtain rfl : k = 1 := by omega
   clear hlt
   obtain ⟨ts, rest, sv, q1, q2, q3, q4, q5, q6, q7, q8⟩ := rel_end Hr.out
   obtain ⟨a, rfl, q9, q10⟩ := done_one hp (k1 := K1.u) (UInt8.toNat_inj.1 (hc hp)) q1 q4
   have HP : Hid (∀ u, ReadPost w (d + 1) s (.returned (.iface 90 (.agg #[.string (s.extract 0 at_), sv]))) (wr.setCell ⟨w.heap.size, 0, none⟩ u)) := fun u =>
    ⟨_, rfl, by rw [q9]; exact node_one (w1 := w) (d := d) (by omega) q6 q10 u, q7.setCell (Nat.le_refl _) _⟩
   have hc0 := cell_of_blk (j := 0) (v := .string ⟨#[]⟩) q5 rfl
   have hc1 := cell_of_blk (j := 1) (v := sv) q5 rfl
   have hf0 := free_of_blk (j := 0) q5
   clear q1 q2 q4 q5 q6 q7 q8 q9 q10 Hr
   go_wp2
   go_ret
   exact HP.out _
set_option maxRecDepth 100000 in
theorem read_p (d : Nat) (hd : d ≤ 1000) (ih : ∀ (s : ByteArray) (w : World), s.size ≤ 9223372036854774000 → Calls Tryz.prog 77 #[.string s, .int .i64 d] w (ReadPost w d s))
  (s : ByteArray) (hs0 : s.size ≤ 9223372036854774000) (h1 : s.toList.isEmpty = false) (hp : 0 < s.size) (hc : ∀ h : 0 < s.size, (s[0]'h).toNat = 112) (w : World) :
  Calls Tryz.prog 77 #[.string s, .int .i64 ((d + 1 : Nat) : Int)] w (ReadPost w (d + 1) s) := by
 have hd0 : ((d : Int) + 1 == 0) = false := by rw [beq_eq_false_iff_ne]; omega
 have IH := Lib.hid ih
 clear ih
 have HS := Lib.hid (rel_start w s d hp)
 rw [show (((d + 1 : Nat) : Int)) = (d : Int) + 1 from by omega]
 go_enter Tryz.func77, Tryz.ntmps77
 go_wp2_with fail
 go_loopw [7, 32] (fun a i wr => ∃ k at_ : Nat, k ≤ 2 ∧ i = .int .i64 k ∧ a = .int .i64 at_ ∧ RelR w s d k at_ wr) (fun _ i _ => 10 - (intOf i).toNat)
 case atStart => exact ⟨0, 1, by omega, rfl, rfl, HS.out⟩
 case round =>
  obtain ⟨k, at_, hk, rfl, rfl, hr⟩ := hrel
  have Hr := Lib.hid hr
  clear hr HS
  by_cases hlt : k < 2
  ·have hat : at_ ≤ s.size := by obtain ⟨ts, rest, sv, _, _, h3, _⟩ := Hr.out; omega
   go_wp2_with fail
   refine (IH.out (s.extract at_ s.size) _ (by rw [ByteArray.size_extract]; omega)).mono ?_
   rintro e w5 ⟨v, rfl, hv, hb5⟩
   have Hv := Lib.hid hv
   have Hb5 := Lib.hid hb5
   clear hv hb5
   cases hpr : parse d (bytes (s.extract at_ s.size)) with
   | none =>
    have hvn : v = .nilIface := by have := Hv.out; rw [hpr] at this; exact this
    subst hvn
    have HF : Hid (parse (d + 1) (bytes s) = none) := by
     rw [bytes_split hp]
     exact fail_two (k2 := K2.p) (by rw [UInt8.toNat_inj.1 ((hc hp).trans (show 112 = (K2.p).code.toNat from rfl))]; rfl) (rel_fail Hr.out hpr hlt)
    have HB : Hid (Below w.heap.size w w5) := by obtain ⟨ts, rest, sv, q1, q2, q3, q4, q0, q5, q6, q7, q8⟩ := Hr.out; exact q7.trans (Hb5.out.mono (by omega))
    clear Hv hpr
    go_wp2
    go_ret
    exact ⟨_, rfl, by rw [HF.out]; rfl, HB.out⟩
   | some x =>
    obtain ⟨t, r2⟩ := x
    have hnode : NodeAt w5 wr.heap.size v t := by have := Hv.out; rw [hpr] at this; exact this
    obtain ⟨ty, f, y, rfl, hm, hen, hcf⟩ := hnode.isNode
    have Hn := Lib.hid hnode
    have Hcf := Lib.hid hcf
    clear hnode hcf Hv
    go_upto_region 23 with (fail)
    obtain ⟨ts, rest, sv, q1, q2, q3, q4, q0, q5, q6, q7, q8⟩ := Hr.out
    have hsz5 : w.heap.size < w5.heap.size := by have := Hb5.out.size; omega
    have hblk : w5.heap[w.heap.size]? = some (.cells #[.string ⟨#[]⟩, sv] 90 (0, 0)) := (Hb5.out.block _ q8).trans q5
    have Hown : Hid (∀ o o', ((w5.alloc o).alloc o').drew.ownsRow (w.heap.size + 1) 9 1 sv k (strCells (ts.map enc))) := fun o o' => (((pw_own_below q6 Hb5.out).alloc o).alloc o').drew
    have Hnew : Hid (∀ o o', ((w5.alloc o).alloc o').drew.heap[w5.heap.size + 1]? = some o') := fun o o' => by
     have := heap_alloc_new (w5.alloc o) o'
     rwa [show (w5.alloc o).heap.size = w5.heap.size + 1 from by simp] at this
    have Hne : Hid (some w.heap.size ≠ sv.ownBlock) := fun e => by have := own_base q6 _ e.symm; omega
    have hcell := cell_of_blk (j := 1) (v := sv) hblk rfl
    have hfree := free_of_blk (j := 1) hblk
    have Hq := Lib.hid (And.intro q1 (And.intro q2 (And.intro q3 (And.intro q4 q0))))
    have Hb := Lib.hid (q7.trans (Hb5.out.mono (by omega)))
    have Hbase : Hid (∀ j, sv.ownBlock = some j → w.heap.size + 1 ≤ j) := fun j hj => own_base q6 j hj
    have Hblk := Lib.hid hblk
    obtain ⟨i0, hi0, hz0, hz1, hz2⟩ := info_parts infoStr
    clear q1 q2 q3 q4 q0 q5 q6 q7 q8 hblk
    have Hi0 := Lib.hid hi0
    have Hz0 := Lib.hid hz0
    have Hz1 := Lib.hid hz1
    have Hz2 := Lib.hid hz2
    clear hi0 hz0 hz1 hz2
    have K2 : Hid (∀ o o', ((w5.alloc o).alloc o').drew.cell? ⟨w.heap.size, 1, none⟩ = some sv ∧ ((w5.alloc o).alloc o').drew.frozen? ⟨w.heap.size, 1, none⟩ = false) := fun o o' => by
     have hb : ((w5.alloc o).alloc o').drew.heap[w.heap.size]? = some (.cells #[.string ⟨#[]⟩, sv] 90 (0, 0)) := (Below.heap_alloc _ _ _ (by simp; omega)).trans ((Below.heap_alloc _ _ _ hsz5).trans Hblk.out)
     exact ⟨cell_of_blk hb rfl, free_of_blk hb⟩
    go_cut [] (fun wx => MidRel w s d k at_ t wx)
    case first =>
     go_region_law (first
      | (refine step_append_lies _ (by rfl) _ _ _ (by rfl) (w.heap.size + 1) 9 i0 _ 1 16 Tryz.underlying32 Hi0.out Hz0.out Hz1.out Hz2.out rfl (by omega) sv k (strCells (ts.map enc)) (by rfl) (Hown.out _ _) ⟨w5.heap.size + 1, 0, none⟩ 1 1 [.string (ofBytes (enc t))] (by rfl) (by rfl) (World.news_of_block (cs := #[.string (ofBytes (enc t))]) (t := 9) (fr := (0, 0)) (Hnew.out _ _)) (by simp [Value.oneCell']) (by omega) (by unfold maxLen; omega) (by omega) (by simp; omega) (w5.heap.size + 2) (by simp) ?_; intro gg cap w1 hown1 hgrow hat hlt1; have hc1 := (hgrow.cell_far ⟨w.heap.size, 1, none⟩ (by simp; omega) Hne.out).trans (K2.out _ _).1; have hf1 := (hgrow.frozen_far ⟨w.heap.size, 1, none⟩ (by simp; omega) Hne.out).trans (K2.out _ _).2)
      | (go_simp; (with_reducible refine (Hcf.out _).mono ?_); rintro e w' ⟨rfl, rfl⟩))
     all_goals (go_wp2_with fail; go_meet)
     all_goals exact mid_of Hq.out Hb.out hsz5 Hblk.out Hne.out Hbase.out hown1 hgrow
    case rest =>
     have Hc := Lib.hid hcut
     have hL := rel_len Hr.out hpr
     have hLz := size_ofBytes (enc t)
     have Hpr := Lib.hid hpr
     clear hcut hcell hfree hpr Hblk Hne Hown Hnew K2 Hi0 Hz0 Hz1 Hz2 Hq
     go_wp2_with fail
     refine (Hcf.out _).mono ?_
     rintro e w6 ⟨rfl, rfl⟩
     go_wp2
     go_roundw
     case rel => exact ⟨k + 1, at_ + (enc t).length, by omega, by go_num, by go_num, rel_next Hc.out Hpr.out _⟩
     case measure => simp [intOf]; omega
  ·obtain rfl : k = 2 := by omega
   clear hlt
   obtain ⟨ts, rest, sv, q1, q2, q3, q4, q5, q6, q7, q8⟩ := rel_end Hr.out
   obtain ⟨a, b, rfl, _, q11⟩ := done_two hp (k2 := K2.p) (UInt8.toNat_inj.1 (hc hp)) q1 q4
   obtain ⟨q9, q10⟩ := q11 (fun h => by cases h.1)
   have HP : Hid (∀ u, ReadPost w (d + 1) s (.returned (.iface 90 (.agg #[.string (s.extract 0 at_), sv]))) (wr.setCell ⟨w.heap.size, 0, none⟩ u)) := fun u =>
    ⟨_, rfl, by rw [q9]; exact node_two q6 q10 u, q7.setCell (Nat.le_refl _) _⟩
   have hc0 := cell_of_blk (j := 0) (v := .string ⟨#[]⟩) q5 rfl
   have hc1 := cell_of_blk (j := 1) (v := sv) q5 rfl
   have hf0 := free_of_blk (j := 0) q5
   clear q1 q2 q4 q5 q6 q7 q8 q9 q10 q11 Hr
   go_wp2
   go_ret
   exact HP.out _
end Go.Proofs.YtlhoahbpklhpmaaGreatDoor
end
section
namespace Go.Proofs.YtlhoahbpklhpmaaGreatDoor
open Go.RowKit Go.Proofs.YtlhoahbpklhpmaaGreatDoorW.PrintWords
set_option linter.unusedVariables false
set_option maxRecDepth 100000 in
theorem read_s (d : Nat) (hd : d ≤ 1000) (ih : ∀ (s : ByteArray) (w : World), s.size ≤ 9223372036854774000 → Calls Tryz.prog 77 #[.string s, .int .i64 d] w (ReadPost w d s))
  (s : ByteArray) (hs0 : s.size ≤ 9223372036854774000) (h1 : s.toList.isEmpty = false) (hp : 0 < s.size) (hc : ∀ h : 0 < s.size, (s[0]'h).toNat = 115) (w : World) :
  Calls Tryz.prog 77 #[.string s, .int .i64 ((d + 1 : Nat) : Int)] w (ReadPost w (d + 1) s) := by
 have hd0 : ((d : Int) + 1 == 0) = false := by rw [beq_eq_false_iff_ne]; omega
 have IH := Lib.hid ih
 clear ih
 have HS := Lib.hid (rel_start w s d hp)
 rw [show (((d + 1 : Nat) : Int)) = (d : Int) + 1 from by omega]
 go_enter Tryz.func77, Tryz.ntmps77
 go_wp2_with fail
 go_loopw [7, 32] (fun a i wr => ∃ k at_ : Nat, k ≤ 2 ∧ i = .int .i64 k ∧ a = .int .i64 at_ ∧ RelR w s d k at_ wr) (fun _ i _ => 10 - (intOf i).toNat)
 case atStart => exact ⟨0, 1, by omega, rfl, rfl, HS.out⟩
 case round =>
  obtain ⟨k, at_, hk, rfl, rfl, hr⟩ := hrel
  have Hr := Lib.hid hr
  clear hr HS
  by_cases hlt : k < 2
  ·have hat : at_ ≤ s.size := by obtain ⟨ts, rest, sv, _, _, h3, _⟩ := Hr.out; omega
   go_wp2_with fail
   refine (IH.out (s.extract at_ s.size) _ (by rw [ByteArray.size_extract]; omega)).mono ?_
   rintro e w5 ⟨v, rfl, hv, hb5⟩
   have Hv := Lib.hid hv
   have Hb5 := Lib.hid hb5
   clear hv hb5
   cases hpr : parse d (bytes (s.extract at_ s.size)) with
   | none =>
    have hvn : v = .nilIface := by have := Hv.out; rw [hpr] at this; exact this
    subst hvn
    have HF : Hid (parse (d + 1) (bytes s) = none) := by
     rw [bytes_split hp]
     exact fail_two (k2 := K2.s) (by rw [UInt8.toNat_inj.1 ((hc hp).trans (show 115 = (K2.s).code.toNat from rfl))]; rfl) (rel_fail Hr.out hpr hlt)
    have HB : Hid (Below w.heap.size w w5) := by obtain ⟨ts, rest, sv, q1, q2, q3, q4, q0, q5, q6, q7, q8⟩ := Hr.out; exact q7.trans (Hb5.out.mono (by omega))
    clear Hv hpr
    go_wp2
    go_ret
    exact ⟨_, rfl, by rw [HF.out]; rfl, HB.out⟩
   | some x =>
    obtain ⟨t, r2⟩ := x
    have hnode : NodeAt w5 wr.heap.size v t := by have := Hv.out; rw [hpr] at this; exact this
    obtain ⟨ty, f, y, rfl, hm, hen, hcf⟩ := hnode.isNode
    have Hn := Lib.hid hnode
    have Hcf := Lib.hid hcf
    clear hnode hcf Hv
    go_upto_region 23 with (fail)
    obtain ⟨ts, rest, sv, q1, q2, q3, q4, q0, q5, q6, q7, q8⟩ := Hr.out
    have hsz5 : w.heap.size < w5.heap.size := by have := Hb5.out.size; omega
    have hblk : w5.heap[w.heap.size]? = some (.cells #[.string ⟨#[]⟩, sv] 90 (0, 0)) := (Hb5.out.block _ q8).trans q5
    have Hown : Hid (∀ o o', ((w5.alloc o).alloc o').drew.ownsRow (w.heap.size + 1) 9 1 sv k (strCells (ts.map enc))) := fun o o' => (((pw_own_below q6 Hb5.out).alloc o).alloc o').drew
    have Hnew : Hid (∀ o o', ((w5.alloc o).alloc o').drew.heap[w5.heap.size + 1]? = some o') := fun o o' => by
     have := heap_alloc_new (w5.alloc o) o'
     rwa [show (w5.alloc o).heap.size = w5.heap.size + 1 from by simp] at this
    have Hne : Hid (some w.heap.size ≠ sv.ownBlock) := fun e => by have := own_base q6 _ e.symm; omega
    have hcell := cell_of_blk (j := 1) (v := sv) hblk rfl
    have hfree := free_of_blk (j := 1) hblk
    have Hq := Lib.hid (And.intro q1 (And.intro q2 (And.intro q3 (And.intro q4 q0))))
    have Hb := Lib.hid (q7.trans (Hb5.out.mono (by omega)))
    have Hbase : Hid (∀ j, sv.ownBlock = some j → w.heap.size + 1 ≤ j) := fun j hj => own_base q6 j hj
    have Hblk := Lib.hid hblk
    obtain ⟨i0, hi0, hz0, hz1, hz2⟩ := info_parts infoStr
    clear q1 q2 q3 q4 q0 q5 q6 q7 q8 hblk
    have Hi0 := Lib.hid hi0
    have Hz0 := Lib.hid hz0
    have Hz1 := Lib.hid hz1
    have Hz2 := Lib.hid hz2
    clear hi0 hz0 hz1 hz2
    have K2 : Hid (∀ o o', ((w5.alloc o).alloc o').drew.cell? ⟨w.heap.size, 1, none⟩ = some sv ∧ ((w5.alloc o).alloc o').drew.frozen? ⟨w.heap.size, 1, none⟩ = false) := fun o o' => by
     have hb : ((w5.alloc o).alloc o').drew.heap[w.heap.size]? = some (.cells #[.string ⟨#[]⟩, sv] 90 (0, 0)) := (Below.heap_alloc _ _ _ (by simp; omega)).trans ((Below.heap_alloc _ _ _ hsz5).trans Hblk.out)
     exact ⟨cell_of_blk hb rfl, free_of_blk hb⟩
    go_cut [] (fun wx => MidRel w s d k at_ t wx)
    case first =>
     go_region_law (first
      | (refine step_append_lies _ (by rfl) _ _ _ (by rfl) (w.heap.size + 1) 9 i0 _ 1 16 Tryz.underlying32 Hi0.out Hz0.out Hz1.out Hz2.out rfl (by omega) sv k (strCells (ts.map enc)) (by rfl) (Hown.out _ _) ⟨w5.heap.size + 1, 0, none⟩ 1 1 [.string (ofBytes (enc t))] (by rfl) (by rfl) (World.news_of_block (cs := #[.string (ofBytes (enc t))]) (t := 9) (fr := (0, 0)) (Hnew.out _ _)) (by simp [Value.oneCell']) (by omega) (by unfold maxLen; omega) (by omega) (by simp; omega) (w5.heap.size + 2) (by simp) ?_; intro gg cap w1 hown1 hgrow hat hlt1; have hc1 := (hgrow.cell_far ⟨w.heap.size, 1, none⟩ (by simp; omega) Hne.out).trans (K2.out _ _).1; have hf1 := (hgrow.frozen_far ⟨w.heap.size, 1, none⟩ (by simp; omega) Hne.out).trans (K2.out _ _).2)
      | (go_simp; (with_reducible refine (Hcf.out _).mono ?_); rintro e w' ⟨rfl, rfl⟩))
     all_goals (go_wp2_with fail; go_meet)
     all_goals exact mid_of Hq.out Hb.out hsz5 Hblk.out Hne.out Hbase.out hown1 hgrow
    case rest =>
     have Hc := Lib.hid hcut
     have hL := rel_len Hr.out hpr
     have hLz := size_ofBytes (enc t)
     have Hpr := Lib.hid hpr
     clear hcut hcell hfree hpr Hblk Hne Hown Hnew K2 Hi0 Hz0 Hz1 Hz2 Hq
     go_wp2_with fail
     refine (Hcf.out _).mono ?_
     rintro e w6 ⟨rfl, rfl⟩
     go_wp2
     go_roundw
     case rel => exact ⟨k + 1, at_ + (enc t).length, by omega, by go_num, by go_num, rel_next Hc.out Hpr.out _⟩
     case measure => simp [intOf]; omega
  ·obtain rfl : k = 2 := by omega
   clear hlt
   obtain ⟨ts, rest, sv, q1, q2, q3, q4, q5, q6, q7, q8⟩ := rel_end Hr.out
   obtain ⟨a, b, rfl, _, q11⟩ := done_two hp (k2 := K2.s) (UInt8.toNat_inj.1 (hc hp)) q1 q4
   obtain ⟨q9, q10⟩ := q11 (fun h => by cases h.1)
   have HP : Hid (∀ u, ReadPost w (d + 1) s (.returned (.iface 90 (.agg #[.string (s.extract 0 at_), sv]))) (wr.setCell ⟨w.heap.size, 0, none⟩ u)) := fun u =>
    ⟨_, rfl, by rw [q9]; exact node_two q6 q10 u, q7.setCell (Nat.le_refl _) _⟩
   have hc0 := cell_of_blk (j := 0) (v := .string ⟨#[]⟩) q5 rfl
   have hc1 := cell_of_blk (j := 1) (v := sv) q5 rfl
   have hf0 := free_of_blk (j := 0) q5
   clear q1 q2 q4 q5 q6 q7 q8 q9 q10 q11 Hr
   go_wp2
   go_ret
   exact HP.out _
set_option maxRecDepth 100000 in
theorem read_g (d : Nat) (hd : d ≤ 1000) (ih : ∀ (s : ByteArray) (w : World), s.size ≤ 9223372036854774000 → Calls Tryz.prog 77 #[.string s, .int .i64 d] w (ReadPost w d s))
  (s : ByteArray) (hs0 : s.size ≤ 9223372036854774000) (h1 : s.toList.isEmpty = false) (hp : 0 < s.size) (hc : ∀ h : 0 < s.size, (s[0]'h).toNat = 103) (w : World) :
  Calls Tryz.prog 77 #[.string s, .int .i64 ((d + 1 : Nat) : Int)] w (ReadPost w (d + 1) s) := by
 have hd0 : ((d : Int) + 1 == 0) = false := by rw [beq_eq_false_iff_ne]; omega
 have IH := Lib.hid ih
 clear ih
 have HS := Lib.hid (rel_start w s d hp)
 rw [show (((d + 1 : Nat) : Int)) = (d : Int) + 1 from by omega]
 go_enter Tryz.func77, Tryz.ntmps77
 go_wp2_with fail
 go_loopw [7, 32] (fun a i wr => ∃ k at_ : Nat, k ≤ 2 ∧ i = .int .i64 k ∧ a = .int .i64 at_ ∧ RelR w s d k at_ wr) (fun _ i _ => 10 - (intOf i).toNat)
 case atStart => exact ⟨0, 1, by omega, rfl, rfl, HS.out⟩
 case round =>
  obtain ⟨k, at_, hk, rfl, rfl, hr⟩ := hrel
  have Hr := Lib.hid hr
  clear hr HS
  by_cases hlt : k < 2
  ·have hat : at_ ≤ s.size := by obtain ⟨ts, rest, sv, _, _, h3, _⟩ := Hr.out; omega
   go_wp2_with fail
   refine (IH.out (s.extract at_ s.size) _ (by rw [ByteArray.size_extract]; omega)).mono ?_
   rintro e w5 ⟨v, rfl, hv, hb5⟩
   have Hv := Lib.hid hv
   have Hb5 := Lib.hid hb5
   clear hv hb5
   cases hpr : parse d (bytes (s.extract at_ s.size)) with
   | none =>
    have hvn : v = .nilIface := by have := Hv.out; rw [hpr] at this; exact this
    subst hvn
    have HF : Hid (parse (d + 1) (bytes s) = none) := by
     rw [bytes_split hp]
     exact fail_two (k2 := K2.g) (by rw [UInt8.toNat_inj.1 ((hc hp).trans (show 103 = (K2.g).code.toNat from rfl))]; rfl) (rel_fail Hr.out hpr hlt)
    have HB : Hid (Below w.heap.size w w5) := by obtain ⟨ts, rest, sv, q1, q2, q3, q4, q0, q5, q6, q7, q8⟩ := Hr.out; exact q7.trans (Hb5.out.mono (by omega))
    clear Hv hpr
    go_wp2
    go_ret
    exact ⟨_, rfl, by rw [HF.out]; rfl, HB.out⟩
   | some x =>
    obtain ⟨t, r2⟩ := x
    have hnode : NodeAt w5 wr.heap.size v t := by have := Hv.out; rw [hpr] at this; exact this
    obtain ⟨ty, f, y, rfl, hm, hen, hcf⟩ := hnode.isNode
    have Hn := Lib.hid hnode
    have Hcf := Lib.hid hcf
    clear hnode hcf Hv
    go_upto_region 23 with (fail)
    obtain ⟨ts, rest, sv, q1, q2, q3, q4, q0, q5, q6, q7, q8⟩ := Hr.out
    have hsz5 : w.heap.size < w5.heap.size := by have := Hb5.out.size; omega
    have hblk : w5.heap[w.heap.size]? = some (.cells #[.string ⟨#[]⟩, sv] 90 (0, 0)) := (Hb5.out.block _ q8).trans q5
    have Hown : Hid (∀ o o', ((w5.alloc o).alloc o').drew.ownsRow (w.heap.size + 1) 9 1 sv k (strCells (ts.map enc))) := fun o o' => (((pw_own_below q6 Hb5.out).alloc o).alloc o').drew
    have Hnew : Hid (∀ o o', ((w5.alloc o).alloc o').drew.heap[w5.heap.size + 1]? = some o') := fun o o' => by
     have := heap_alloc_new (w5.alloc o) o'
     rwa [show (w5.alloc o).heap.size = w5.heap.size + 1 from by simp] at this
    have Hne : Hid (some w.heap.size ≠ sv.ownBlock) := fun e => by have := own_base q6 _ e.symm; omega
    have hcell := cell_of_blk (j := 1) (v := sv) hblk rfl
    have hfree := free_of_blk (j := 1) hblk
    have Hq := Lib.hid (And.intro q1 (And.intro q2 (And.intro q3 (And.intro q4 q0))))
    have Hb := Lib.hid (q7.trans (Hb5.out.mono (by omega)))
    have Hbase : Hid (∀ j, sv.ownBlock = some j → w.heap.size + 1 ≤ j) := fun j hj => own_base q6 j hj
    have Hblk := Lib.hid hblk
    obtain ⟨i0, hi0, hz0, hz1, hz2⟩ := info_parts infoStr
    clear q1 q2 q3 q4 q0 q5 q6 q7 q8 hblk
    have Hi0 := Lib.hid hi0
    have Hz0 := Lib.hid hz0
    have Hz1 := Lib.hid hz1
    have Hz2 := Lib.hid hz2
    clear hi0 hz0 hz1 hz2
    have K2 : Hid (∀ o o', ((w5.alloc o).alloc o').drew.cell? ⟨w.heap.size, 1, none⟩ = some sv ∧ ((w5.alloc o).alloc o').drew.frozen? ⟨w.heap.size, 1, none⟩ = false) := fun o o' => by
     have hb : ((w5.alloc o).alloc o').drew.heap[w.heap.size]? = some (.cells #[.string ⟨#[]⟩, sv] 90 (0, 0)) := (Below.heap_alloc _ _ _ (by simp; omega)).trans ((Below.heap_alloc _ _ _ hsz5).trans Hblk.out)
     exact ⟨cell_of_blk hb rfl, free_of_blk hb⟩
    go_cut [] (fun wx => MidRel w s d k at_ t wx)
    case first =>
     go_region_law (first
      | (refine step_append_lies _ (by rfl) _ _ _ (by rfl) (w.heap.size + 1) 9 i0 _ 1 16 Tryz.underlying32 Hi0.out Hz0.out Hz1.out Hz2.out rfl (by omega) sv k (strCells (ts.map enc)) (by rfl) (Hown.out _ _) ⟨w5.heap.size + 1, 0, none⟩ 1 1 [.string (ofBytes (enc t))] (by rfl) (by rfl) (World.news_of_block (cs := #[.string (ofBytes (enc t))]) (t := 9) (fr := (0, 0)) (Hnew.out _ _)) (by simp [Value.oneCell']) (by omega) (by unfold maxLen; omega) (by omega) (by simp; omega) (w5.heap.size + 2) (by simp) ?_; intro gg cap w1 hown1 hgrow hat hlt1; have hc1 := (hgrow.cell_far ⟨w.heap.size, 1, none⟩ (by simp; omega) Hne.out).trans (K2.out _ _).1; have hf1 := (hgrow.frozen_far ⟨w.heap.size, 1, none⟩ (by simp; omega) Hne.out).trans (K2.out _ _).2)
      | (go_simp; (with_reducible refine (Hcf.out _).mono ?_); rintro e w' ⟨rfl, rfl⟩))
     all_goals (go_wp2_with fail; go_meet)
     all_goals exact mid_of Hq.out Hb.out hsz5 Hblk.out Hne.out Hbase.out hown1 hgrow
    case rest =>
     have Hc := Lib.hid hcut
     have hL := rel_len Hr.out hpr
     have hLz := size_ofBytes (enc t)
     have Hpr := Lib.hid hpr
     clear hcut hcell hfree hpr Hblk Hne Hown Hnew K2 Hi0 Hz0 Hz1 Hz2 Hq
     go_wp2_with fail
     refine (Hcf.out _).mono ?_
     rintro e w6 ⟨rfl, rfl⟩
     go_wp2
     go_roundw
     case rel => exact ⟨k + 1, at_ + (enc t).length, by omega, by go_num, by go_num, rel_next Hc.out Hpr.out _⟩
     case measure => simp [intOf]; omega
  ·obtain rfl : k = 2 := by omega
   clear hlt
   obtain ⟨ts, rest, sv, q1, q2, q3, q4, q5, q6, q7, q8⟩ := rel_end Hr.out
   obtain ⟨a, b, rfl, _, q11⟩ := done_two hp (k2 := K2.g) (UInt8.toNat_inj.1 (hc hp)) q1 q4
   obtain ⟨q9, q10⟩ := q11 (fun h => by cases h.1)
   have HP : Hid (∀ u, ReadPost w (d + 1) s (.returned (.iface 90 (.agg #[.string (s.extract 0 at_), sv]))) (wr.setCell ⟨w.heap.size, 0, none⟩ u)) := fun u =>
    ⟨_, rfl, by rw [q9]; exact node_two q6 q10 u, q7.setCell (Nat.le_refl _) _⟩
   have hc0 := cell_of_blk (j := 0) (v := .string ⟨#[]⟩) q5 rfl
   have hc1 := cell_of_blk (j := 1) (v := sv) q5 rfl
   have hf0 := free_of_blk (j := 0) q5
   clear q1 q2 q4 q5 q6 q7 q8 q9 q10 q11 Hr
   go_wp2
   go_ret
   exact HP.out _
end Go.Proofs.YtlhoahbpklhpmaaGreatDoor
end
section
namespace Go.Proofs.YtlhoahbpklhpmaaGreatDoor
open Go.RowKit Go.Proofs.YtlhoahbpklhpmaaGreatDoorW.PrintWords
set_option linter.unusedVariables false
set_option maxRecDepth 100000 in
theorem read_b (d : Nat) (hd : d ≤ 1000) (ih : ∀ (s : ByteArray) (w : World), s.size ≤ 9223372036854774000 → Calls Tryz.prog 77 #[.string s, .int .i64 d] w (ReadPost w d s))
  (s : ByteArray) (hs0 : s.size ≤ 9223372036854774000) (h1 : s.toList.isEmpty = false) (hp : 0 < s.size) (hc : ∀ h : 0 < s.size, (s[0]'h).toNat = 98) (w : World) :
  Calls Tryz.prog 77 #[.string s, .int .i64 ((d + 1 : Nat) : Int)] w (ReadPost w (d + 1) s) := by
 have hd0 : ((d : Int) + 1 == 0) = false := by rw [beq_eq_false_iff_ne]; omega
 have IH := Lib.hid ih
 clear ih
 have HS := Lib.hid (rel_start w s d hp)
 rw [show (((d + 1 : Nat) : Int)) = (d : Int) + 1 from by omega]
 go_enter Tryz.func77, Tryz.ntmps77
 go_wp2_with fail
 go_loopw [7, 32] (fun a i wr => ∃ k at_ : Nat, k ≤ 2 ∧ i = .int .i64 k ∧ a = .int .i64 at_ ∧ RelR w s d k at_ wr) (fun _ i _ => 10 - (intOf i).toNat)
 case atStart => exact ⟨0, 1, by omega, rfl, rfl, HS.out⟩
 case round =>
  obtain ⟨k, at_, hk, rfl, rfl, hr⟩ := hrel
  have Hr := Lib.hid hr
  clear hr HS
  by_cases hlt : k < 2
  ·have hat : at_ ≤ s.size := by obtain ⟨ts, rest, sv, _, _, h3, _⟩ := Hr.out; omega
   go_wp2_with fail
   refine (IH.out (s.extract at_ s.size) _ (by rw [ByteArray.size_extract]; omega)).mono ?_
   rintro e w5 ⟨v, rfl, hv, hb5⟩
   have Hv := Lib.hid hv
   have Hb5 := Lib.hid hb5
   clear hv hb5
   cases hpr : parse d (bytes (s.extract at_ s.size)) with
   | none =>
    have hvn : v = .nilIface := by have := Hv.out; rw [hpr] at this; exact this
    subst hvn
    have HF : Hid (parse (d + 1) (bytes s) = none) := by
     rw [bytes_split hp]
     exact fail_two (k2 := K2.b) (by rw [UInt8.toNat_inj.1 ((hc hp).trans (show 98 = (K2.b).code.toNat from rfl))]; rfl) (rel_fail Hr.out hpr hlt)
    have HB : Hid (Below w.heap.size w w5) := by obtain ⟨ts, rest, sv, q1, q2, q3, q4, q0, q5, q6, q7, q8⟩ := Hr.out; exact q7.trans (Hb5.out.mono (by omega))
    clear Hv hpr
    go_wp2
    go_ret
    exact ⟨_, rfl, by rw [HF.out]; rfl, HB.out⟩
   | some x =>
    obtain ⟨t, r2⟩ := x
    have hnode : NodeAt w5 wr.heap.size v t := by have := Hv.out; rw [hpr] at this; exact this
    obtain ⟨ty, f, y, rfl, hm, hen, hcf⟩ := hnode.isNode
    have Hn := Lib.hid hnode
    have Hcf := Lib.hid hcf
    clear hnode hcf Hv
    go_upto_region 23 with (fail)
    obtain ⟨ts, rest, sv, q1, q2, q3, q4, q0, q5, q6, q7, q8⟩ := Hr.out
    have hsz5 : w.heap.size < w5.heap.size := by have := Hb5.out.size; omega
    have hblk : w5.heap[w.heap.size]? = some (.cells #[.string ⟨#[]⟩, sv] 90 (0, 0)) := (Hb5.out.block _ q8).trans q5
    have Hown : Hid (∀ o o', ((w5.alloc o).alloc o').drew.ownsRow (w.heap.size + 1) 9 1 sv k (strCells (ts.map enc))) := fun o o' => (((pw_own_below q6 Hb5.out).alloc o).alloc o').drew
    have Hnew : Hid (∀ o o', ((w5.alloc o).alloc o').drew.heap[w5.heap.size + 1]? = some o') := fun o o' => by
     have := heap_alloc_new (w5.alloc o) o'
     rwa [show (w5.alloc o).heap.size = w5.heap.size + 1 from by simp] at this
    have Hne : Hid (some w.heap.size ≠ sv.ownBlock) := fun e => by have := own_base q6 _ e.symm; omega
    have hcell := cell_of_blk (j := 1) (v := sv) hblk rfl
    have hfree := free_of_blk (j := 1) hblk
    have Hq := Lib.hid (And.intro q1 (And.intro q2 (And.intro q3 (And.intro q4 q0))))
    have Hb := Lib.hid (q7.trans (Hb5.out.mono (by omega)))
    have Hbase : Hid (∀ j, sv.ownBlock = some j → w.heap.size + 1 ≤ j) := fun j hj => own_base q6 j hj
    have Hblk := Lib.hid hblk
    obtain ⟨i0, hi0, hz0, hz1, hz2⟩ := info_parts infoStr
    clear q1 q2 q3 q4 q0 q5 q6 q7 q8 hblk
    have Hi0 := Lib.hid hi0
    have Hz0 := Lib.hid hz0
    have Hz1 := Lib.hid hz1
    have Hz2 := Lib.hid hz2
    clear hi0 hz0 hz1 hz2
    have K2 : Hid (∀ o o', ((w5.alloc o).alloc o').drew.cell? ⟨w.heap.size, 1, none⟩ = some sv ∧ ((w5.alloc o).alloc o').drew.frozen? ⟨w.heap.size, 1, none⟩ = false) := fun o o' => by
     have hb : ((w5.alloc o).alloc o').drew.heap[w.heap.size]? = some (.cells #[.string ⟨#[]⟩, sv] 90 (0, 0)) := (Below.heap_alloc _ _ _ (by simp; omega)).trans ((Below.heap_alloc _ _ _ hsz5).trans Hblk.out)
     exact ⟨cell_of_blk hb rfl, free_of_blk hb⟩
    go_cut [] (fun wx => MidRel w s d k at_ t wx)
    case first =>
     go_region_law (first
      | (refine step_append_lies _ (by rfl) _ _ _ (by rfl) (w.heap.size + 1) 9 i0 _ 1 16 Tryz.underlying32 Hi0.out Hz0.out Hz1.out Hz2.out rfl (by omega) sv k (strCells (ts.map enc)) (by rfl) (Hown.out _ _) ⟨w5.heap.size + 1, 0, none⟩ 1 1 [.string (ofBytes (enc t))] (by rfl) (by rfl) (World.news_of_block (cs := #[.string (ofBytes (enc t))]) (t := 9) (fr := (0, 0)) (Hnew.out _ _)) (by simp [Value.oneCell']) (by omega) (by unfold maxLen; omega) (by omega) (by simp; omega) (w5.heap.size + 2) (by simp) ?_; intro gg cap w1 hown1 hgrow hat hlt1; have hc1 := (hgrow.cell_far ⟨w.heap.size, 1, none⟩ (by simp; omega) Hne.out).trans (K2.out _ _).1; have hf1 := (hgrow.frozen_far ⟨w.heap.size, 1, none⟩ (by simp; omega) Hne.out).trans (K2.out _ _).2)
      | (go_simp; (with_reducible refine (Hcf.out _).mono ?_); rintro e w' ⟨rfl, rfl⟩))
     all_goals (go_wp2_with fail; go_meet)
     all_goals exact mid_of Hq.out Hb.out hsz5 Hblk.out Hne.out Hbase.out hown1 hgrow
    case rest =>
     have Hc := Lib.hid hcut
     have hL := rel_len Hr.out hpr
     have hLz := size_ofBytes (enc t)
     have Hpr := Lib.hid hpr
     clear hcut hcell hfree hpr Hblk Hne Hown Hnew K2 Hi0 Hz0 Hz1 Hz2 Hq
     go_wp2_with fail
     refine (Hcf.out _).mono ?_
     rintro e w6 ⟨rfl, rfl⟩
     go_wp2
     go_roundw
     case rel => exact ⟨k + 1, at_ + (enc t).length, by omega, by go_num, by go_num, rel_next Hc.out Hpr.out _⟩
     case measure => simp [intOf]; omega
  ·obtain rfl : k = 2 := by omega
   clear hlt
   obtain ⟨ts, rest, sv, q1, q2, q3, q4, q5, q6, q7, q8⟩ := rel_end Hr.out
   obtain ⟨a, b, rfl, q9, q10⟩ := done_two hp (k2 := K2.b) (UInt8.toNat_inj.1 (hc hp)) q1 q4
   have hc0 := cell_of_blk (j := 0) (v := .string ⟨#[]⟩) q5 rfl
   have hc1 := cell_of_blk (j := 1) (v := sv) q5 rfl
   have hf0 := free_of_blk (j := 0) q5
   obtain ⟨g, cap, rfl, _, _⟩ := q6.form (by omega)
   have hce : wr.cell? ⟨g, 0, none⟩ = some (.string (ofBytes (enc a))) := q6.cells (g := g) rfl 0 _ rfl
   cases hpub : a.isPub with
   | true =>
    obtain ⟨q9, q10⟩ := q10 (fun h => by rw [hpub] at h; cases h.2)
    have HP : Hid (∀ u, ReadPost w (d + 1) s (.returned (.iface 90 (.agg #[.string (s.extract 0 at_), .slice (some ⟨g, 0, none⟩) 2 cap]))) (wr.setCell ⟨w.heap.size, 0, none⟩ u)) := fun u =>
     ⟨_, rfl, by rw [q9]; exact node_two q6 q10 u, q7.setCell (Nat.le_refl _) _⟩
    obtain ⟨l, hl⟩ := pub_byte a hpub
    have hby : ∀ h : 0 < (ofBytes (enc a)).size, ((ofBytes (enc a))[0]'h).toNat = 117 := fun h => by
     have e : bytes (ofBytes (enc a)) = 117 :: l := by rw [bytes_ofBytes, hl]
     rw [(bytes_cons e).2.2.1 h]; rfl
    have hsz : 0 < (ofBytes (enc a)).size := by rw [size_ofBytes]; exact enc_pos a
    generalize ofBytes (enc a) = qa at *
    clear q1 q2 q4 q5 q6 q7 q8 q9 q10 Hr hl hpub
    go_wp2
    go_ret
    exact HP.out _
   | false =>
    have q9 := q9 ⟨rfl, hpub⟩
    have HP : Hid (ReadPost w (d + 1) s (.returned .nilIface) wr) := ⟨_, rfl, by rw [q9]; rfl, q7⟩
    obtain ⟨c, l, hl, hcl⟩ := npub_byte a hpub
    have hby : ∀ h : 0 < (ofBytes (enc a)).size, ((ofBytes (enc a))[0]'h).toNat = c.toNat := fun h => by
     have e : bytes (ofBytes (enc a)) = c :: l := by rw [bytes_ofBytes, hl]
     rw [(bytes_cons e).2.2.1 h]
    have hsz : 0 < (ofBytes (enc a)).size := by rw [size_ofBytes]; exact enc_pos a
    have hne : ((c.toNat : Int) != 117) = true := by
     rw [bne_iff_ne]
     intro e
     exact hcl (UInt8.toNat_inj.1 (show c.toNat = (117 : UInt8).toNat from by have : (117 : UInt8).toNat = 117 := rfl; omega))
    generalize ofBytes (enc a) = qa at *
    generalize c.toNat = cn at *
    clear q1 q2 q4 q5 q6 q7 q8 q9 q10 Hr hl hpub hcl
    go_wp2
    go_ret
    exact HP.out
end Go.Proofs.YtlhoahbpklhpmaaGreatDoor
end
section
namespace Go.Proofs.YtlhoahbpklhpmaaGreatDoor
open Go.RowKit Go.Proofs.YtlhoahbpklhpmaaGreatDoorW.PrintWords
set_option linter.unusedVariables false
set_option maxRecDepth 100000 in
theorem read_leaf (c : Nat) (hcc : c = 97 ∨ c = 116) (d : Nat) (hd : d ≤ 1000) (s : ByteArray) (v : Value) (h1 : s.toList.isEmpty = false) (hp : 0 < s.size) (hc : ∀ h : 0 < s.size, (s[0]'h).toNat = c) (w : World)
  (hl : Calls Tryz.prog 86 #[.string s] w fun e w' => e = .returned v ∧ Below w.heap.size w w') :
  Calls Tryz.prog 77 #[.string s, .int .i64 ((d + 1 : Nat) : Int)] w fun e w' => e = .returned v ∧ Below w.heap.size w w' := by
 have hd0 : ((d : Int) + 1 == 0) = false := by rw [beq_eq_false_iff_ne]; omega
 have HL := Lib.hid hl
 clear hl
 rw [show (((d + 1 : Nat) : Int)) = (d : Int) + 1 from by omega]
 rcases hcc with rfl | rfl
 ·go_enter Tryz.func77, Tryz.ntmps77
  go_wp2_with fail
  refine HL.out.mono ?_
  rintro e w' ⟨rfl, hb⟩
  have HB := Lib.hid hb
  clear hb
  go_wp2
  go_ret
  exact ⟨rfl, HB.out⟩
 ·go_enter Tryz.func77, Tryz.ntmps77
  go_wp2_with fail
  refine HL.out.mono ?_
  rintro e w' ⟨rfl, hb⟩
  have HB := Lib.hid hb
  clear hb
  go_wp2
  go_ret
  exact ⟨rfl, HB.out⟩
set_option maxRecDepth 100000 in
theorem read_none (c : Nat) (q0 : ((c : Int) == 97) = false) (q1 : ((c : Int) == 116) = false) (q2 : ((c : Int) == 104) = false) (q3 : ((c : Int) == 117) = false) (q4 : ((c : Int) == 112) = false) (q5 : ((c : Int) == 115) = false) (q6 : ((c : Int) == 98) = false) (q7 : ((c : Int) == 103) = false)
  (d : Nat) (hd : d ≤ 1000) (s : ByteArray) (h1 : s.toList.isEmpty = false) (hp : 0 < s.size) (hc : ∀ h : 0 < s.size, (s[0]'h).toNat = c) (w : World) :
  Calls Tryz.prog 77 #[.string s, .int .i64 ((d + 1 : Nat) : Int)] w fun e w' => e = .returned .nilIface ∧ w = w' := by
 have hd0 : ((d : Int) + 1 == 0) = false := by rw [beq_eq_false_iff_ne]; omega
 rw [show (((d + 1 : Nat) : Int)) = (d : Int) + 1 from by omega]
 go_enter Tryz.func77, Tryz.ntmps77
 go_wp2
 go_ret
 exact ⟨rfl, rfl⟩
theorem leaf_node {w : World} {base : Nat} {x : Option (T × Bs)} (h : ∀ y, x = some y → (∃ n, y.1 = .atom n) ∨ ∃ s, y.1 = .text s) : NodeRes w base (leafRes x) x := by
 cases x with
 | none => rfl
 | some y =>
  obtain ⟨t, r⟩ := y
  rcases h _ rfl with ⟨n, rfl⟩ | ⟨s, rfl⟩
  ·rfl
  ·rfl
theorem read_any (d : Nat) (hd : d ≤ 1000) : ∀ (s : ByteArray) (w : World), s.size ≤ 9223372036854774000 → Calls Tryz.prog 77 #[.string s, .int .i64 d] w (ReadPost w d s) := by
 induction d with
 | zero =>
  intro s w hs
  cases hb : bytes s with
  | nil =>
   obtain rfl : s = ⟨#[]⟩ := bs_inj (by rw [hb]; rfl)
   refine (read_nil 0 w).mono ?_
   rintro e w' ⟨rfl, rfl⟩
   exact ⟨_, rfl, rfl, Below.refl _ _⟩
  | cons c l =>
   refine (read_zero s (bytes_cons hb).2.1 w).mono ?_
   rintro e w' ⟨rfl, rfl⟩
   exact ⟨_, rfl, rfl, Below.refl _ _⟩
 | succ d ih =>
  have ih := ih (by omega)
  intro s w hs
  cases hb : bytes s with
  | nil =>
   obtain rfl : s = ⟨#[]⟩ := bs_inj (by rw [hb]; rfl)
   refine (read_nil (d + 1) w).mono ?_
   rintro e w' ⟨rfl, rfl⟩
   exact ⟨_, rfl, rfl, Below.refl _ _⟩
  | cons c l =>
   obtain ⟨h2, h1, h3, h4⟩ := bytes_cons hb
   have hp : 0 < s.size := by omega
   have hc : ∀ h : 0 < s.size, (s[0]'h).toNat = c.toNat := fun h => by rw [h3 h]
   have hsz : (s.extract 1 s.size).size = l.length := by rw [← bytes_length, h4]
   have hx : s.extract 1 ((s.extract 1 s.size).size + 1) = s.extract 1 s.size := by rw [hsz, ← h2]
   have hpost : ∀ x, parse (d + 1) (bytes s) = x → (∀ y, x = some y → (∃ n, y.1 = .atom n) ∨ ∃ s, y.1 = .text s) →
     (Calls Tryz.prog 77 #[.string s, .int .i64 ((d + 1 : Nat) : Int)] w fun e w' => e = .returned (leafRes x) ∧ Below w.heap.size w w') →
     Calls Tryz.prog 77 #[.string s, .int .i64 ((d + 1 : Nat) : Int)] w (ReadPost w (d + 1) s) := by
    intro x hx hy hcall
    refine hcall.mono ?_
    rintro e w' ⟨rfl, hB⟩
    exact ⟨_, rfl, by rw [hx]; exact leaf_node hy, hB⟩
   by_cases e97 : c = 97
   ·subst e97
    refine hpost ((takeL l).map fun x => (T.atom x.1, x.2)) (by rw [hb]; rfl) ?_ (read_leaf 97 (.inl rfl) d (by omega) s _ h1 hp hc w ?_)
    ·intro y hy
     obtain ⟨z, _, rfl⟩ := Option.map_eq_some_iff.1 hy
     exact .inl ⟨_, rfl⟩
    ·have := leaf_atom s (s.extract 1 s.size) (by omega) (by omega) hc hx (by rw [h4, hb]) w
     rwa [h4] at this
   by_cases e116 : c = 116
   ·subst e116
    refine hpost ((takeT 4000 l).map fun x => (T.text x.1, x.2)) (by rw [hb]; rfl) ?_ (read_leaf 116 (.inr rfl) d (by omega) s _ h1 hp hc w ?_)
    ·intro y hy
     obtain ⟨z, _, rfl⟩ := Option.map_eq_some_iff.1 hy
     exact .inr ⟨_, rfl⟩
    ·have := leaf_text s (s.extract 1 s.size) 116 (by rfl) (by omega) (by omega) hc hx (by rw [h4, hb]) w
     rwa [h4] at this
   by_cases e104 : c = 104
   ·subst e104; exact read_h d (by omega) ih s hs h1 hp hc w
   by_cases e117 : c = 117
   ·subst e117; exact read_u d (by omega) ih s hs h1 hp hc w
   by_cases e112 : c = 112
   ·subst e112; exact read_p d (by omega) ih s hs h1 hp hc w
   by_cases e115 : c = 115
   ·subst e115; exact read_s d (by omega) ih s hs h1 hp hc w
   by_cases e98 : c = 98
   ·subst e98; exact read_b d (by omega) ih s hs h1 hp hc w
   by_cases e103 : c = 103
   ·subst e103; exact read_g d (by omega) ih s hs h1 hp hc w
   have hne : ∀ k : UInt8, c ≠ k → ((c.toNat : Int) == (k.toNat : Int)) = false := fun k hk => by
    rw [beq_eq_false_iff_ne]
    intro e
    exact hk (UInt8.toNat_inj.1 (by omega))
   refine (read_none c.toNat (hne 97 e97) (hne 116 e116) (hne 104 e104) (hne 117 e117) (hne 112 e112) (hne 115 e115) (hne 98 e98) (hne 103 e103) d (by omega) s h1 hp hc w).mono ?_
   rintro e w' ⟨rfl, rfl⟩
   refine ⟨_, rfl, ?_, Below.refl _ _⟩
   have : parse (d + 1) (bytes s) = none := by
    rw [hb]
    simp only [parse]
    rw [if_neg e97, if_neg e116]
    have k1 : kind1 c = none := by unfold kind1; rw [if_neg e104, if_neg e117]
    have k2 : kind2 c = none := by unfold kind2; rw [if_neg e112, if_neg e115, if_neg e98, if_neg e103]
    rw [k1]
    simp only
    rw [k2]
   rw [this]
   rfl
end Go.Proofs.YtlhoahbpklhpmaaGreatDoor
end
section
namespace Go.Proofs.YtlhoahbpklhpmaaGreatDoor
open Go.RowKit Go.Proofs.YtlhoahbpklhpmaaGreatDoorW.PrintWords
set_option linter.unusedVariables false
def WholeRes (w : World) (base : Nat) (v : Value) : Option T → Prop
 | none => v = .nilIface
 | some t => NodeAt w base v t
def WholePost (w : World) (s : ByteArray) (e : Ending) (w' : World) : Prop := ∃ v, e = .returned v ∧ WholeRes w' w.heap.size v (termOf (bytes s)) ∧ Below w.heap.size w w'
theorem NodeAt.alloc {w : World} {base : Nat} {v : Value} {t : T} (h : NodeAt w base v t) (o : Obj) : NodeAt (w.alloc o) base v t := by
 cases t with
 | atom n => exact h
 | text s => exact h
 | one k a => obtain ⟨sv, h1, h2⟩ := h; exact ⟨sv, h1, h2.alloc o⟩
 | two k a b => obtain ⟨sv, h1, h2⟩ := h; exact ⟨sv, h1, h2.alloc o⟩
set_option maxRecDepth 100000 in
theorem whole_any (s : ByteArray) (w : World) (hs : s.size ≤ 9223372036854774000) : Calls Tryz.prog 58 #[.string s] w (WholePost w s) := by
 by_cases hbig : 4000 < s.size
 ·have hn : termOf (bytes s) = none := by unfold termOf; rw [if_neg (by rw [bytes_length]; omega)]
  have HP : Hid (WholePost w s (.returned .nilIface) w) := ⟨_, rfl, by rw [hn]; rfl, Below.refl _ _⟩
  clear hn
  go_enter Tryz.func58, Tryz.ntmps58
  go_wp2
  go_ret
  exact HP.out
 ·have HR := Lib.hid (read_any 40 (by omega) s w hs)
  have ht : termOf (bytes s) = match parse 40 (bytes s) with | some (t, []) => some t | _ => none := by unfold termOf; rw [if_pos (by rw [bytes_length]; omega)]; rfl
  have HT := Lib.hid ht
  clear ht
  go_enter Tryz.func58, Tryz.ntmps58
  go_wp2_with fail
  refine HR.out.mono ?_
  rintro e w1 ⟨v, rfl, hv, hb⟩
  have Hb := Lib.hid hb
  clear hb
  cases hp : parse 40 (bytes s) with
  | none =>
   rw [hp] at hv
   obtain rfl : v = .nilIface := hv
   have HP : Hid (WholePost w s (.returned .nilIface) w1) := ⟨_, rfl, by rw [HT.out, hp]; rfl, Hb.out⟩
   clear hp
   go_wp2
   go_ret
   exact HP.out
  | some x =>
   obtain ⟨t, r⟩ := x
   rw [hp] at hv
   have hnode : NodeAt w1 w.heap.size v t := hv
   obtain ⟨ty, f, y, rfl, hm, hen, hcf⟩ := hnode.isNode
   have Hn := Lib.hid hnode
   have Hcf := Lib.hid hcf
   have hl := congrArg List.length (parse_inv _ _ _ _ hp).1
   rw [bytes_length, List.length_append] at hl
   have hsz := size_ofBytes (enc t)
   clear hnode hcf hv
   cases r with
   | nil =>
    have HP : Hid (∀ o, WholePost w s (.returned (.iface ty (.agg #[.string (ofBytes (enc t)), y]))) (w1.alloc o)) := fun o => ⟨_, rfl, by rw [HT.out, hp]; exact Hn.out.alloc o, Hb.out.alloc Hb.out.size o⟩
    have hl2 : (enc t).length = s.size := by simpa using hl.symm
    rw [hl2] at hsz
    clear hp hl hl2
    generalize ofBytes (enc t) = qa at *
    go_wp2_with fail
    refine (Hcf.out _).mono ?_
    rintro e w' ⟨rfl, rfl⟩
    go_wp2
    go_ret
    exact HP.out _
   | cons c r =>
    have HP : Hid (∀ o, WholePost w s (.returned .nilIface) (w1.alloc o)) := fun o => ⟨_, rfl, by rw [HT.out, hp]; rfl, Hb.out.alloc Hb.out.size o⟩
    have hne : (((enc t).length : Int) != (s.size : Int)) = true := by rw [bne_iff_ne]; simp only [List.length_cons] at hl; omega
    generalize (enc t).length = L at *
    clear hp hl
    generalize ofBytes (enc t) = qa at *
    go_wp2_with fail
    refine (Hcf.out _).mono ?_
    rintro e w' ⟨rfl, rfl⟩
    go_wp2
    go_ret
    exact HP.out _
end Go.Proofs.YtlhoahbpklhpmaaGreatDoor
end
section
namespace Go.Proofs.YtlhoahbpklhpmaaGreatDoor
open Go.RowKit Go.Proofs.YtlhoahbpklhpmaaGreatDoorW.PrintWords
set_option linter.unusedVariables false
def right (s : ByteArray) : Bool := (termOf (bytes s)).isSome
def T.code : T → UInt8 | .atom _ => 97 | .text _ => 116 | .one k _ => k.code | .two k _ _ => k.code
def T.parts : T → List T | .atom _ => [] | .text _ => [] | .one _ a => [a] | .two _ a b => [a, b]
theorem enc_code (t : T) : ∃ l, enc t = t.code :: l := by cases t <;> exact ⟨_, rfl⟩
def kindF (s : ByteArray) : Int := match termOf (bytes s) with | none => 0 | some t => t.code.toNat
def partsF (s : ByteArray) : List ByteArray × Int := match termOf (bytes s) with | none => ([], 1) | some t => (t.parts.map fun a => ofBytes (enc a), 0)
def term_Kind.f (a0 : ByteArray) : Option Int := if a0.size ≤ 9223372036854774000 then some (kindF a0) else none
def term_Parts.f (a0 : ByteArray) : Option (List ByteArray × Int) := if a0.size ≤ 9223372036854774000 then some (partsF a0) else none
theorem NodeAt.shape {w : World} {base : Nat} {v : Value} {t : T} (h : NodeAt w base v t) : ∃ ty y, v = .iface ty y := by
 obtain ⟨ty, _, y, rfl, _⟩ := h.isNode
 exact ⟨_, _, rfl⟩
set_option maxRecDepth 100000 in
theorem term_Kind.calls (a0 : ByteArray) (r : Int) (w : World) (h : term_Kind.f a0 = some r) :
  Calls Tryz.prog 27 #[.string a0] w fun e w' => e = .returned (.int .u8 r) ∧ Below w.heap.size w w' := by
 unfold term_Kind.f at h
 split at h
 ·rename_i hs
  obtain rfl := Option.some.inj h
  have HW := Lib.hid (whole_any a0 w hs)
  clear h
  cases ht : termOf (bytes a0) with
  | none =>
   have hk : kindF a0 = 0 := by unfold kindF; rw [ht]
   rw [hk]
   clear hk
   go_enter Tryz.func27, Tryz.ntmps27
   go_wp2_with fail
   refine HW.out.mono ?_
   rintro e w1 ⟨v, rfl, hv, hb⟩
   rw [ht] at hv
   obtain rfl : v = .nilIface := hv
   have HB := Lib.hid hb
   clear hb ht
   go_wp2
   go_ret
   exact ⟨rfl, HB.out⟩
  | some t =>
   have hk : kindF a0 = t.code.toNat := by unfold kindF; rw [ht]
   rw [hk]
   obtain ⟨l, hl⟩ := enc_code t
   have hb0 : bytes a0 = t.code :: l := by rw [(termOf_inv ht).1, hl]
   have hby : ∀ h : 0 < a0.size, (a0[0]'h).toNat = t.code.toNat := fun h => by rw [(bytes_cons hb0).2.2.1 h]
   have hsz : 0 < a0.size := by have := (bytes_cons hb0).1; omega
   generalize t.code.toNat = cn at *
   clear hk hb0 hl
   go_enter Tryz.func27, Tryz.ntmps27
   go_wp2_with fail
   refine HW.out.mono ?_
   rintro e w1 ⟨v, rfl, hv, hb⟩
   rw [ht] at hv
   obtain ⟨ty, y, rfl⟩ := NodeAt.shape (show NodeAt w1 w.heap.size v t from hv)
   have HB := Lib.hid hb
   clear hb ht hv
   go_wp2
   go_ret
   exact ⟨rfl, HB.out⟩
 ·exact absurd h (by simp)
theorem R_of_own {w : World} {base e n : Nat} {v : Value} {l : List ByteArray} (h : w.ownsRow base e 1 v n (encs Value.string l)) : Kd.R Kd.string e w base (fun _ => True) v l := by
 have hn : l.length = n := by have := h.1; simpa [encs] using this
 subst hn
 exact ⟨fun _ _ => trivial, _, h, Kd.reps_scalar l⟩
theorem asrt_parts (y : Value) (W : World) : Sem.run Tryz.prog (Instr.typeAssert (.iface 90 y) 75 90 true) W = .ok (.tuple #[y, .bool true]) W := by kernel_rfl
theorem asrt_number (y : Value) (W : World) : Sem.run Tryz.prog (Instr.typeAssert (.iface 118 y) 75 90 true) W = .ok (.tuple #[.agg #[.string ⟨#[]⟩, .slice none 0 0], .bool false]) W := by kernel_rfl
theorem asrt_words (y : Value) (W : World) : Sem.run Tryz.prog (Instr.typeAssert (.iface 94 y) 75 90 true) W = .ok (.tuple #[.agg #[.string ⟨#[]⟩, .slice none 0 0], .bool false]) W := by kernel_rfl
def PartsPost (w : World) (l : List ByteArray) (c : Int) (e : Ending) (w' : World) : Prop := ∃ v0_ : Value, e = .returned (.tuple #[v0_, .int .i64 c]) ∧ Kd.R Kd.string 9 w' w.heap.size (fun _ => True) v0_ l ∧ Below w.heap.size w w'
set_option maxRecDepth 100000 in
theorem term_Parts.calls (a0 : ByteArray) (r1 : List ByteArray) (r2 : Int) (w : World) (h : term_Parts.f a0 = some (r1, r2)) :
  Calls Tryz.prog 46 #[.string a0] w fun e w' => ∃ v0_ : Value, e = .returned (.tuple #[v0_, .int .i64 r2]) ∧ Kd.R Kd.string 9 w' w.heap.size (fun _ => True) v0_ r1 ∧ Below w.heap.size w w' := by
 unfold term_Parts.f at h
 split at h
 ·rename_i hs
  have h := Option.some.inj h
  have HW := Lib.hid (whole_any a0 w hs)
  show Calls Tryz.prog 46 #[.string a0] w (PartsPost w r1 r2)
  cases ht : termOf (bytes a0) with
  | none =>
   rw [show partsF a0 = ([], 1) from by unfold partsF; rw [ht]] at h
   simp only [Prod.mk.injEq] at h
   obtain ⟨rfl, rfl⟩ := h
   go_enter Tryz.func46, Tryz.ntmps46
   go_wp2_with fail
   refine HW.out.mono ?_
   rintro e w1 ⟨v, rfl, hv, hb⟩
   rw [ht] at hv
   obtain rfl : v = .nilIface := hv
   have HP : Hid (PartsPost w [] 1 (.returned (.tuple #[.slice none 0 0, .int .i64 1])) w1) := ⟨_, rfl, Kd.R_nil _ _ _ _ _, hb⟩
   clear hb ht
   go_wp2
   go_ret2
   exact HP.out
  | some t =>
   rw [show partsF a0 = (t.parts.map fun a => ofBytes (enc a), 0) from by unfold partsF; rw [ht]] at h
   simp only [Prod.mk.injEq] at h
   obtain ⟨rfl, rfl⟩ := h
   go_enter Tryz.func46, Tryz.ntmps46
   go_wp2_with fail
   refine HW.out.mono ?_
   rintro e w1 ⟨v, rfl, hv, hb⟩
   rw [ht] at hv
   have hv : NodeAt w1 w.heap.size v t := hv
   have f1 := asrt_parts
   have f2 := asrt_number
   have f3 := asrt_words
   clear ht
   cases t with
   | atom n =>
    obtain rfl := hv
    have HP : Hid (∀ o, PartsPost w [] 0 (.returned (.tuple #[.slice none 0 0, .int .i64 0])) (w1.alloc o)) := fun o => ⟨_, rfl, Kd.R_nil _ _ _ _ _, hb.alloc hb.size o⟩
    clear hb
    simp only [leafVal]
    go_wp2
    go_ret2
    exact HP.out _
   | text n =>
    obtain rfl := hv
    have HP : Hid (∀ o, PartsPost w [] 0 (.returned (.tuple #[.slice none 0 0, .int .i64 0])) (w1.alloc o)) := fun o => ⟨_, rfl, Kd.R_nil _ _ _ _ _, hb.alloc hb.size o⟩
    clear hb
    simp only [leafVal]
    go_wp2
    go_ret2
    exact HP.out _
   | one k a =>
    obtain ⟨sv, rfl, ho⟩ := hv
    have HP : Hid (∀ o, PartsPost w (List.map (fun a => ofBytes (enc a)) (T.one k a).parts) 0 (.returned (.tuple #[sv, .int .i64 0])) (w1.alloc o)) := fun o => ⟨_, rfl, R_of_own (n := 1) (ho.alloc o), hb.alloc hb.size o⟩
    obtain ⟨g, c, rfl, _, _⟩ := ho.form (by omega)
    generalize ofBytes (enc (T.one k a)) = qa at *
    clear hb ho
    go_wp2
    go_ret2
    exact HP.out _
   | two k a b =>
    obtain ⟨sv, rfl, ho⟩ := hv
    have HP : Hid (∀ o, PartsPost w (List.map (fun a => ofBytes (enc a)) (T.two k a b).parts) 0 (.returned (.tuple #[sv, .int .i64 0])) (w1.alloc o)) := fun o => ⟨_, rfl, R_of_own (n := 2) (ho.alloc o), hb.alloc hb.size o⟩
    obtain ⟨g, c, rfl, _, _⟩ := ho.form (by omega)
    generalize ofBytes (enc (T.two k a b)) = qa at *
    clear hb ho
    go_wp2
    go_ret2
    exact HP.out _
 ·exact absurd h (by simp)
end Go.Proofs.YtlhoahbpklhpmaaGreatDoor
end
end
