/- The contract of term.read. -/
import Derived.Test.YtpgbhgpjfjeomaaLeaf
import Derived.Test.YtpgbhgpjfjeomaaDraw
import Derived.Test.YtpgbhgpjfjeomaaWWords
import Derived.OwnWalk
import Derived.Deep.RegionHeld3
import Derived.Deep.AppendLies
import Derived.Deep.RegionWith
import Derived.Deep.RegionLaw
import Derived.Deep.DeepCutAuto
import Derived.Outline
namespace Go.Proofs.Ytpgbhgpjfjeomaa
open Go.RowKit Go.Proofs.YtpgbhgpjfjeomaaW.PrintWords
set_option linter.unusedVariables false

def strCells (l : List Bs) : List Value := l.map fun x => .string (ofBytes x)
/-- The value that a read term is: its bytes, and its parts' bytes in a row of the call's own. -/
def NodeAt (w : World) (base : Nat) (v : Value) (t : T) : Prop :=
  match t with
  | .atom n => v = leafVal (.atom n)
  | .text s => v = leafVal (.text s)
  | .one k a => ∃ sv, v = .iface 55 (.agg #[.string (ofBytes (enc (.one k a))), sv]) ∧ w.ownsRow base 9 1 sv 1 (strCells [enc a])
  | .two k a b => ∃ sv, v = .iface 55 (.agg #[.string (ofBytes (enc (.two k a b))), sv]) ∧ w.ownsRow base 9 1 sv 2 (strCells [enc a, enc b])
def NodeRes (w : World) (base : Nat) (v : Value) : Option (T × Bs) → Prop
  | none => v = .nilIface
  | some x => NodeAt w base v x.1
def ReadPost (w : World) (d : Nat) (s : ByteArray) (e : Ending) (w' : World) : Prop := ∃ v, e = .returned v ∧ NodeRes w' w.heap.size v (parse d (bytes s)) ∧ Below w.heap.size w w'

theorem infoStr : (Try.prog.info? 9).map (fun i => (i.zero, i.size, i.bytes)) = some (some (.string ⟨#[]⟩), 1, 16) := by kernel_rfl
theorem World.grownBy.frozen_far {w w' : World} {row : Option Nat} (hg : w.grownBy w' row) (a : Addr) (hlt : a.block < w.heap.size) (hne : some a.block ≠ row) : w'.frozen? a = w.frozen? a := World.frozen?_of_block (w := w) (hg.block _ hlt hne)
theorem meth_number (n : Nat) (x y : Value) (W : World) (h : n ≠ 0) : Sem.run Try.prog (method n 78 (.agg #[x, y]) "letterlock/term.bytes") W = .ok (90, .agg #[x, y]) W := by
  cases n with
  | zero => exact absurd rfl h
  | succ n => kernel_rfl
theorem meth_words (n : Nat) (x y : Value) (W : World) (h : n ≠ 0) : Sem.run Try.prog (method n 80 (.agg #[x, y]) "letterlock/term.bytes") W = .ok (91, .agg #[x, y]) W := by
  cases n with
  | zero => exact absurd rfl h
  | succ n => kernel_rfl
theorem meth_parts (n : Nat) (x y : Value) (W : World) (h : n ≠ 0) : Sem.run Try.prog (method n 55 (.agg #[x, y]) "letterlock/term.bytes") W = .ok (89, .agg #[x, y]) W := by
  cases n with
  | zero => exact absurd rfl h
  | succ n => kernel_rfl
theorem enters_number (args : Array Value) (W : World) : Sem.run Try.prog (callFunc 90 args) W = .ok (.enter 90 args) W := by kernel_rfl
theorem enters_words (args : Array Value) (W : World) : Sem.run Try.prog (callFunc 91 args) W = .ok (.enter 91 args) W := by kernel_rfl
theorem enters_parts (args : Array Value) (W : World) : Sem.run Try.prog (callFunc 89 args) W = .ok (.enter 89 args) W := by kernel_rfl
theorem bytes_number (raw : ByteArray) (n : Int) (w : World) :
    Calls Try.prog 90 #[.agg #[.string raw, .int .u64 n]] w fun e w' => e = .returned (.string raw) ∧ w' = w.alloc (.cells #[.string raw, .int .u64 n] 78) := by
  go_enter Try.func90, Try.ntmps90
  go_wp2
  go_ret
  exact ⟨rfl, rfl⟩
theorem bytes_words (raw s : ByteArray) (w : World) :
    Calls Try.prog 91 #[.agg #[.string raw, .string s]] w fun e w' => e = .returned (.string raw) ∧ w' = w.alloc (.cells #[.string raw, .string s] 80) := by
  go_enter Try.func91, Try.ntmps91
  go_wp2
  go_ret
  exact ⟨rfl, rfl⟩
theorem bytes_parts (raw : ByteArray) (a : Option Addr) (l c : Nat) (w : World) :
    Calls Try.prog 89 #[.agg #[.string raw, .slice a l c]] w fun e w' => e = .returned (.string raw) ∧ w' = w.alloc (.cells #[.string raw, .slice a l c] 55) := by
  go_enter Try.func89, Try.ntmps89
  go_wp2
  go_ret
  exact ⟨rfl, rfl⟩
/-- A value of interface node that tells its bytes, whatever it is. -/
def IsNode (v : Value) (raw : ByteArray) : Prop := ∃ ty f y, v = .iface ty (.agg #[.string raw, y]) ∧
  (∀ (n : Nat) (W : World), n ≠ 0 → Sem.run Try.prog (method n ty (.agg #[.string raw, y]) "letterlock/term.bytes") W = .ok (f, .agg #[.string raw, y]) W) ∧
  (∀ (args : Array Value) (W : World), Sem.run Try.prog (callFunc f args) W = .ok (.enter f args) W) ∧
  (∀ W, Calls Try.prog f #[.agg #[.string raw, y]] W fun e w' => e = .returned (.string raw) ∧ w' = W.alloc (.cells #[.string raw, y] ty))
theorem NodeAt.isNode {w : World} {base : Nat} {v : Value} {t : T} (h : NodeAt w base v t) : IsNode v (ofBytes (enc t)) := by
  cases t with
  | atom n => exact ⟨_, _, _, h, fun n W hn => meth_number n _ _ W hn, enters_number, fun W => bytes_number _ _ W⟩
  | text s => exact ⟨_, _, _, h, fun n W hn => meth_words n _ _ W hn, enters_words, fun W => bytes_words _ _ W⟩
  | one k a =>
    obtain ⟨sv, rfl, ho⟩ := h
    obtain ⟨g, c, rfl, _, _⟩ := ho.form (by omega)
    exact ⟨_, _, _, rfl, fun n W hn => meth_parts n _ _ W hn, enters_parts, fun W => bytes_parts _ _ _ _ W⟩
  | two k a b =>
    obtain ⟨sv, rfl, ho⟩ := h
    obtain ⟨g, c, rfl, _, _⟩ := ho.form (by omega)
    exact ⟨_, _, _, rfl, fun n W hn => meth_parts n _ _ W hn, enters_parts, fun W => bytes_parts _ _ _ _ W⟩

theorem read_nil (d : Nat) (w : World) :
    Calls Try.prog 53 #[.string ⟨#[]⟩, .int .i64 d] w fun e w' => e = .returned .nilIface ∧ w = w' := by
  go_enter Try.func53, Try.ntmps53
  go_wp2
  go_ret
  exact ⟨rfl, rfl⟩
theorem read_zero (s : ByteArray) (h1 : s.toList.isEmpty = false) (w : World) :
    Calls Try.prog 53 #[.string s, .int .i64 0] w fun e w' => e = .returned .nilIface ∧ w = w' := by
  go_enter Try.func53, Try.ntmps53
  go_wp2
  go_ret
  exact ⟨rfl, rfl⟩

/-- So many terms, one behind the other. -/
def parseN (d : Nat) (l : Bs) : Nat → Option (List T × Bs)
  | 0 => some ([], l)
  | k + 1 => (parseN d l k).bind fun y => (parse d y.2).map fun x => (y.1 ++ [x.1], x.2)

def RelR (w0 : World) (s : ByteArray) (d k at_ : Nat) (wr : World) : Prop :=
  ∃ ts rest sv, parseN d (bytes s).tail k = some (ts, rest) ∧ ts.length = k ∧ at_ + rest.length = s.size ∧ (bytes s).drop at_ = rest ∧ 0 < at_ ∧
    wr.heap[w0.heap.size]? = some (.cells #[.string ⟨#[]⟩, sv] 55 (0, 0)) ∧ wr.ownsRow (w0.heap.size + 1) 9 1 sv k (strCells (ts.map enc)) ∧ Below w0.heap.size w0 wr ∧ w0.heap.size < wr.heap.size

/-- Behind the append: one part more. -/
def MidRel (w0 : World) (s : ByteArray) (d k at_ : Nat) (t : T) (wr : World) : Prop :=
  ∃ ts rest sv, parseN d (bytes s).tail k = some (ts, rest) ∧ ts.length = k ∧ at_ + rest.length = s.size ∧ (bytes s).drop at_ = rest ∧ 0 < at_ ∧
    wr.heap[w0.heap.size]? = some (.cells #[.string ⟨#[]⟩, sv] 55 (0, 0)) ∧ wr.ownsRow (w0.heap.size + 1) 9 1 sv (k + 1) (strCells ((ts ++ [t]).map enc)) ∧ Below w0.heap.size w0 wr ∧ w0.heap.size < wr.heap.size
theorem mid_of {w w5 w1 : World} {s : ByteArray} {d k at_ : Nat} {t : T} {ts : List T} {rest : Bs} {sv : Value} {gg cap : Nat} {o o' : Obj}
    (hq : parseN d (bytes s).tail k = some (ts, rest) ∧ ts.length = k ∧ at_ + rest.length = s.size ∧ (bytes s).drop at_ = rest ∧ 0 < at_) (hb5 : Below w.heap.size w w5) (hsz5 : w.heap.size < w5.heap.size)
    (hblk : w5.heap[w.heap.size]? = some (.cells #[.string ⟨#[]⟩, sv] 55 (0, 0))) (hne : some w.heap.size ≠ sv.ownBlock) (hbase : ∀ k, sv.ownBlock = some k → w.heap.size + 1 ≤ k)
    (hown : w1.ownsRow (w.heap.size + 1) 9 1 (.slice (some ⟨gg, 0, none⟩) (k + 1) cap) (k + 1) (strCells (ts.map enc) ++ [.string (ofBytes (enc t))]))
    (hgrow : ((w5.alloc o).alloc o').drew.grownBy w1 sv.ownBlock) :
    MidRel w s d k at_ t (w1.setCell ⟨w.heap.size, 1, none⟩ (.slice (some ⟨gg, 0, none⟩) (k + 1) cap)) := by
  obtain ⟨h1, h2, h3, h4, h5⟩ := hq
  have hlt : w.heap.size < ((w5.alloc o).alloc o').drew.heap.size := by
    show w.heap.size < ((w5.alloc o).alloc o').heap.size
    simp; omega
  have hblk1 : w1.heap[w.heap.size]? = some (.cells #[.string ⟨#[]⟩, sv] 55 (0, 0)) :=
    (hgrow.block _ hlt hne).trans ((Below.heap_alloc _ _ _ (by simp; omega)).trans ((Below.heap_alloc _ _ _ hsz5).trans hblk))
  have hb1 : Below w.heap.size w w1 := by
    have h6 : Below w.heap.size w ((w5.alloc o).alloc o').drew := ((hb5.alloc (by omega) o).alloc (by simp; omega) o').drew
    exact h6.grown hgrow (by omega) (fun j hj => by have := hbase j hj; omega)
  refine ⟨ts, rest, _, h1, h2, h3, h4, h5, blk_setCell hblk1, ?_, hb1.setCell (Nat.le_refl _) _, ?_⟩
  · have : strCells ((ts ++ [t]).map enc) = strCells (ts.map enc) ++ [.string (ofBytes (enc t))] := by simp [strCells]
    rw [this]
    refine ownsRow_setCell_other hown ?_ _
    intro e
    have := own_base hown _ e
    simp at this
    omega
  · have := hgrow.size
    show w.heap.size < (w1.setCell _ _).heap.size
    simp only [World.setCell, Array.size_modify]
    omega

theorem rel_start (w : World) (s : ByteArray) (d : Nat) (h : 0 < s.size) :
    RelR w s d 0 1 (w.alloc (Obj.cells #[Value.string ⟨#[]⟩, Value.slice none 0 0] 55)) := by
  refine ⟨[], (bytes s).tail, .slice none 0 0, rfl, rfl, ?_, ?_, by omega, heap_alloc_new w _, ⟨by simp [strCells], .inl ⟨rfl, rfl⟩⟩, (Below.refl _ _).alloc (Nat.le_refl _) _, by simp⟩
  · rw [List.length_tail, bytes_length]; omega
  · rw [List.drop_one]

theorem bytes_split {s : ByteArray} (h : 0 < s.size) : bytes s = (s[0]'h) :: (bytes s).tail := by
  have h1 : 0 < (bytes s).length := by rw [bytes_length]; exact h
  have h2 : (bytes s)[0] = (s[0]'h) := rfl
  cases hb : bytes s with
  | nil => rw [hb] at h1; simp at h1
  | cons c l => simp only [hb, List.getElem_cons_zero] at h2; rw [h2]; rfl
theorem rel_len {w : World} {s : ByteArray} {d k at_ : Nat} {wr : World} {t : T} {r2 : Bs} (h : RelR w s d k at_ wr) (hp : parse d (bytes (s.extract at_ s.size)) = some (t, r2)) : at_ + (enc t).length ≤ s.size := by
  obtain ⟨ts, rest, sv, h1, h2, h3, h4, _⟩ := h
  rw [bytes_from, h4] at hp
  have h5 := congrArg List.length (parse_inv _ _ _ _ hp).1
  rw [List.length_append] at h5
  omega
theorem rel_next {w : World} {s : ByteArray} {d k at_ : Nat} {wc : World} {t : T} {r2 : Bs} (h : MidRel w s d k at_ t wc) (hp : parse d (bytes (s.extract at_ s.size)) = some (t, r2)) (o : Obj) :
    RelR w s d (k + 1) (at_ + (enc t).length) (wc.alloc o) := by
  obtain ⟨ts, rest, sv, h1, h2, h3, h4, h5, h6, h7, h8, h9⟩ := h
  rw [bytes_from, h4] at hp
  have h10 := (parse_inv _ _ _ _ hp).1
  have h11 := congrArg List.length h10
  rw [List.length_append] at h11
  refine ⟨ts ++ [t], r2, sv, ?_, by simp [h2], by omega, ?_, by omega, (Below.heap_alloc _ _ _ h9).trans h6, h7.alloc _, h8.alloc (by omega) _, by simp; omega⟩
  · simp only [parseN, h1, Option.bind_some, hp]
    rfl
  · rw [← List.drop_drop, h4, h10, List.drop_left]
/-- How the parts' failing is the term's. -/
theorem fail_one {d : Nat} {c : UInt8} {k1 : K1} {l : Bs} (hk : kind1 c = some k1) (h : parseN d l 1 = none) : parse (d + 1) (c :: l) = none := by
  have hc := kind1_inv hk
  simp only [parseN, Option.bind_some, Option.map_eq_none_iff] at h
  simp only [parse]
  rw [if_neg (by rw [hc]; cases k1 <;> decide), if_neg (by rw [hc]; cases k1 <;> decide), hk]
  simp only
  rw [h]; rfl
theorem fail_two {d : Nat} {c : UInt8} {k2 : K2} {l : Bs} (hk : kind2 c = some k2) (h : parseN d l 2 = none) : parse (d + 1) (c :: l) = none := by
  have hc := kind2_inv hk
  have h1 : kind1 c = none := by rw [hc]; exact kind1_k2 k2
  simp only [parse]
  rw [if_neg (by rw [hc]; cases k2 <;> decide), if_neg (by rw [hc]; cases k2 <;> decide), h1]
  simp only
  rw [hk]
  simp only
  simp only [parseN, Option.bind_some] at h
  cases h3 : parse d l with
  | none => rfl
  | some x =>
    rw [h3] at h
    simp only [Option.map_some, Option.bind_some, Option.map_eq_none_iff] at h
    simp only [Option.bind_some]
    rw [h]; rfl
theorem parseN_fail {d : Nat} {l : Bs} {k m : Nat} {ts : List T} {rest : Bs} (h : parseN d l k = some (ts, rest)) (hf : parse d rest = none) (hkm : k < m) : parseN d l m = none := by
  obtain ⟨j, rfl⟩ : ∃ j, m = k + 1 + j := ⟨m - (k + 1), by omega⟩
  clear hkm
  induction j with
  | zero => simp only [parseN, h, Option.bind_some, hf]; rfl
  | succ j ih => show (parseN d l (k + 1 + j)).bind _ = none; rw [ih]; rfl
theorem rel_fail {w : World} {s : ByteArray} {d k at_ m : Nat} {wr : World} (h : RelR w s d k at_ wr) (hp : parse d (bytes (s.extract at_ s.size)) = none) (hkm : k < m) : parseN d (bytes s).tail m = none := by
  obtain ⟨ts, rest, sv, h1, h2, h3, h4, _⟩ := h
  rw [bytes_from, h4] at hp
  exact parseN_fail h1 hp hkm
/-- Behind the loop: all parts are read. -/
theorem rel_end {w : World} {s : ByteArray} {d m at_ : Nat} {wr : World} (h : RelR w s d m at_ wr) :
    ∃ ts rest sv, parseN d (bytes s).tail m = some (ts, rest) ∧ ts.length = m ∧ at_ ≤ s.size ∧ (bytes s).take at_ ++ rest = bytes s ∧ wr.heap[w.heap.size]? = some (.cells #[.string ⟨#[]⟩, sv] 55 (0, 0)) ∧
      wr.ownsRow (w.heap.size + 1) 9 1 sv m (strCells (ts.map enc)) ∧ Below w.heap.size w wr ∧ w.heap.size < wr.heap.size := by
  obtain ⟨ts, rest, sv, h1, h2, h3, h4, h5, h6, h7, h8, h9⟩ := h
  exact ⟨ts, rest, sv, h1, h2, by omega, by rw [← h4, List.take_append_drop], h6, h7, h8, h9⟩
theorem own_lower {w : World} {b b' e : Nat} {v : Value} {n : Nat} {xs : List Value} (h : w.ownsRow b e 1 v n xs) (hb : b' ≤ b) : w.ownsRow b' e 1 v n xs := by
  obtain ⟨h1, h2⟩ := h
  refine ⟨h1, ?_⟩
  rcases h2 with h2 | ⟨g, cap, cur, hv, hg, r⟩
  · exact .inl h2
  · exact .inr ⟨g, cap, cur, hv, by omega, r⟩
theorem done_one {d : Nat} {s : ByteArray} (hp : 0 < s.size) {k1 : K1} (hc : (s[0]'hp) = k1.code) {ts : List T} {rest : Bs} {at_ : Nat} (h : parseN d (bytes s).tail 1 = some (ts, rest)) (hat : (bytes s).take at_ ++ rest = bytes s) :
    ∃ a, ts = [a] ∧ parse (d + 1) (bytes s) = some (.one k1 a, rest) ∧ s.extract 0 at_ = ofBytes (enc (.one k1 a)) := by
  simp only [parseN, Option.bind_some, Option.map_eq_some_iff, Prod.mk.injEq] at h
  obtain ⟨⟨a, r⟩, h1, h2, rfl⟩ := h
  obtain rfl : [a] = ts := h2
  have h3 : parse (d + 1) (bytes s) = some (.one k1 a, r) := by
    rw [bytes_split hp, hc]
    simp only [parse]
    rw [if_neg (by cases k1 <;> decide), if_neg (by cases k1 <;> decide), kind1_code]
    simp only
    rw [h1]; rfl
  refine ⟨a, rfl, h3, bs_inj ?_⟩
  have h4 := (parse_inv _ _ _ _ h3).1
  rw [bytes_to, bytes_ofBytes]
  exact List.append_cancel_right (hat.trans h4)
theorem node_one {w w1 : World} {s : ByteArray} {d at_ : Nat} {wr : World} {k1 : K1} {sv : Value} {a : T} (h1 : w.heap.size ≤ wr.heap.size) (ho : wr.ownsRow (w.heap.size + 1) 9 1 sv 1 (strCells ([a].map enc))) (hraw : s.extract 0 at_ = ofBytes (enc (.one k1 a))) (u : Value) :
    NodeAt (wr.setCell ⟨w.heap.size, 0, none⟩ u) w.heap.size (.iface 55 (.agg #[.string (s.extract 0 at_), sv])) (.one k1 a) := by
  refine ⟨sv, by rw [hraw], ?_⟩
  refine ownsRow_setCell_other (own_lower ho (by omega)) ?_ _
  intro e
  have := own_base ho _ e
  simp at this
  omega
/-- The two parts of a term of two; a box whose first part is no public term is none. -/
theorem done_two {d : Nat} {s : ByteArray} (hp : 0 < s.size) {k2 : K2} (hc : (s[0]'hp) = k2.code) {ts : List T} {rest : Bs} {at_ : Nat} (h : parseN d (bytes s).tail 2 = some (ts, rest)) (hat : (bytes s).take at_ ++ rest = bytes s) :
    ∃ a b, ts = [a, b] ∧ (k2 = .b ∧ a.isPub = false → parse (d + 1) (bytes s) = none) ∧ (¬ (k2 = .b ∧ a.isPub = false) → parse (d + 1) (bytes s) = some (.two k2 a b, rest) ∧ s.extract 0 at_ = ofBytes (enc (.two k2 a b))) := by
  have h0 : parseN d (bytes s).tail 2 = (parseN d (bytes s).tail 1).bind fun y => (parse d y.2).map fun x => (y.1 ++ [x.1], x.2) := rfl
  rw [h0] at h
  obtain ⟨⟨ts1, r1⟩, h1, h2⟩ := Option.bind_eq_some_iff.1 h
  simp only [parseN, Option.bind_some, Option.map_eq_some_iff, Prod.mk.injEq] at h1
  obtain ⟨⟨a, r0⟩, h3, h4, rfl⟩ := h1
  obtain rfl : [a] = ts1 := h4
  simp only [Option.map_eq_some_iff, Prod.mk.injEq] at h2
  obtain ⟨⟨b, r2⟩, h5, h6, rfl⟩ := h2
  obtain rfl : [a] ++ [b] = ts := h6
  have h7 : parse (d + 1) (bytes s) = if k2 = .b ∧ a.isPub = false then none else some (.two k2 a b, r2) := by
    rw [bytes_split hp, hc]
    simp only [parse]
    rw [if_neg (by cases k2 <;> decide), if_neg (by cases k2 <;> decide), kind1_k2, kind2_code]
    simp only
    rw [h3]
    simp only [Option.bind_some]
    have h5' : parse d r0 = some (b, r2) := h5
    rw [h5']; rfl
  refine ⟨a, b, rfl, fun hb => by rw [h7, if_pos hb], fun hb => ?_⟩
  rw [if_neg hb] at h7
  refine ⟨h7, bs_inj ?_⟩
  have h8 := (parse_inv _ _ _ _ h7).1
  rw [bytes_to, bytes_ofBytes]
  exact List.append_cancel_right (hat.trans h8)
theorem node_two {w : World} {s : ByteArray} {at_ : Nat} {wr : World} {k2 : K2} {sv : Value} {a b : T} (ho : wr.ownsRow (w.heap.size + 1) 9 1 sv 2 (strCells ([a, b].map enc))) (hraw : s.extract 0 at_ = ofBytes (enc (.two k2 a b))) (u : Value) :
    NodeAt (wr.setCell ⟨w.heap.size, 0, none⟩ u) w.heap.size (.iface 55 (.agg #[.string (s.extract 0 at_), sv])) (.two k2 a b) := by
  refine ⟨sv, by rw [hraw], ?_⟩
  refine ownsRow_setCell_other (own_lower ho (by omega)) ?_ _
  intro e
  have := own_base ho _ e
  simp at this
  omega
/-- A public term is known by its first byte. -/
theorem pub_byte (a : T) (h : a.isPub = true) : ∃ l, enc a = 117 :: l := by
  cases a with
  | one k a => cases k with
    | u => exact ⟨_, rfl⟩
    | h => simp [T.isPub] at h
  | atom n => simp [T.isPub] at h
  | text n => simp [T.isPub] at h
  | two k a b => simp [T.isPub] at h
theorem npub_byte (a : T) (h : a.isPub = false) : ∃ c l, enc a = c :: l ∧ c ≠ 117 := by
  cases a with
  | one k a => cases k with
    | h => exact ⟨_, _, rfl, by decide⟩
    | u => simp [T.isPub] at h
  | atom n => exact ⟨_, _, rfl, by decide⟩
  | text n => exact ⟨_, _, rfl, by decide⟩
  | two k a b => exact ⟨_, _, rfl, by cases k <;> decide⟩

theorem read_h (d : Nat) (hd : d ≤ 1000) (ih : ∀ (s : ByteArray) (w : World), s.size ≤ 9223372036854774000 → Calls Try.prog 53 #[.string s, .int .i64 d] w (ReadPost w d s))
    (s : ByteArray) (hs0 : s.size ≤ 9223372036854774000) (h1 : s.toList.isEmpty = false) (hp : 0 < s.size) (hc : ∀ h : 0 < s.size, (s[0]'h).toNat = 104) (w : World) :
    Calls Try.prog 53 #[.string s, .int .i64 ((d + 1 : Nat) : Int)] w (ReadPost w (d + 1) s) := by
  have hd0 : ((d : Int) + 1 == 0) = false := by rw [beq_eq_false_iff_ne]; omega
  have IH := Lib.hid ih
  clear ih
  have HS := Lib.hid (rel_start w s d hp)
  rw [show (((d + 1 : Nat) : Int)) = (d : Int) + 1 from by omega]
  go_enter Try.func53, Try.ntmps53
  go_wp2_with fail
  go_loopw [7, 32] (fun a i wr => ∃ k at_ : Nat, k ≤ 1 ∧ i = .int .i64 k ∧ a = .int .i64 at_ ∧ RelR w s d k at_ wr) (fun _ i _ => 10 - (intOf i).toNat)
  case atStart => exact ⟨0, 1, by omega, rfl, rfl, HS.out⟩
  case round =>
    obtain ⟨k, at_, hk, rfl, rfl, hr⟩ := hrel
    have Hr := Lib.hid hr
    clear hr HS
    by_cases hlt : k < 1
    · have hat : at_ ≤ s.size := by obtain ⟨ts, rest, sv, _, _, h3, _⟩ := Hr.out; omega
      go_wp2_with fail
      refine (IH.out (s.extract at_ s.size) _ (by rw [ByteArray.size_extract]; omega)).mono ?_
      rintro e w5 ⟨v, rfl, hv, hb5⟩
      have Hv := Lib.hid hv
      have Hb5 := Lib.hid hb5
      clear hv hb5
      cases hpr : parse d (bytes (s.extract at_ s.size)) with
      | none =>
        have hvn : v = .nilIface := by have := Hv.out; rw [hpr] at this; exact this
        subst hvn
        have HF : Hid (parse (d + 1) (bytes s) = none) := by
          rw [bytes_split hp]
          exact fail_one (k1 := K1.h) (by rw [UInt8.toNat_inj.1 ((hc hp).trans (show 104 = (K1.h).code.toNat from rfl))]; rfl) (rel_fail Hr.out hpr hlt)
        have HB : Hid (Below w.heap.size w w5) := by obtain ⟨ts, rest, sv, q1, q2, q3, q4, q0, q5, q6, q7, q8⟩ := Hr.out; exact q7.trans (Hb5.out.mono (by omega))
        clear Hv hpr
        go_wp2
        go_ret
        exact ⟨_, rfl, by rw [HF.out]; rfl, HB.out⟩
      | some x =>
        obtain ⟨t, r2⟩ := x
        have hnode : NodeAt w5 wr.heap.size v t := by have := Hv.out; rw [hpr] at this; exact this
        obtain ⟨ty, f, y, rfl, hm, hen, hcf⟩ := hnode.isNode
        have Hn := Lib.hid hnode
        have Hcf := Lib.hid hcf
        clear hnode hcf Hv
        go_upto_region 23 with (fail)
        obtain ⟨ts, rest, sv, q1, q2, q3, q4, q0, q5, q6, q7, q8⟩ := Hr.out
        have hsz5 : w.heap.size < w5.heap.size := by have := Hb5.out.size; omega
        have hblk : w5.heap[w.heap.size]? = some (.cells #[.string ⟨#[]⟩, sv] 55 (0, 0)) := (Hb5.out.block _ q8).trans q5
        have Hown : Hid (∀ o o', ((w5.alloc o).alloc o').drew.ownsRow (w.heap.size + 1) 9 1 sv k (strCells (ts.map enc))) := fun o o' => (((pw_own_below q6 Hb5.out).alloc o).alloc o').drew
        have Hnew : Hid (∀ o o', ((w5.alloc o).alloc o').drew.heap[w5.heap.size + 1]? = some o') := fun o o' => by
          have := heap_alloc_new (w5.alloc o) o'
          rwa [show (w5.alloc o).heap.size = w5.heap.size + 1 from by simp] at this
        have Hne : Hid (some w.heap.size ≠ sv.ownBlock) := fun e => by have := own_base q6 _ e.symm; omega
        have hcell := cell_of_blk (j := 1) (v := sv) hblk rfl
        have hfree := free_of_blk (j := 1) hblk
        have Hq := Lib.hid (And.intro q1 (And.intro q2 (And.intro q3 (And.intro q4 q0))))
        have Hb := Lib.hid (q7.trans (Hb5.out.mono (by omega)))
        have Hbase : Hid (∀ j, sv.ownBlock = some j → w.heap.size + 1 ≤ j) := fun j hj => own_base q6 j hj
        have Hblk := Lib.hid hblk
        obtain ⟨i0, hi0, hz0, hz1, hz2⟩ := info_parts infoStr
        clear q1 q2 q3 q4 q0 q5 q6 q7 q8 hblk
        have Hi0 := Lib.hid hi0
        have Hz0 := Lib.hid hz0
        have Hz1 := Lib.hid hz1
        have Hz2 := Lib.hid hz2
        clear hi0 hz0 hz1 hz2
        have K2 : Hid (∀ o o', ((w5.alloc o).alloc o').drew.cell? ⟨w.heap.size, 1, none⟩ = some sv ∧ ((w5.alloc o).alloc o').drew.frozen? ⟨w.heap.size, 1, none⟩ = false) := fun o o' => by
          have hb : ((w5.alloc o).alloc o').drew.heap[w.heap.size]? = some (.cells #[.string ⟨#[]⟩, sv] 55 (0, 0)) := (Below.heap_alloc _ _ _ (by simp; omega)).trans ((Below.heap_alloc _ _ _ hsz5).trans Hblk.out)
          exact ⟨cell_of_blk hb rfl, free_of_blk hb⟩
        go_cut [] (fun wx => MidRel w s d k at_ t wx)
        case first =>
          go_region_law (first
            | (refine step_append_lies _ (by rfl) _ _ _ (by rfl) (w.heap.size + 1) 9 i0 _ 1 16 Try.underlying29 Hi0.out Hz0.out Hz1.out Hz2.out rfl (by omega) sv k (strCells (ts.map enc)) (by rfl) (Hown.out _ _) ⟨w5.heap.size + 1, 0, none⟩ 1 1 [.string (ofBytes (enc t))] (by rfl) (by rfl) (World.news_of_block (cs := #[.string (ofBytes (enc t))]) (t := 9) (fr := (0, 0)) (Hnew.out _ _)) (by simp [Value.oneCell']) (by omega) (by unfold maxLen; omega) (by omega) (by simp; omega) (w5.heap.size + 2) (by simp) ?_; intro gg cap w1 hown1 hgrow hat hlt1; have hc1 := (hgrow.cell_far ⟨w.heap.size, 1, none⟩ (by simp; omega) Hne.out).trans (K2.out _ _).1; have hf1 := (hgrow.frozen_far ⟨w.heap.size, 1, none⟩ (by simp; omega) Hne.out).trans (K2.out _ _).2)
            | (go_simp; (with_reducible refine (Hcf.out _).mono ?_); rintro e w' ⟨rfl, rfl⟩))
          all_goals (go_wp2_with fail; go_meet)
          all_goals exact mid_of Hq.out Hb.out hsz5 Hblk.out Hne.out Hbase.out hown1 hgrow
        case rest =>
          have Hc := Lib.hid hcut
          have hL := rel_len Hr.out hpr
          have hLz := size_ofBytes (enc t)
          have Hpr := Lib.hid hpr
          clear hcut hcell hfree hpr Hblk Hne Hown Hnew K2 Hi0 Hz0 Hz1 Hz2 Hq
          go_wp2_with fail
          refine (Hcf.out _).mono ?_
          rintro e w6 ⟨rfl, rfl⟩
          go_wp2
          go_roundw
          case rel => exact ⟨k + 1, at_ + (enc t).length, by omega, by go_num, by go_num, rel_next Hc.out Hpr.out _⟩
          case measure => simp [intOf]; omega
    · obtain rfl : k = 1 := by omega
      clear hlt
      obtain ⟨ts, rest, sv, q1, q2, q3, q4, q5, q6, q7, q8⟩ := rel_end Hr.out
      obtain ⟨a, rfl, q9, q10⟩ := done_one hp (k1 := K1.h) (UInt8.toNat_inj.1 (hc hp)) q1 q4
      have HP : Hid (∀ u, ReadPost w (d + 1) s (.returned (.iface 55 (.agg #[.string (s.extract 0 at_), sv]))) (wr.setCell ⟨w.heap.size, 0, none⟩ u)) := fun u =>
        ⟨_, rfl, by rw [q9]; exact node_one (w1 := w) (d := d) (by omega) q6 q10 u, q7.setCell (Nat.le_refl _) _⟩
      have hc0 := cell_of_blk (j := 0) (v := .string ⟨#[]⟩) q5 rfl
      have hc1 := cell_of_blk (j := 1) (v := sv) q5 rfl
      have hf0 := free_of_blk (j := 0) q5
      clear q1 q2 q4 q5 q6 q7 q8 q9 q10 Hr
      go_wp2
      go_ret
      exact HP.out _

end Go.Proofs.Ytpgbhgpjfjeomaa
