/- Contracts and laws that the statement of LawRightsTell leans on (packed from this claim's own texts): part 7. -/
import Derived.Test.YtfhanoloaejmkaaDoorProg
import Derived.Below
import Derived.Deep.Draws
import Derived.Deep.AppendLies
import Derived.Maps.AppendAt
import Derived.OwnWalk
import Derived.Laws.BytesArg
import Derived.Laws.MakeOwn
import Derived.Laws.OwnMore
import Derived.Deep.OwnRows
import Derived.Tactics
import Derived.Lib.ConvBytes
import Derived.Laws.Slices
import Derived.WalkKit
import Derived.KernelRfl
import Derived.RowKit3
import Derived.Deep.LoopGhost
import Derived.Deep.QuietTactic
import Derived.BigQuiet
import Derived.WideLaws
import Derived.Deep.DeepCutAuto
import Derived.Deep.CutBlock
import Derived.Deep.RegionHeld3
import Derived.Laws.Rows
import Derived.Lib.AppendStr
import Derived.ArgAppend
import Derived.Laws.IdiomCopy
import Derived.OrdersHeld
import Derived.Laws.BitsLemmas
import Derived.RowKit
import Derived.Laws.StructEq
import Derived.Lib.OthersKept
import Derived.Lib.Hide
import Derived.LoopTactic
import Derived.RegionTactic
import Derived.Outline
import Derived.Test.YtfhanoloaejmkaaDoorQT1
import Derived.Test.YtfhanoloaejmkaaDoorQT2
import Derived.Test.YtfhanoloaejmkaaDoorQT4
import Derived.Test.YtfhanoloaejmkaaDoorQT5
import Derived.Test.YtfhanoloaejmkaaDoorQT6
section

namespace Go.Proofs.YtfhanoloaejmkaaDoor
open Go.RowKit Go.Lib Go.Sort Go.Proofs.YtfhanoloaejmkaaDoorW.PrintWords
set_option linter.unusedVariables false
set_option linter.unusedSimpArgs false
abbrev strs (l : List ByteArray) : List Value := encs Value.string l
theorem strs_len (l : List ByteArray) : (strs l).length = l.length := by simp [strs, encs]
theorem strs_one (l : List ByteArray) : ∀ v ∈ strs l, v.oneCell' = true := by
 intro v hv
 obtain ⟨x, _, rfl⟩ := List.mem_map.1 hv
 rfl
theorem own_row {w : World} {B : Nat} {v : Value} {l : List ByteArray} (h : w.ownsRow B 9 1 v l.length (strs l)) :
  (v = .slice none 0 0 ∧ l = []) ∨ ∃ g cap cur, v = .slice (some ⟨g, 0, none⟩) l.length cap ∧ B ≤ g ∧ w.heap[g]? = some (.cells cur 9 (0, 0)) ∧ l.length ≤ cap ∧ cap ≤ maxLen ∧ cur.size = cap ∧ cur.toList.take l.length = strs l := by
 rcases h.2 with ⟨h1, h2⟩ | ⟨g, cap, cur, h1, h2, h3, h4, h5, h6, h7⟩
 ·exact Or.inl ⟨h1, List.eq_nil_of_length_eq_zero h2⟩
 ·exact Or.inr ⟨g, cap, cur, h1, h2, h3, h4, h5, by simpa using h6, by simpa using h7⟩
theorem own_mk {w : World} {B g n cap : Nat} {cur : Array Value} {l : List ByteArray} (hn : l.length = n) (hb : B ≤ g) (hg : w.heap[g]? = some (.cells cur 9 (0, 0))) (hc : n ≤ cap) (hm : cap ≤ maxLen) (hs : cur.size = cap) (ht : cur.toList.take n = strs l) :
  w.ownsRow B 9 1 (.slice (some ⟨g, 0, none⟩) n cap) n (strs l) :=
 ⟨by rw [strs_len, hn]; omega, Or.inr ⟨g, cap, cur, rfl, hb, hg, hc, hm, by simpa using hs, by simpa using ht⟩⟩
theorem cur_get {cur : Array Value} {l : List ByteArray} (ht : cur.toList.take l.length = strs l) {j : Nat} {v : Value} (hj : (strs l)[j]? = some v) : cur[j]? = some v := by
 have hl : j < l.length := by
  obtain ⟨h, _⟩ := List.getElem?_eq_some_iff.1 hj
  rwa [strs_len] at h
 rw [← ht, List.getElem?_take_of_lt hl] at hj
 rw [← Array.getElem?_toList]
 exact hj
theorem clone_any (A : Option Addr) (c : Nat) (l : List ByteArray) (w : World) (hr : Kd.C Kd.string w A l.length l) (hl : l.length ≤ 1000000) :
  Calls Tryd.prog 33 #[.slice A l.length c] w fun e w' => ∃ v, e = .returned v ∧ w'.ownsRow w.heap.size 9 1 v l.length (strs l) ∧ Below w.heap.size w w' := by
 rcases Nat.eq_zero_or_pos l.length with h0 | h0
 ·obtain rfl : l = [] := List.eq_nil_of_length_eq_zero h0
  cases A with
  | none =>
   refine (Tryd.slices_Clone_string_nil 0 c w).mono ?_
   rintro e w' ⟨rfl, rfl⟩
   exact ⟨_, rfl, own_nil _ _ _ _, Below.refl _ _⟩
  | some ad =>
   refine (Tryd.slices_Clone_string_zero ad c w).mono ?_
   rintro e w' ⟨v, rfl, ho, _, hb⟩
   exact ⟨_, rfl, ho, hb⟩
 ·obtain ⟨b, o, rfl, hc⟩ := rowC hr h0
  refine (Tryd.slices_Clone_string b o l.length c l w (Nat.le_refl _) (by omega) (fun j hj => hc j hj)).mono ?_
  rintro e w' ⟨v, rfl, ho, _, hb⟩
  rw [List.take_length] at ho
  exact ⟨_, rfl, ho, hb⟩
theorem strs_append (l m : List ByteArray) : strs (l ++ m) = strs l ++ strs m := by simp [strs, encs]
theorem strs_take (l : List ByteArray) (k : Nat) : strs (l.take k) = (strs l).take k := by simp [strs, encs, List.map_take]
theorem strs_drop (l : List ByteArray) (k : Nat) : strs (l.drop k) = (strs l).drop k := by simp [strs, encs, List.map_drop]
theorem put_len {l : List ByteArray} {k : Nat} {x : ByteArray} (hk : k ≤ l.length) : (l.take k ++ x :: l.drop k).length = l.length + 1 := by
 rw [List.length_append, List.length_cons, List.length_take, List.length_drop]; omega
theorem put_cells {cs : List Value} {k : Nat} {x : Value} (cur' cur'' : List Value) (n : Nat) (hn : cs.length = n) (hk : k ≤ n) (h1 : cur'.take k = cs.take k) (h1l : k ≤ cur'.length) (h2 : cur'' = cur'.take k ++ [x] ++ cur'.drop (k + 1)) (h3 : (cur'.drop (k + 1)).take (n - k) = cs.drop k) :
  cur''.take (n + 1) = cs.take k ++ x :: cs.drop k := by
 subst h2
 rw [h1, List.append_assoc, List.take_append, List.length_take, hn, Nat.min_eq_left hk, List.take_of_length_le (by rw [List.length_take]; omega)]
 congr 1
 rw [show n + 1 - k = (n - k) + 1 by omega, List.singleton_append, List.take_succ_cons, h3]
theorem heap_new (w : World) (o : Obj) (b : Nat) (hb : b = w.heap.size) : (w.alloc o).heap[b]? = some o := by
 subst hb
 show (w.heap.push o)[w.heap.size]? = some o
 exact Array.getElem?_push_size
theorem insert_any (W : World) (B : Nat) (v : Value) (l : List ByteArray) (k : Nat) (x : ByteArray) (ho : W.ownsRow B 9 1 v l.length (strs l)) (hB : B ≤ W.heap.size) (hk : k ≤ l.length) (hl : l.length ≤ 1000000) :
  Calls Tryd.prog 35 #[v, .int .i64 k, .slice (some ⟨W.heap.size, 0, none⟩) 1 1] (W.alloc (.cells #[.string x] 9)) fun e w' =>
   ∃ v', e = .returned v' ∧ w'.ownsRow B 9 1 v' (l.take k ++ x :: l.drop k).length (strs (l.take k ++ x :: l.drop k)) ∧ W.grownBy w' v.ownBlock ∧ (v'.ownBlock = v.ownBlock ∨ ∃ b, v'.ownBlock = some b ∧ W.heap.size ≤ b) := by
 have hρ : Tryd.lays2_22_ren.t 9 = 9 := rfl
 have hbox : ∀ j v, ([Value.string x] : List Value)[j]? = some v → (W.alloc (.cells #[.string x] 9)).cell? ⟨W.heap.size, 0 + j, none⟩ = some v := by
  intro j v hj
  rw [World.cell?_alloc_at (w := W) _ _ W.heap.size (0 + j) rfl]
  cases j with
  | zero => simpa using hj
  | succ j => simp at hj
 have hone : ∀ v ∈ ([Value.string x] : List Value), v.oneCell' = true := by
  intro v hv
  rw [List.mem_singleton.1 hv]; rfl
 have hsz1 : (W.alloc (.cells #[.string x] 9)).heap.size = W.heap.size + 1 := World.size_alloc _ _
 have hold : ∀ i, i < W.heap.size → (W.alloc (.cells #[.string x] 9)).heap[i]? = W.heap[i]? := fun i hi => (World.grownBy_alloc W (.cells #[.string x] 9) none).block i hi (by simp)
 have hpl := put_len (x := x) hk
 have hps : strs (l.take k ++ x :: l.drop k) = (strs l).take k ++ Value.string x :: (strs l).drop k := by
  rw [strs_append, strs_take]
  show _ ++ Value.string x :: strs (l.drop k) = _
  rw [strs_drop]
 -- a new block: what its cells are
 have fresh : ∀ (w' : World) (cap : Nat) (cells : Array Value), w'.os = W.os → w'.tape = W.tape → w'.output = W.output → w'.heap.size = W.heap.size + 2 → (∀ i, i < W.heap.size → w'.heap[i]? = W.heap[i]?) → w'.heap[W.heap.size + 1]? = some (.cells cells 9 (0, 0)) → l.length + 1 ≤ cap → cap ≤ maxLen → cells.size = cap → cells.toList.take (l.length + 1) = strs (l.take k ++ x :: l.drop k) →
   ∃ v', (Ending.returned (.slice (some ⟨W.heap.size + 1, 0, none⟩) (l.length + 1) cap) : Ending) = .returned v' ∧ w'.ownsRow B 9 1 v' (l.take k ++ x :: l.drop k).length (strs (l.take k ++ x :: l.drop k)) ∧ W.grownBy w' v.ownBlock ∧ (v'.ownBlock = v.ownBlock ∨ ∃ b, v'.ownBlock = some b ∧ W.heap.size ≤ b) := by
  intro w' cap cells e1 e2 e3 e4 e5 e6 e7 e8 e9 e10
  refine ⟨_, rfl, ?_, ⟨e1, e2, e3, by omega, fun i hi _ => e5 i hi⟩, Or.inr ⟨W.heap.size + 1, rfl, by omega⟩⟩
  rw [hpl]
  exact own_mk hpl (by omega) e6 e7 e8 e9 e10
 have hcapm : ∀ (X : World) (n c : Nat), n ≤ 1000001 → n ≤ grownCap X n c 9 ∧ grownCap X n c 9 ≤ maxLen := fun X n c hn => ⟨grownCap_ge X n c _, grownCap_le_maxLen X n c _ (by unfold maxLen; omega)⟩
 have endGrow : ∀ (base : Option Addr) (c : Nat), k = l.length → c < l.length + 1 → l.length ≤ c → (base = none → l.length = 0) → (∀ a, base = some a → ∀ j u, (strs l)[j]? = some u → (W.alloc (.cells #[.string x] 9)).cell? (a.add j) = some u) →
   Calls Tryd.prog 35 #[.slice base l.length c, .int .i64 k, .slice (some ⟨W.heap.size, 0, none⟩) 1 1] (W.alloc (.cells #[.string x] 9)) fun e w' =>
    ∃ v', e = .returned v' ∧ w'.ownsRow B 9 1 v' (l.take k ++ x :: l.drop k).length (strs (l.take k ++ x :: l.drop k)) ∧ W.grownBy w' v.ownBlock ∧ (v'.ownBlock = v.ownBlock ∨ ∃ b, v'.ownBlock = some b ∧ W.heap.size ≤ b) := by
  intro base c hkl hc hlc hbn hbc
  have H := Any2.slices_Insert_string_end_grow Tryd.lays2_22 base l.length c W.heap.size 0 1 1 (strs l) [.string x] (W.alloc (.cells #[.string x] 9)) (by omega) hlc hc (by omega) (strs_len l) rfl hbn hbc hbox hone
  rw [hρ] at H
  rw [hkl] at fresh ⊢
  refine H.mono ?_
  rintro e w' ⟨rfl, rfl⟩
  obtain ⟨h1, h2⟩ := hcapm (W.alloc (.cells #[.string x] 9)) (l.length + 1) c (by omega)
  have e0 : (W.alloc (.cells #[.string x] 9)).heap.size = W.heap.size + 1 := hsz1
  rw [e0]
  show ∃ v', (Ending.returned (.slice (some ⟨W.heap.size + 1, 0, none⟩) (l.length + 1) (grownCap (W.alloc (.cells #[.string x] 9)) (l.length + 1) c 9)) : Ending) = .returned v' ∧ _
  have hlen : (strs l ++ [Value.string x]).toArray.size = l.length + 1 := by simp [strs_len]
  refine fresh _ _ _ rfl rfl rfl ?_ ?_ (heap_new (W.alloc (.cells #[.string x] 9)).drew _ _ hsz1.symm) h1 h2 ?_ ?_
  ·rw [World.size_alloc]
   exact congrArg (· + 1) hsz1
  ·intro i hi
   rw [← hold i hi]
   exact (World.grownBy_alloc (W.alloc (.cells #[.string x] 9)).drew _ none).block i (by show i < (W.alloc (.cells #[.string x] 9)).heap.size; omega) (by simp)
  ·rw [Array.size_append, hlen]
   simp [Builtin.zeroCells, Value.cells]
   omega
  ·have hlen2 : (strs l ++ [Value.string x]).toArray.toList.length = l.length + 1 := by simp [strs_len]
   rw [Array.toList_append, List.take_append_of_le_length (by omega), List.take_of_length_le (by omega)]
   simp [strs, encs]
 rcases own_row ho with ⟨rfl, rfl⟩ | ⟨g, cap, cur, rfl, hg1, hg2, hg3, hg4, hg5, hg6⟩
 ·exact endGrow none 0 (by simpa using hk) (by simp) (Nat.le_refl _) (fun _ => rfl) (fun a h => by cases h)
 ·have hcell : ∀ j v, (strs l)[j]? = some v → (W.alloc (.cells #[.string x] 9)).cell? ⟨g, 0 + j, none⟩ = some v := by
   intro j v hj
   have hgl : g < W.heap.size := blk_lt hg2
   rw [World.cell?_alloc_past (w := W) _ g (0 + j) hgl, Nat.zero_add, blk_cell hg2]
   exact cur_get hg6 hj
  have hgl : g < W.heap.size := blk_lt hg2
  have hg2' : (W.alloc (.cells #[.string x] 9)).heap[g]? = some (.cells cur 9 (0, 0)) := by rw [hold g hgl]; exact hg2
  have hsome : ∀ j, j < cap → ((W.alloc (.cells #[.string x] 9)).cell? ⟨g, j, none⟩).isSome = true := by
   intro j hj
   rw [blk_cell hg2', Array.getElem?_eq_getElem (by omega)]; rfl
  have hfz : ∀ j, (W.alloc (.cells #[.string x] 9)).frozen? ⟨g, j, none⟩ = false := fun j => blk_frozen hg2' j
  have hcur : ∀ i, i ≤ l.length → cur.toList.take i = (strs l).take i := fun i hi => by rw [← hg6, List.take_take, Nat.min_eq_left hi]
  -- the same block, written: what its cells are
  have same : ∀ (w' : World) (cells : Array Value), w'.os = W.os → w'.tape = W.tape → w'.output = W.output → W.heap.size ≤ w'.heap.size → (∀ i, i < W.heap.size → i ≠ g → w'.heap[i]? = W.heap[i]?) → w'.heap[g]? = some (.cells cells 9 (0, 0)) → l.length + 1 ≤ cap → cells.size = cap → cells.toList.take (l.length + 1) = strs (l.take k ++ x :: l.drop k) →
    ∃ v', (Ending.returned (.slice (some ⟨g, 0, none⟩) (l.length + 1) cap) : Ending) = .returned v' ∧ w'.ownsRow B 9 1 v' (l.take k ++ x :: l.drop k).length (strs (l.take k ++ x :: l.drop k)) ∧ W.grownBy w' (Value.slice (some ⟨g, 0, none⟩) l.length cap).ownBlock ∧ (v'.ownBlock = (Value.slice (some ⟨g, 0, none⟩) l.length cap).ownBlock ∨ ∃ b, v'.ownBlock = some b ∧ W.heap.size ≤ b) := by
   intro w' cells e1 e2 e3 e4 e5 e6 e7 e8 e9
   refine ⟨_, rfl, ?_, ⟨e1, e2, e3, e4, fun i hi hne => e5 i hi (fun e => hne (by rw [e]; rfl))⟩, Or.inl rfl⟩
   rw [hpl]
   exact own_mk hpl hg1 e6 e7 hg4 e8 e9
  rcases Nat.lt_or_ge cap (l.length + 1) with hroom | hroom
  ·rcases Nat.lt_or_ge k l.length with hkl | hkl
   ·have H := Any2.slices_Insert_string_grow Tryd.lays2_22 g 0 l.length cap k W.heap.size 0 1 1 (strs l) [.string x] (W.alloc (.cells #[.string x] 9)) hkl (by omega) hg3 hroom (by omega) (strs_len l) rfl hcell hbox (strs_one l) hone
    rw [hρ] at H
    refine H.mono ?_
    rintro e w' ⟨rfl, hw⟩
    obtain ⟨h1, h2⟩ := hcapm (W.alloc (.cells #[.string x] 9)) (l.length + 1) cap (by omega)
    have e0 : (W.alloc (.cells #[.string x] 9)).heap.size = W.heap.size + 1 := hsz1
    generalize hG : grownCap (W.alloc (.cells #[.string x] 9)) (l.length + 1) cap 9 = G at *
    rw [e0] at hw ⊢
    have hrow : (((strs l).take k).toArray ++ Builtin.zeroCells (Value.string ⟨#[]⟩).cells (l.length + 1 - k) ++ Builtin.zeroCells (Value.string ⟨#[]⟩).cells (G - (l.length + 1)) : Array Value).size = G := by
     simp [Builtin.zeroCells, Value.cells, strs_len]
     omega
    have htk : (((strs l).take k).toArray ++ Builtin.zeroCells (Value.string ⟨#[]⟩).cells (l.length + 1 - k) ++ Builtin.zeroCells (Value.string ⟨#[]⟩).cells (G - (l.length + 1)) : Array Value).toList.take k = (strs l).take k := by
     have hl2 : ((strs l).take k).length = k := by rw [List.length_take, strs_len]; omega
     rw [Array.toList_append, Array.toList_append, List.append_assoc, List.take_append_of_le_length (by simp [hl2])]
     rw [List.take_of_length_le (by simp [hl2])]
    generalize (((strs l).take k).toArray ++ Builtin.zeroCells (Value.string ⟨#[]⟩).cells (l.length + 1 - k) ++ Builtin.zeroCells (Value.string ⟨#[]⟩).cells (G - (l.length + 1)) : Array Value) = row at *
    have hw0 : (((W.alloc (.cells #[.string x] 9)).alloc (.cells row 9)).drew).heap[W.heap.size + 1]? = some (.cells row 9 (0, 0)) := heap_new (W.alloc (.cells #[.string x] 9)) _ _ hsz1.symm
    obtain ⟨c1, a1, a2, a3⟩ := setCells_row [Value.string x] k _ row hw0 (by simp; omega)
    obtain ⟨c2, b1, b2, b3⟩ := setCells_row ((strs l).drop k) (k + 1) ((((W.alloc (.cells #[.string x] 9)).alloc (.cells row 9)).drew.setCells (W.heap.size + 1) k [Value.string x]).drew) c1 a1 (by rw [List.length_drop, strs_len]; omega)
    have hs1 := setCells_same (W.heap.size + 1) [Value.string x] k (((W.alloc (.cells #[.string x] 9)).alloc (.cells row 9)).drew)
    have hs2 := setCells_same (W.heap.size + 1) ((strs l).drop k) (k + 1) ((((W.alloc (.cells #[.string x] 9)).alloc (.cells row 9)).drew.setCells (W.heap.size + 1) k [Value.string x]).drew)
    subst hw
    refine fresh _ G c2 (hs2.1.trans hs1.1) (hs2.2.1.trans hs1.2.1) (hs2.2.2.1.trans hs1.2.2.1) ?_ ?_ b1 h1 h2 (by omega) ?_
    ·rw [hs2.2.2.2]
     show ((((W.alloc (.cells #[.string x] 9)).alloc (.cells row 9)).drew.setCells (W.heap.size + 1) k [Value.string x])).heap.size = _
     rw [hs1.2.2.2]
     show ((W.alloc (.cells #[.string x] 9)).alloc (.cells row 9)).heap.size = _
     rw [World.size_alloc, hsz1]
    ·intro i hi
     rw [setCells_far _ _ i (by omega)]
     show ((((W.alloc (.cells #[.string x] 9)).alloc (.cells row 9)).drew.setCells (W.heap.size + 1) k [Value.string x])).heap[i]? = _
     rw [setCells_far _ _ i (by omega)]
     rw [← hold i hi]
     exact (World.grownBy_alloc (W.alloc (.cells #[.string x] 9)) _ none).block i (by omega) (by simp)
    ·have hrl : row.toList.length = G := by rw [Array.length_toList, hrow]
     have hdl : ((strs l).drop k).length = l.length - k := by rw [List.length_drop, strs_len]
     have ht1 : (row.toList.take k).length = k := by rw [List.length_take]; omega
     rw [b3, a3, hps, htk]
     have ht2 : ((strs l).take k).length = k := by rw [List.length_take, strs_len]; omega
     rw [List.take_append_of_le_length (by simp [ht2, hdl]; omega)]
     rw [List.take_of_length_le (by simp [ht2, hdl]; omega)]
     rw [List.take_append_of_le_length (by simp [ht2])]
     rw [List.take_of_length_le (by simp [ht2])]
     simp
   ·obtain rfl : k = l.length := by omega
    exact endGrow (some ⟨g, 0, none⟩) cap rfl hroom hg3 (fun h => by cases h) (fun a h j u hj => by cases h; rw [add_at]; exact hcell j u hj)
  ·rcases Nat.lt_or_ge k l.length with hkl | hkl
   ·have H := Any2.slices_Insert_string_shift Tryd.lays2_22 g 0 l.length cap k W.heap.size 0 1 1 (strs l) [.string x] (W.alloc (.cells #[.string x] 9)) hkl (by omega) hroom (by simpa [maxLen] using hg4) (by omega) (strs_len l) rfl hcell (fun j hj => by rw [Nat.zero_add]; exact hsome j (by omega)) (fun j _ => hfz _) hbox (strs_one l) hone 9 9 1 cap (by unfold World.shape?; rw [heap_new W _ _ rfl]; rfl) (by unfold World.shape?; rw [hg2']; simp [hg5]) (by omega) (blk_frozen (heap_new W _ _ rfl) 0) (blk_frozen (heap_new W _ _ rfl) 1)
    refine H.mono ?_
    rintro e w' ⟨rfl, hw⟩
    rw [Nat.zero_add, Nat.zero_add] at hw
    obtain ⟨c1, a1, a2, a3⟩ := setCells_row ((strs l).drop k) (k + 1) (W.alloc (.cells #[.string x] 9)).drew cur hg2' (by rw [List.length_drop, strs_len]; omega)
    obtain ⟨c2, b1, b2, b3⟩ := setCells_row [Value.string x] k ((W.alloc (.cells #[.string x] 9)).drew.setCells g (k + 1) ((strs l).drop k)) c1 a1 (by simp; omega)
    have hs1 := setCells_same g ((strs l).drop k) (k + 1) (W.alloc (.cells #[.string x] 9)).drew
    have hs2 := setCells_same g [Value.string x] k ((W.alloc (.cells #[.string x] 9)).drew.setCells g (k + 1) ((strs l).drop k))
    subst hw
    refine same _ c2 (hs2.1.trans hs1.1) (hs2.2.1.trans hs1.2.1) (hs2.2.2.1.trans hs1.2.2.1) ?_ ?_ b1 hroom (by omega) ?_
    ·rw [hs2.2.2.2, hs1.2.2.2]
     show W.heap.size ≤ (W.alloc (.cells #[.string x] 9)).heap.size
     omega
    ·intro i hi hne
     rw [setCells_far _ _ i hne, setCells_far _ _ i hne]
     exact hold i hi
    ·have hcl : cur.toList.length = cap := by rw [Array.length_toList, hg5]
     have hdl : ((strs l).drop k).length = l.length - k := by rw [List.length_drop, strs_len]
     have ht1 : (cur.toList.take (k + 1)).length = k + 1 := by rw [List.length_take]; omega
     have hc1 : c1.toList.length = cap := by rw [Array.length_toList, a2, hg5]
     rw [hps]
     refine put_cells (cs := strs l) c1.toList c2.toList l.length (strs_len l) (by omega) ?_ (by omega) b3 ?_
     ·rw [a3, List.append_assoc, List.take_append_of_le_length (by omega), List.take_take, Nat.min_eq_left (by omega)]
      exact hcur k (by omega)
     ·rw [a3, List.append_assoc, List.drop_append_of_le_length (by omega), List.drop_eq_nil_of_le (by omega), List.nil_append]
      rw [List.take_append_of_le_length (by omega), List.take_of_length_le (by omega)]
   ·obtain rfl : k = l.length := by omega
    have H := Any2.slices_Insert_string_end_room Tryd.lays2_22 g 0 l.length cap W.heap.size 0 1 1 [.string x] (W.alloc (.cells #[.string x] 9)) (by omega) hroom (by simpa [maxLen] using hg4) rfl (fun j hj => hsome _ (by omega)) (fun j _ => hfz _) hbox hone
    refine H.mono ?_
    rintro e w' ⟨rfl, hw⟩
    rw [Nat.zero_add] at hw
    obtain ⟨c1, a1, a2, a3⟩ := setCells_row [Value.string x] l.length (W.alloc (.cells #[.string x] 9)) cur hg2' (by simp; omega)
    have hs1 := setCells_same g [Value.string x] l.length (W.alloc (.cells #[.string x] 9))
    subst hw
    refine same _ c1 hs1.1 hs1.2.1 hs1.2.2.1 ?_ ?_ a1 hroom (by omega) ?_
    ·rw [hs1.2.2.2]; omega
    ·intro i hi hne
     rw [setCells_far _ _ i hne]
     exact hold i hi
    ·have hcl : cur.toList.length = cap := by rw [Array.length_toList, hg5]
     rw [a3, hps, hg6, List.append_assoc]
     rw [List.take_append, strs_len, List.take_of_length_le (by rw [strs_len]; omega)]
     rw [show (strs l).take l.length = strs l from List.take_of_length_le (by rw [strs_len]; exact Nat.le_refl _), show (strs l).drop l.length = [] from List.drop_eq_nil_of_le (by rw [strs_len]; exact Nat.le_refl _)]
     rw [show l.length + 1 - l.length = 1 by omega]
     rfl
theorem is_eq (x u : ByteArray) : (x.toList == u.toList) = decide (x = u) := by
 by_cases h : x = u
 ·subst h; simp
 ·rw [decide_eq_false h, beq_eq_false_iff_ne]
  exact fun e => h (bs_inj (by rwa [bytes_toList, bytes_toList] at e))
set_option maxRecDepth 100000 in
theorem is_any (x u : ByteArray) (UB : Nat) (W : World) (hc : W.cell? ⟨UB, 0, none⟩ = some (.string u)) :
  Calls Tryd.prog 36 #[.string x, .pointer (some ⟨UB, 0, none⟩)] W fun e w' => e = .returned (.bool (decide (x = u))) ∧ ∃ q, w' = W.drewN q := by
 rw [← is_eq]
 go_enter Tryd.func36, Tryd.ntmps36
 go_wp2
 go_ret
 exact ⟨rfl, 0, rfl⟩
theorem put_same (W : World) (q g : Nat) (d : Array ByteArray) {cur : Array Value} (hg : W.heap[g]? = some (.cells cur 9 (0, 0))) :
  (putRow Value.string (Sort.ahead W q) g 0 d).heap[g]? = some (.cells (putCells Value.string 0 d cur) 9 (0, 0)) := by
 show (W.heap.modify g (onCells _))[g]? = _
 rw [Array.getElem?_modify, if_pos rfl, hg]; rfl
theorem put_far (W : World) (q g : Nat) (d : Array ByteArray) (i : Nat) (hi : i ≠ g) : (putRow Value.string (Sort.ahead W q) g 0 d).heap[i]? = W.heap[i]? := by
 show (W.heap.modify g (onCells _))[i]? = _
 rw [Array.getElem?_modify, if_neg (fun e => hi e.symm)]
theorem putCells_take (l : List ByteArray) (cur : Array Value) (n : Nat) (hn : n ≤ l.length) (hc : l.length ≤ cur.size) : (putCells Value.string 0 l.toArray cur).toList.take n = strs (l.take n) := by
 apply List.ext_getElem?
 intro i
 by_cases hi : i < n
 ·rw [List.getElem?_take_of_lt hi, Array.getElem?_toList]
  unfold putCells
  rw [Array.getElem?_mapIdx, Array.getElem?_eq_getElem (by omega)]
  have h1 : i < l.length := by omega
  rw [strs_take, List.getElem?_take_of_lt hi]
  simp [strs, encs, h1]
 ·rw [List.getElem?_eq_none (by rw [List.length_take]; omega), List.getElem?_eq_none (by rw [strs_len, List.length_take]; omega)]
theorem delete_any (W : World) (B UB : Nat) (v : Value) (l : List ByteArray) (u : ByteArray) (ho : W.ownsRow B 9 1 v l.length (strs l)) (hl : l.length ≤ 1000000) (hu : W.cell? ⟨UB, 0, none⟩ = some (.string u)) (hne : some UB ≠ v.ownBlock) :
  Calls Tryd.prog 37 #[v, .func (.func 36) #[] #[.pointer (some ⟨UB, 0, none⟩)]] W fun e w' =>
   ∃ v', e = .returned v' ∧ w'.ownsRow B 9 1 v' (dropL l u).length (strs (dropL l u)) ∧ W.grownBy w' v.ownBlock ∧ v'.ownBlock = v.ownBlock := by
 rcases own_row ho with ⟨rfl, rfl⟩ | ⟨g, cap, cur, rfl, hg1, hg2, hg3, hg4, hg5, hg6⟩
 ·have H := Lib.hid (Tryd.slices_IndexFunc_empty (α := ByteArray) none 0 (.func (.func 36) #[] #[.pointer (some ⟨UB, 0, none⟩)]) W)
  have H2 : Hid (∀ w' : World, w' = W → ∃ v', (Ending.returned (.slice none 0 0) : Ending) = .returned v' ∧ w'.ownsRow B 9 1 v' (dropL [] u).length (strs (dropL [] u)) ∧ W.grownBy w' (Value.slice none 0 0).ownBlock ∧ v'.ownBlock = (Value.slice none 0 0).ownBlock) := fun w' e => by
   subst e
   exact ⟨_, rfl, own_nil _ _ _ _, World.grownBy.refl _ _, rfl⟩
  clear hu hne ho
  go_enter Tryd.func37, Tryd.ntmps37
  go_wp2_with fail
  refine H.out.mono ?_
  rintro e w' ⟨rfl, hw⟩
  have HW := Lib.hid hw
  clear hw
  go_wp2
  go_ret
  exact H2.out w' HW.out
 ·have hgl : g < W.heap.size := blk_lt hg2
  have hug : UB ≠ g := fun e => hne (by rw [e]; rfl)
  have hul : UB < W.heap.size := World.block_lt_of_cell? W _ hu
  have gives : ∀ (W' : World), W'.heap[UB]? = W.heap[UB]? → ∀ x : ByteArray, FnGives Tryd.prog 36 #[.pointer (some ⟨UB, 0, none⟩)] #[Value.string x] (.bool (decide (x = u))) W' := by
   intro W' hW x
   exact is_any x u UB W' (by rw [← hu]; simp only [World.cell?]; rw [hW])
  have hp : PredAt Tryd.prog 36 #[.pointer (some ⟨UB, 0, none⟩)] Value.string (fun x => decide (x = u)) W := fun W' x hb => gives W' (hb.block UB hul) x
  have hpo : PredOver Tryd.prog 36 #[.pointer (some ⟨UB, 0, none⟩)] Value.string (fun x => decide (x = u)) g 0 l.toArray.size W := by
   intro n os dk x _
   refine gives _ ?_ x
   show ((putRow Value.string (Sort.ahead W n) g 0 dk).heap ++ os)[UB]? = _
   have hsz : (putRow Value.string (Sort.ahead W n) g 0 dk).heap.size = W.heap.size := by
    show (W.heap.modify g (onCells _)).size = _
    rw [Array.size_modify]
   rw [Array.getElem?_append_left (by omega), put_far _ _ _ _ _ hug]
  have hH : Holds Value.string W g 0 l.toArray := by
   intro j hj
   have hj' : j < l.length := by simpa using hj
   refine ⟨?_, blk_frozen hg2 _⟩
   rw [Nat.zero_add, blk_cell hg2]
   refine cur_get hg6 ?_
   simp [strs, encs, hj']
  have H := Tryd.slices_DeleteFunc Value.string (fun _ => rfl) (fun x => decide (x = u)) 36 #[.pointer (some ⟨UB, 0, none⟩)] (fun args w => by kernel_rfl) ByteArray.empty (fun w => by kernel_rfl) g 0 cap l.toArray W hp hpo hH (by simp; omega) (by simpa using hg3)
  have hs : l.toArray.size = l.length := by simp
  rw [hs] at H
  refine H.mono ?_
  rintro e w' ⟨rfl, q, rfl⟩
  have hf : (l.toArray.toList.filter fun x => !decide (x = u)) = dropL l u := rfl
  have hdl := drop_len l u
  rw [hf]
  generalize hD : dropL l u ++ List.replicate (l.length - (dropL l u).length) ByteArray.empty = D
  have hDl : D.length = l.length := by rw [← hD, List.length_append, List.length_replicate]; omega
  refine ⟨_, rfl, own_mk rfl hg1 (put_same W q g D.toArray hg2) (by omega) hg4 (by rw [← hg5]; simp [putCells]) ?_, ⟨rfl, rfl, rfl, ?_, fun i hi hne => put_far W q g _ i (fun e => hne (by rw [e]; rfl))⟩, rfl⟩
  ·rw [putCells_take D cur (dropL l u).length (by omega) (by omega), ← hD, List.take_append_of_le_length (Nat.le_refl _), List.take_of_length_le (Nat.le_refl _)]
  ·show W.heap.size ≤ (W.heap.modify g (onCells _)).size
   rw [Array.size_modify]; exact Nat.le_refl _
end Go.Proofs.YtfhanoloaejmkaaDoor
end
section

namespace Go.Proofs.YtfhanoloaejmkaaDoor.PL
open Go.RowKit Go.Proofs.YtfhanoloaejmkaaDoorW.PrintWords Go.Proofs.YtfhanoloaejmkaaDoorW.PrintLast Go.Proofs.YtfhanoloaejmkaaDoorW.PrintMore
attribute [local go_sem] max2_int min2_int max_two min_two max_three min_three max_four min_four   -- for this text's walks alone
set_option linter.unusedVariables false
set_option linter.unusedSimpArgs false
def errW : Option Int → Value
 | none => .nilIface
 | some c => .iface 0 (.int .i64 c)
theorem errW_none : errW none = .nilIface := rfl
theorem errW_some (c : Int) : errW (some c) = .iface 0 (.int .i64 c) := rfl
structure S88 where
 f0 : Int
 f1 : Int
def z88 : S88 := ⟨(0 : Int), (0 : Int)⟩
def k88 : Kd S88 := Kd.iso (Kd.pair (Kd.int .i32) (Kd.int .i32)) (fun x : S88 => (x.f0, x.f1))
theorem k88_open {w : World} {x : S88} {cs : List Value} (h : k88.K w x cs) : cs = [.int .i32 x.f0, .int .i32 x.f1] := by
 obtain ⟨_, _, rfl, rfl, rfl⟩ := h
 exact rfl
theorem k88_mkM (w : World) (base : Nat) (ok : Nat → Prop) (x : S88)  : k88.M w base ok x [.int .i32 x.f0, .int .i32 x.f1] := ⟨[.int .i32 x.f0], [.int .i32 x.f1], rfl, rfl, rfl⟩
def rd_T88 (xs : List S88) (i : Int) : S88 := xs.getD i.toNat z88
theorem at_T88 {w : World} {A : Option Addr} {n : Nat} {xs : List S88} (h : Kd.C k88 w A n xs) (i : Int) (h0 : 0 ≤ i) (h1 : i < n) : ∃ ad , A = some ad ∧ w.cell? (ad.add (i.toNat * 2)) = some (.int .i32 (rd_T88 xs i).f0) ∧ w.cell? ⟨(ad.add (i.toNat * 2)).block, (ad.add (i.toNat * 2)).off + 1, none⟩ = some (.int .i32 (rd_T88 xs i).f1) := by
 obtain ⟨ad, c, e, _, hK, hc0⟩ := Kd.C_get h z88 i h0 h1
 have hc : ∀ j u, c[j]? = some u → w.cell? (ad.add (i.toNat * 2 + j)) = some u := hc0
 obtain rfl := k88_open hK
 exact ⟨ad, e, hc 0 _ rfl, by rw [← add_field _ _ 1 (by omega)]; exact hc 1 _ rfl⟩
end Go.Proofs.YtfhanoloaejmkaaDoor.PL
end
section

namespace Go.Proofs.YtfhanoloaejmkaaDoor.PL
open Go.RowKit Go.Proofs.YtfhanoloaejmkaaDoorW.PrintWords Go.Proofs.YtfhanoloaejmkaaDoorW.PrintLast Go.Proofs.YtfhanoloaejmkaaDoorW.PrintMore
attribute [local go_sem] max2_int min2_int max_two min_two max_three min_three max_four min_four   -- for this text's walks alone
set_option linter.unusedVariables false
set_option linter.unusedSimpArgs false
def name_within.l0 : Nat → Int → List (S88) → Int → Int → Option (Bool)
 | 0, _, _, _, _ => none
 | k + 1, x0, x7, x8, x9 => if x9 < x8 then (if 0 ≤ x9 then (if x9 < (x7.length : Int) then (if x0 ≥ ((rd_T88 x7 x9).f0) then (if x0 ≤ ((rd_T88 x7 x9).f1) then (some true) else (name_within.l0 k x0 x7 x8 (wrap64 (x9 + 1)))) else (name_within.l0 k x0 x7 x8 (wrap64 (x9 + 1)))) else (none)) else (none)) else (some false)
def name_within.f (k : Nat) (a0 : Int) (l1 : List (S88)) : Option (Bool) := name_within.l0 k a0 l1 (l1.length : Int) 0
set_option maxHeartbeats 8000000 in
set_option maxRecDepth 100000 in
theorem name_within.calls (k : Nat) (a0 : Int) (A1 : Option Addr) (c1 : Nat) (l1 : List (S88)) (r : Bool) (w : World) (hr1 : Kd.C k88 w A1 l1.length l1) (hc1 : l1.length ≤ c1) (h : name_within.f k a0 l1 = some r) :
  Calls Tryd.prog 65 #[.int .i32 a0, .slice A1 l1.length c1] w fun e w' => e = .returned (.bool r) ∧ Below w.heap.size w w' := by
 have hu88 := Tryd.underlying88
 have HR1 := Aside0.mk hr1
 have HC1 := Aside0.mk hc1
 clear hr1 hc1
 have HB := Aside0.mk (Below.refl w.heap.size w)
 have H : (name_within.l0 k a0 l1 (l1.length : Int) 0) = some r := h
 clear h
 have H' := Aside0.mk H
 clear H
 go_enter Tryd.func65, Tryd.ntmps65
 go_wp2
 go_loopg [9] k (fun kq v9 w' => ∃ (x9_1 : Int), v9 = .int .i64 x9_1 ∧ Aside0 (name_within.l0 kq a0 l1 (l1.length : Int) x9_1 = some r) ∧ Aside0 (kq ≤ k) ∧ Aside0 (Below w.heap.size w w'))
 case atStart => exact ⟨(0), (by first | rfl | (simp; done) | (simp [*]; done)), H', ⟨Nat.le_refl _⟩, ⟨by repeat (first | (with_reducible first | exact HB.out | apply below_alloc | apply pw_below_drewN | apply below_drew1) | exact HB.out)⟩⟩
 case round =>
  clear H'
  try clear c1
  try clear p2
  obtain ⟨x9_1, rfl, HA, HK1, HB⟩ := hrel
  cases gk with
  | zero => exact absurd HA.out (by simp [name_within.l0])
  | succ k1 =>
   have H := HA.out
   clear HA
   simp only [name_within.l0] at H
   by_cases c3 : x9_1 < (l1.length : Int)
   ·rw [if_pos c3] at H
    have c3b0 : decide (x9_1 < (l1.length : Int)) = true := decide_eq_true c3
    clear c3
    by_cases c4 : 0 ≤ x9_1
    ·rw [if_pos c4] at H
     have c4b0 : decide (0 ≤ x9_1) = true := decide_eq_true c4
     clear c4
     by_cases c5 : x9_1 < (l1.length : Int)
     ·rw [if_pos c5] at H
      have c5b0 : decide (x9_1 < (l1.length : Int)) = true := decide_eq_true c5
      clear c5
      by_cases c6 : a0 ≥ ((rd_T88 l1 x9_1).f0)
      ·rw [if_pos c6] at H
       have c6b0 : decide (((rd_T88 l1 x9_1).f0) ≤ a0) = true := decide_eq_true c6
       clear c6
       by_cases c7 : a0 ≤ ((rd_T88 l1 x9_1).f1)
       ·rw [if_pos c7] at H
        have c7b0 : decide (a0 ≤ ((rd_T88 l1 x9_1).f1)) = true := decide_eq_true c7
        clear c7
        obtain rfl := Option.some.inj H
        have p101 : 0 ≤ (x9_1 : Int) := of_decide_eq_true (by first | (with_reducible assumption) | assumption)
        have q101 : x9_1 < (l1.length : Int) := of_decide_eq_true (by first | (with_reducible assumption) | assumption)
        obtain ⟨ad101, e101, hx101_0, hx101_1⟩ := at_T88 HR1.out x9_1 p101 q101
        cases e101
        replace hx101_0 := (HB.out.cell (World.block_lt_of_cell? w _ hx101_0)).trans hx101_0
        replace hx101_1 := (HB.out.cell (World.block_lt_of_cell? w _ hx101_1)).trans hx101_1
        replace p101 := eq_true p101
        replace q101 := eq_true q101
        go_wp2_with (first | ((with_reducible refine gate_dst (N := 6) rfl ?_); refine box_event ?hg (N := 6) ?hd (cs := #[.int .i32 0, .int .i32 0]) (t := 88) ?hr ?_; (case hd => rfl); (case hg => rfl); (case hr => first | (go_simp; done) | (go_simp; rfl)); intro gb102 hg w8 hbox hb; have n0_ := Aside0.mk (below_step (by repeat (first | (with_reducible first | exact HB.out | apply below_alloc | apply pw_below_drewN | apply below_drew1) | exact HB.out)) hb); have n1_ := Aside0.mk (hbox); have n2_ := Aside0.mk ((by rw [hg]; exact (below_size (by repeat (first | (with_reducible first | exact HB.out | apply below_alloc | apply pw_below_drewN | apply below_drew1) | exact HB.out))) : w.heap.size ≤ gb102)); have n3_ := Aside0.mk ((by rw [hg]; exact (below_size (by repeat (first | (with_reducible first | exact HB.out | apply below_alloc | apply pw_below_drewN | apply below_drew1) | exact HB.out))) : w.heap.size ≤ gb102)); clear HB; have HB := n0_; have BK102 := n1_; have GW102 := n2_; have GE102 := n3_; clear n0_ n1_ n2_ n3_; clear hb hbox hg; have hcz9_0 : w8.cell? ⟨gb102, 0, none⟩ = some (.int .i32 0) := (blk_cell BK102.out 0).trans rfl; have hcz9_1 : w8.cell? ⟨gb102, 1, none⟩ = some (.int .i32 0) := (blk_cell BK102.out 1).trans rfl; have hfz9_0 := blk_frozen BK102.out 0; have hfz9_1 := blk_frozen BK102.out 1))
        go_ret
        exact ⟨by first | rfl | (simp [errW_none, errW_some] <;> rfl) | (simp [*, errW_none, errW_some] <;> rfl), by repeat (first | (with_reducible first | exact HB.out | apply below_alloc | apply pw_below_drewN | apply below_drew1 | refine below_set ?_ GE102.out) | exact HB.out)⟩
       ·rw [if_neg c7] at H
        have c7b0 : decide (a0 ≤ ((rd_T88 l1 x9_1).f1)) = false := decide_eq_false c7
        clear c7
        have H' := Aside0.mk H
        clear H
        have p101 : 0 ≤ (x9_1 : Int) := of_decide_eq_true (by first | (with_reducible assumption) | assumption)
        have q101 : x9_1 < (l1.length : Int) := of_decide_eq_true (by first | (with_reducible assumption) | assumption)
        obtain ⟨ad101, e101, hx101_0, hx101_1⟩ := at_T88 HR1.out x9_1 p101 q101
        cases e101
        replace hx101_0 := (HB.out.cell (World.block_lt_of_cell? w _ hx101_0)).trans hx101_0
        replace hx101_1 := (HB.out.cell (World.block_lt_of_cell? w _ hx101_1)).trans hx101_1
        replace p101 := eq_true p101
        replace q101 := eq_true q101
        go_wp2_with (first | ((with_reducible refine gate_dst (N := 6) rfl ?_); refine box_event ?hg (N := 6) ?hd (cs := #[.int .i32 0, .int .i32 0]) (t := 88) ?hr ?_; (case hd => rfl); (case hg => rfl); (case hr => first | (go_simp; done) | (go_simp; rfl)); intro gb102 hg w10 hbox hb; have n0_ := Aside0.mk (below_step (by repeat (first | (with_reducible first | exact HB.out | apply below_alloc | apply pw_below_drewN | apply below_drew1) | exact HB.out)) hb); have n1_ := Aside0.mk (hbox); have n2_ := Aside0.mk ((by rw [hg]; exact (below_size (by repeat (first | (with_reducible first | exact HB.out | apply below_alloc | apply pw_below_drewN | apply below_drew1) | exact HB.out))) : w.heap.size ≤ gb102)); have n3_ := Aside0.mk ((by rw [hg]; exact (below_size (by repeat (first | (with_reducible first | exact HB.out | apply below_alloc | apply pw_below_drewN | apply below_drew1) | exact HB.out))) : w.heap.size ≤ gb102)); clear HB; have HB := n0_; have BK102 := n1_; have GW102 := n2_; have GE102 := n3_; clear n0_ n1_ n2_ n3_; clear hb hbox hg; have hcz11_0 : w10.cell? ⟨gb102, 0, none⟩ = some (.int .i32 0) := (blk_cell BK102.out 0).trans rfl; have hcz11_1 : w10.cell? ⟨gb102, 1, none⟩ = some (.int .i32 0) := (blk_cell BK102.out 1).trans rfl; have hfz11_0 := blk_frozen BK102.out 0; have hfz11_1 := blk_frozen BK102.out 1))
        go_roundg k1
        case measure => have := HK1.out; omega
        case rel => exact ⟨(wrap64 (x9_1 + 1)), (by first | rfl | (simp; done) | (simp [*]; done)), H', ⟨by have := HK1.out; omega⟩, ⟨by repeat (first | (with_reducible first | exact HB.out | apply below_alloc | apply pw_below_drewN | apply below_drew1 | refine below_set ?_ GE102.out) | exact HB.out)⟩⟩
      ·rw [if_neg c6] at H
       have c6b0 : decide (((rd_T88 l1 x9_1).f0) ≤ a0) = false := decide_eq_false c6
       clear c6
       have H' := Aside0.mk H
       clear H
       have p101 : 0 ≤ (x9_1 : Int) := of_decide_eq_true (by first | (with_reducible assumption) | assumption)
       have q101 : x9_1 < (l1.length : Int) := of_decide_eq_true (by first | (with_reducible assumption) | assumption)
       obtain ⟨ad101, e101, hx101_0, hx101_1⟩ := at_T88 HR1.out x9_1 p101 q101
       cases e101
       replace hx101_0 := (HB.out.cell (World.block_lt_of_cell? w _ hx101_0)).trans hx101_0
       replace hx101_1 := (HB.out.cell (World.block_lt_of_cell? w _ hx101_1)).trans hx101_1
       replace p101 := eq_true p101
       replace q101 := eq_true q101
       go_wp2_with (first | ((with_reducible refine gate_dst (N := 6) rfl ?_); refine box_event ?hg (N := 6) ?hd (cs := #[.int .i32 0, .int .i32 0]) (t := 88) ?hr ?_; (case hd => rfl); (case hg => rfl); (case hr => first | (go_simp; done) | (go_simp; rfl)); intro gb102 hg w12 hbox hb; have n0_ := Aside0.mk (below_step (by repeat (first | (with_reducible first | exact HB.out | apply below_alloc | apply pw_below_drewN | apply below_drew1) | exact HB.out)) hb); have n1_ := Aside0.mk (hbox); have n2_ := Aside0.mk ((by rw [hg]; exact (below_size (by repeat (first | (with_reducible first | exact HB.out | apply below_alloc | apply pw_below_drewN | apply below_drew1) | exact HB.out))) : w.heap.size ≤ gb102)); have n3_ := Aside0.mk ((by rw [hg]; exact (below_size (by repeat (first | (with_reducible first | exact HB.out | apply below_alloc | apply pw_below_drewN | apply below_drew1) | exact HB.out))) : w.heap.size ≤ gb102)); clear HB; have HB := n0_; have BK102 := n1_; have GW102 := n2_; have GE102 := n3_; clear n0_ n1_ n2_ n3_; clear hb hbox hg; have hcz13_0 : w12.cell? ⟨gb102, 0, none⟩ = some (.int .i32 0) := (blk_cell BK102.out 0).trans rfl; have hcz13_1 : w12.cell? ⟨gb102, 1, none⟩ = some (.int .i32 0) := (blk_cell BK102.out 1).trans rfl; have hfz13_0 := blk_frozen BK102.out 0; have hfz13_1 := blk_frozen BK102.out 1))
       go_roundg k1
       case measure => have := HK1.out; omega
       case rel => exact ⟨(wrap64 (x9_1 + 1)), (by first | rfl | (simp; done) | (simp [*]; done)), H', ⟨by have := HK1.out; omega⟩, ⟨by repeat (first | (with_reducible first | exact HB.out | apply below_alloc | apply pw_below_drewN | apply below_drew1 | refine below_set ?_ GE102.out) | exact HB.out)⟩⟩
     ·rw [if_neg c5] at H
      exact absurd H (by simp)
    ·rw [if_neg c4] at H
     exact absurd H (by simp)
   ·rw [if_neg c3] at H
    have c3b0 : decide (x9_1 < (l1.length : Int)) = false := decide_eq_false c3
    clear c3
    obtain rfl := Option.some.inj H
    go_wp2
    go_ret
    exact ⟨by first | rfl | (simp [errW_none, errW_some] <;> rfl) | (simp [*, errW_none, errW_some] <;> rfl), by repeat (first | (with_reducible first | exact HB.out | apply below_alloc | apply pw_below_drewN | apply below_drew1) | exact HB.out)⟩
def name_letter.f (k : Nat) (a0 : Int) : Option (Bool) := (name_within.f k a0 (([(⟨97, 122⟩ : S88), (⟨48, 57⟩ : S88), (⟨45, 45⟩ : S88), (⟨223, 246⟩ : S88), (⟨248, 255⟩ : S88), (⟨945, 969⟩ : S88), (⟨1072, 1103⟩ : S88)] : List (S88)))).bind fun t106 => (some t106)
set_option maxHeartbeats 8000000 in
set_option maxRecDepth 100000 in
theorem name_letter.calls (k : Nat) (a0 : Int) (r : Bool) (w : World) (h : name_letter.f k a0 = some r) :
  Calls Tryd.prog 44 #[.int .i32 a0] w fun e w' => e = .returned (.bool r) ∧ Below w.heap.size w w' := by
 have hu88 := Tryd.underlying88
 have HB := Aside0.mk (Below.refl w.heap.size w)
 have H : ((name_within.f k a0 (([(⟨97, 122⟩ : S88), (⟨48, 57⟩ : S88), (⟨45, 45⟩ : S88), (⟨223, 246⟩ : S88), (⟨248, 255⟩ : S88), (⟨945, 969⟩ : S88), (⟨1072, 1103⟩ : S88)] : List (S88)))).bind fun t106 => (some t106)) = some r := h
 clear h
 obtain ⟨y103, hy103⟩ : ∃ y_ : List (S88), y_ = (([(⟨97, 122⟩ : S88), (⟨48, 57⟩ : S88), (⟨45, 45⟩ : S88), (⟨223, 246⟩ : S88), (⟨248, 255⟩ : S88), (⟨945, 969⟩ : S88), (⟨1072, 1103⟩ : S88)] : List (S88))) := ⟨_, rfl⟩
 replace H : ((name_within.f k a0 y103).bind fun t106 => (some t106)) = some r := by first | (rw [hy103]; with_reducible exact H) | (have H2_ := (Option.bind_some _ _).symm.trans H; rw [hy103]; with_reducible exact H2_) | (have H2_ := (Option.bind_some _ _).symm.trans H; with_reducible exact H2_) | with_reducible exact H | (rw [hy103]; exact H) | exact H
 have Ny103 := Aside0.mk hy103
 clear hy103
 replace H := Option.bind_eq_some_iff.mp H
 obtain ⟨t106, A20, H⟩ := H
 replace H : (some t106) = some r := H
 have A2 := Aside0.mk A20
 clear A20
 obtain rfl := Option.some.inj H
 go_enter Tryd.func44, Tryd.ntmps44
 go_wp2_with (first | ((with_reducible refine gate_dst (N := 11) rfl ?_); refine Kd.R_lit k88 _ 88 ?hg (N := 11) ?hd (xs := ([(⟨97, 122⟩ : S88), (⟨48, 57⟩ : S88), (⟨45, 45⟩ : S88), (⟨223, 246⟩ : S88), (⟨248, 255⟩ : S88), (⟨945, 969⟩ : S88), (⟨1072, 1103⟩ : S88)] : List (S88))) (inner := [.int .i32 97, .int .i32 122, .int .i32 48, .int .i32 57, .int .i32 45, .int .i32 45, .int .i32 223, .int .i32 246, .int .i32 248, .int .i32 255, .int .i32 945, .int .i32 969, .int .i32 1072, .int .i32 1103]) (ok := fun _ => True) (okp := fun _ => True) ?hr ?hp (fun _ hk => hk) trivial (Below.refl _ _) (Nat.le_refl _) (by simp) ?_; (case hd => rfl); (case hg => rfl); (case hr => first | (go_simp; done) | (go_simp; rfl)); (case hp => exact (Reps.c2 (show Kd.M k88 _ _ _ (⟨97, 122⟩ : S88) [.int .i32 97, .int .i32 122] from (k88_mkM _ _ _ (⟨97, 122⟩ : S88) )) (Reps.c2 (show Kd.M k88 _ _ _ (⟨48, 57⟩ : S88) [.int .i32 48, .int .i32 57] from (k88_mkM _ _ _ (⟨48, 57⟩ : S88) )) (Reps.c2 (show Kd.M k88 _ _ _ (⟨45, 45⟩ : S88) [.int .i32 45, .int .i32 45] from (k88_mkM _ _ _ (⟨45, 45⟩ : S88) )) (Reps.c2 (show Kd.M k88 _ _ _ (⟨223, 246⟩ : S88) [.int .i32 223, .int .i32 246] from (k88_mkM _ _ _ (⟨223, 246⟩ : S88) )) (Reps.c2 (show Kd.M k88 _ _ _ (⟨248, 255⟩ : S88) [.int .i32 248, .int .i32 255] from (k88_mkM _ _ _ (⟨248, 255⟩ : S88) )) (Reps.c2 (show Kd.M k88 _ _ _ (⟨945, 969⟩ : S88) [.int .i32 945, .int .i32 969] from (k88_mkM _ _ _ (⟨945, 969⟩ : S88) )) (Reps.c2 (show Kd.M k88 _ _ _ (⟨1072, 1103⟩ : S88) [.int .i32 1072, .int .i32 1103] from (k88_mkM _ _ _ (⟨1072, 1103⟩ : S88) )) (Reps.none _ _))))))))); intro v104 w3 ho4 hb hg_ hnew_; clear hg_ hnew_; (first | rw [← Ny103.out] at ho4 | (simp only [Int.reduceToNat] at ho4; rw [← Ny103.out] at ho4)); have n0_ := Aside0.mk (Kd.R_lower ho4 (below_size (by repeat (first | (with_reducible first | exact HB.out | apply below_alloc | apply pw_below_drewN | apply below_drew1) | exact HB.out)))); have n1_ := Aside0.mk (below_step (by repeat (first | (with_reducible first | exact HB.out | apply below_alloc | apply pw_below_drewN | apply below_drew1) | exact HB.out)) hb); clear HB; have HO105 := n0_; have HB := n1_; clear n0_ n1_; clear hb ho4; obtain ⟨Ao5, co5, eo5⟩ := Kd.R_slice HO105.out; subst eo5) | ((with_reducible refine gate_callee (f := 65) rfl ?_); refine goesL_ (some 12) rfl rfl Tryd.func65 (by kernel_rfl) rfl #[.int .i32 a0, .slice Ao5 y103.length co5] rfl (by (try simp only [List.map_toArray, List.map_cons, List.map_nil]); first | done | rfl | (simp only [List.length_drop, List.length_take]; rfl)) ?_; (with_reducible refine (name_within.calls k a0 _ _ y103 t106 _ ?side1 ?side2 A2.out).mono ?_); (case side1 => repeat (first | exact (Kd.R_reads' HO105.out).2.2 | (with_reducible refine Kd.C_alloc ?_ _) | (with_reducible refine Kd.C_drewN ?_ _) | (with_reducible refine Kd.C_drew ?_))); (case side2 => exact (Kd.R_reads' HO105.out).2.1); rintro e w6 ⟨rfl, hb⟩; refine ⟨_, rfl, ?_⟩; have n0_ := Aside0.mk (Kd.R_below (by (with_reducible repeat (first | apply Kd.R_alloc | apply Kd.R_drewN | apply Kd.R_drew)); exact HO105.out) hb); have n1_ := Aside0.mk (below_step (by repeat (first | (with_reducible first | exact HB.out | apply below_alloc | apply pw_below_drewN | apply below_drew1) | exact HB.out)) hb); clear HO105; clear HB; have HO105 := n0_; have HB := n1_; clear n0_ n1_; (try clear hb); (try clear hb2); (try clear hk); (try clear hi)))
 go_ret
 exact ⟨by first | rfl | (simp [errW_none, errW_some] <;> rfl) | (simp [*, errW_none, errW_some] <;> rfl), by repeat (first | (with_reducible first | exact HB.out | apply below_alloc | apply pw_below_drewN | apply below_drew1) | exact HB.out)⟩
end Go.Proofs.YtfhanoloaejmkaaDoor.PL
end
section

namespace Go.Proofs.YtfhanoloaejmkaaDoor.Ref
open Go.RowKit Go.Proofs.YtfhanoloaejmkaaDoor Go.Proofs.YtfhanoloaejmkaaDoor.PL Go.Proofs.YtfhanoloaejmkaaDoorW.PrintWords Go.Proofs.YtfhanoloaejmkaaDoorW.PrintLast
set_option linter.unusedVariables false
theorem within_loop (r : Int) (l : List S88) (hl : l.length ≤ 1000) (m i : Nat) (hm : i + m = l.length) :
  Ev (fun k => name_within.l0 k r l (l.length : Int) (i : Int)) ((l.drop i).any fun s => decide (s.f0 ≤ r ∧ r ≤ s.f1)) := by
 induction m generalizing i with
 | zero =>
  rw [List.drop_eq_nil_of_le (by omega)]
  exact Ev.step (fun _ => rfl) (Ev.neg (by omega) (Ev.now _))
 | succ m ih =>
  have hi : i < l.length := by omega
  have hr : rd_T88 l (i : Int) = l[i] := by
   unfold rd_T88
   rw [Int.toNat_natCast, List.getD_eq_getElem?_getD, List.getElem?_eq_getElem hi]; rfl
  have ih := ih (i + 1) (by omega)
  rw [List.drop_eq_getElem_cons hi, List.any_cons]
  refine Ev.step (fun _ => rfl) (Ev.pos (by omega) (Ev.pos (by omega) (Ev.pos (by omega) ?_)))
  rw [hr, w64 (n := (i : Int) + 1) (by omega) (by omega)]
  by_cases h1 : r ≥ l[i].f0
  ·refine Ev.pos h1 ?_
   by_cases h2 : r ≤ l[i].f1
   ·rw [decide_eq_true ⟨h1, h2⟩, Bool.true_or]
    exact Ev.pos h2 (Ev.now _)
   ·rw [decide_eq_false (fun h => h2 h.2), Bool.false_or]
    exact Ev.neg h2 ih
  ·rw [decide_eq_false (fun h => h1 h.1), Bool.false_or]
   exact Ev.neg h1 ih
theorem letter_ev (r : Int) : Ev (fun k => name_letter.f k r) (letterZ r) := by
 unfold name_letter.f
 refine Ev.bind (a := letterZ r) ?_ (Ev.now _)
 unfold name_within.f
 refine ev_cast (within_loop r _ (by simp) 7 0 rfl) ?_
 simp only [List.drop_zero, List.any_cons, List.any_nil, Bool.or_false, letterZ]
 have e : decide ((45 : Int) ≤ r ∧ r ≤ 45) = decide (r = 45) := by
  by_cases h : r = 45
  ·rw [decide_eq_true h, decide_eq_true (by omega)]
  ·rw [decide_eq_false h, decide_eq_false (by omega)]
 rw [e]
 simp only [Bool.or_assoc]
theorem letter_calls (r : Int) (w : World) : Calls Tryd.prog 44 #[.int .i32 r] w fun e w' => e = .returned (.bool (letterZ r)) ∧ Below w.heap.size w w' := by
 obtain ⟨K, h⟩ := letter_ev r
 exact name_letter.calls K r _ w (h K (Nat.le_refl _))
end Go.Proofs.YtfhanoloaejmkaaDoor.Ref
end
section

namespace Go.Proofs.YtfhanoloaejmkaaDoor
open Go.RowKit Go.Proofs.YtfhanoloaejmkaaDoorW.PrintWords Go.Proofs.YtfhanoloaejmkaaDoor.Ref
set_option linter.unusedVariables false
def Tabs (w : World) : Prop := Lib.Utf8Tabs 0 1 w ∧ ∃ m, w.cell? ⟨2, 0, none⟩ = some (.int .i64 m)
theorem Tabs.below {w w' : World} (h : Tabs w) (hb : Below w.heap.size w w') : Tabs w' := by
 obtain ⟨h1, m, h2⟩ := h
 exact ⟨Go.Proofs.Utf8Tabs_below h1 hb, m, pw_cell_below hb h2⟩
theorem decode_drop (s : ByteArray) (pos : Nat) : Lib.decodeL ((bytes s).drop pos) = Utf8.decode s pos := Lib.decodeL_drop s pos
set_option maxHeartbeats 4000000 in
set_option maxRecDepth 100000 in
theorem right_any (s : ByteArray) (w : World) (hs : s.size ≤ 9223372036854775807) (hT : Tabs w) :
  Calls Tryd.prog 21 #[.string s] w fun e w' => e = .returned (.bool (rightN (bytes s))) ∧ Below w.heap.size w w' := by
 have HV := Lib.hid (Tryd.ValidString s w hs hT.1)
 have hll := runesD_len (bytes s)
 rw [bytes_length] at hll
 obtain ⟨R, hR⟩ : ∃ R, rightN (bytes s) = R := ⟨_, rfl⟩
 rw [hR]
 go_enter Tryd.func21, Tryd.ntmps21
 go_wp2_with fail
 refine HV.out.mono ?_
 rintro e w1 ⟨rfl, hb⟩
 have HB := Lib.hid hb
 clear hb HV hT
 cases hv : Lib.validD s.data.toList with
 | false =>
  have hv' : Lib.validD (bytes s) = false := hv
  unfold rightN at hR
  rw [hv', Bool.false_and, Bool.false_and] at hR
  subst hR
  go_wp2
  go_ret
  exact ⟨rfl, HB.out⟩
 | true =>
  have hv' : Lib.validD (bytes s) = true := hv
  have hR1 : ((runesD (bytes s)).all letterZ && decide (1 ≤ (runesD (bytes s)).length ∧ (runesD (bytes s)).length ≤ 32)) = R := by
   rw [← hR]; unfold rightN; rw [hv', Bool.true_and]
  have HR := Lib.hid hR1
  have HLL := Lib.hid hll
  clear hR hR1 hv hv' hll
  generalize hK : w1.heap.size = K
  go_wp2
  go_loopw [3] (fun n wr => ∃ (pos : Nat) (k : Nat), n = .int .i64 k ∧ wr.heap[K]? = some (.stringIter s pos) ∧ Hid (Below w.heap.size w wr ∧ w.heap.size ≤ K ∧ k + (runesD ((bytes s).drop pos)).length = (runesD (bytes s)).length ∧ (runesD (bytes s)).all letterZ = (runesD ((bytes s).drop pos)).all letterZ)) (fun n wr => s.size - wr.iterPos K)
  case atStart =>
   have h1 := HB.out.size
   refine ⟨0, 0, rfl, ?_, Lib.hid ⟨HB.out.alloc h1 _, by omega, by simp, by simp⟩⟩
   subst hK
   have := World.iter_heap w1 s 0
   simpa using this
  case round =>
   obtain ⟨pos, k, rfl, hit, hh⟩ := hrel
   have hsz : K < wr.heap.size := (Array.getElem?_eq_some_iff.1 hit).1
   by_cases hp : pos < s.size
   ·have hnx : ∀ ty, (Instr.next (.pointer (some ⟨K, 0, none⟩)) true ty).run Tryd.prog wr = _ := fun ty => Lib.run_next_any_at wr K s pos ty hit hp
    have hwd := Lib.width_pos s pos
    have hne : (bytes s).drop pos ≠ [] := fun e => by have := congrArg List.length e; rw [List.length_drop, bytes_length] at this; simp at this; omega
    have hst := runesD_step hne
    rw [decode_drop, List.drop_drop] at hst
    have hit2 := Lib.iterAt_heap wr K s pos (pos + (Utf8.decode s pos).2) hit
    have hsz2 : (wr.iterAt K s (pos + (Utf8.decode s pos).2)).heap.size = wr.heap.size := Lib.iterAt_size _ _ _ _
    have HW2 := Lib.hid (Lib.below_iterAt hh.out.1 (k := K) hh.out.2.1 s (pos + (Utf8.decode s pos).2))
    have HL := Lib.hid (letter_calls (((Utf8.decode s pos).1 : Nat) : Int) (wr.iterAt K s (pos + (Utf8.decode s pos).2)))
    have HS := Lib.hid hst
    have hrl := Lib.hid hh.out.2.2
    have hK0 := hh.out.2.1
    clear hst hne hh
    cases hl : letterZ (((Utf8.decode s pos).1 : Nat) : Int) with
    | false =>
     rw [hl] at HL
     go_wp2_with fail
     refine HL.out.mono ?_
     rintro e w2 ⟨rfl, hb⟩
     have HB2 := Lib.hid (HW2.out.trans (hb.mono HW2.out.size))
     clear hb HL
     go_wp2
     go_ret
     refine ⟨?_, HB2.out⟩
     have h1 := hrl.out.2
     rw [HS.out, List.all_cons, hl, Bool.false_and] at h1
     have h2 : R = false := by rw [← HR.out, h1, Bool.false_and]
     rw [h2]; rfl
    | true =>
     rw [hl] at HL
     go_wp2_with fail
     refine HL.out.mono ?_
     rintro e w2 ⟨rfl, hb⟩
     have HB2 := Lib.hid (HW2.out.trans (hb.mono HW2.out.size))
     have hit3 : w2.heap[K]? = some (.stringIter s (pos + (Utf8.decode s pos).2)) := by rw [hb.block K (by omega)]; exact hit2
     clear hb HL
     go_wp2
     go_roundw
     case rel =>
      have h1 := hrl.out
      rw [HS.out, List.all_cons, hl, Bool.true_and, List.length_cons] at h1
      refine ⟨pos + (Utf8.decode s pos).2, k + 1, ?_, hit3, Lib.hid ⟨HB2.out, ?_, by omega, h1.2⟩⟩
      ·have := HLL.out
       rw [w64 (by omega) (by omega)]; rfl
      ·omega
     case measure =>
      simp only [World.iterPos, hit3, hit]
      omega
   ·have hnx : ∀ ty, (Instr.next (.pointer (some ⟨K, 0, none⟩)) true ty).run Tryd.prog wr = _ := fun ty => Lib.run_next_end_at wr K s pos ty hit hp
    have he : (bytes s).drop pos = [] := List.drop_eq_nil_of_le (by rw [bytes_length]; omega)
    have hrl := hh.out
    rw [he] at hrl
    simp only [runesD_nil, List.length_nil, Nat.add_zero, List.all_nil] at hrl
    have HRL := Lib.hid hrl
    clear hrl hh he
    by_cases h1 : 1 ≤ k
    ·have h1z : (k : Int) ≥ 1 := by omega
     by_cases h2 : k ≤ 32
     ·have h2z : (k : Int) ≤ 32 := by omega
      go_wp2
      go_ret
      refine ⟨?_, HRL.out.1⟩
      have h3 : R = true := by rw [← HR.out, HRL.out.2.2.2, ← HRL.out.2.2.1, decide_eq_true ⟨h1, h2⟩]; rfl
      rw [h3]; rfl
     ·have h2z : ¬ (k : Int) ≤ 32 := by omega
      go_wp2
      go_ret
      refine ⟨?_, HRL.out.1⟩
      have h3 : R = false := by rw [← HR.out, HRL.out.2.2.2, ← HRL.out.2.2.1, decide_eq_false (fun h => h2 h.2)]; rfl
      rw [h3]; rfl
    ·have h1z : ¬ (k : Int) ≥ 1 := by omega
     go_wp2
     go_ret
     refine ⟨?_, HRL.out.1⟩
     have h3 : R = false := by rw [← HR.out, HRL.out.2.2.2, ← HRL.out.2.2.1, decide_eq_false (fun h => h1 h.1)]; rfl
     rw [h3]; rfl
 
def name_Right.f (a0 : ByteArray) : Option Bool := if a0.size ≤ 9223372036854775807 then some (rightN (bytes a0)) else none
theorem name_Right.calls (a0 : ByteArray) (r : Bool) (w : World) (HTB : Aside0 (Tabs w)) (h : name_Right.f a0 = some r) :
  Calls Tryd.prog 21 #[.string a0] w fun e w' => e = .returned (.bool r) ∧ Below w.heap.size w w' := by
 unfold name_Right.f at h
 split at h
 ·rename_i hs
  obtain rfl := Option.some.inj h
  exact right_any a0 w hs HTB.out
 ·exact absurd h (by simp)
end Go.Proofs.YtfhanoloaejmkaaDoor
end
section

namespace Go.Proofs.YtfhanoloaejmkaaDoor
open Go.RowKit Go.Proofs.YtfhanoloaejmkaaDoorW.PrintWords
set_option linter.unusedVariables false
set_option linter.unusedSimpArgs false
theorem infoStr : (Tryd.prog.info? 9).map (fun i => (i.zero, i.size, i.bytes)) = some (some (.string ⟨#[]⟩), 1, 16) := by kernel_rfl
theorem own_take0 {w : World} {base e n : Nat} {A : Option Addr} {c : Nat} {xs : List Value} (h : w.ownsRow base e 1 (.slice A n c) n xs) : w.ownsRow base e 1 (.slice A 0 c) 0 [] := by
 obtain ⟨h1, h2⟩ := h
 refine ⟨rfl, ?_⟩
 rcases h2 with ⟨h2, rfl⟩ | ⟨g, cap, cur, h2, hg, hh, hn, hm, hs, ht⟩
 ·exact Or.inl ⟨h2, rfl⟩
 ·simp only [Value.slice.injEq] at h2
  obtain ⟨rfl, _, rfl⟩ := h2
  exact Or.inr ⟨g, c, cur, rfl, hg, hh, Nat.zero_le _, hm, hs, by simp⟩
theorem grow_cut {w1 : World} {B n : Nat} {v1 : Value} {ok : Nat → Prop} (ho : Kd.R Kd.string 9 w1 B ok v1 ([] ++ List.replicate (n : Int).toNat ByteArray.empty)) :
  ∃ A c, v1 = .slice A n c ∧ Hid (w1.ownsRow B 9 1 (.slice A 0 c) 0 []) ∧ ∀ W : World, (Instr.slice 24 (.slice A n c) none (some (.int .i64 0)) none).run Tryd.prog W = .ok (.slice A 0 c) W := by
 obtain ⟨hok, inner, hown, hreps⟩ := ho
 obtain ⟨A, c, rfl⟩ := own_slice hown
 have hlen : ([] ++ List.replicate (n : Int).toNat ByteArray.empty).length = n := by simp
 rw [hlen] at hown ⊢
 have hle : n ≤ c := by
  rcases hown.2 with ⟨h2, h3⟩ | ⟨g, cap, cur, h2, _, _, h3, _⟩
  ·omega
  ·simp only [Value.slice.injEq] at h2
   obtain ⟨_, _, rfl⟩ := h2
   omega
 obtain ⟨i0, hi0, _⟩ := Option.map_eq_some_iff.1 infoStr
 have hcut := cut_to (P := Tryd.prog) 24 9 .i64 Tryd.underlying24 hi0 A n c 0 (by omega) (by omega) hle
 exact ⟨A, c, rfl, Lib.hid (own_take0 hown), hcut⟩
set_option maxHeartbeats 1000000 in
set_option maxRecDepth 100000 in
theorem grow_any (n : Nat) (w : World) (hn : n ≤ 1000000) :
  Calls Tryd.prog 60 #[.slice none 0 0, .int .i64 n] w fun e w' => ∃ v, e = .returned v ∧ Kd.R Kd.string 9 w' w.heap.size (fun _ => True) v [] ∧ Below w.heap.size w w' := by
 rcases Nat.eq_zero_or_pos n with h0 | h0
 ·subst h0
  go_enter Tryd.func60, Tryd.ntmps60
  go_wp2
  go_ret
  exact ⟨_, rfl, Kd.R_nil _ _ _ _ _, Below.refl _ _⟩
 ·go_enter Tryd.func60, Tryd.ntmps60
  go_wp2_with ((with_reducible refine gate_builtin (b := .append) (xs := #[.tmp 20, .tmp 21]) rfl ?_); at_builtin; refine Kd.R_append_zeros Kd.string (w0 := w) w.heap.size rfl (.tmp 20) (.tmp 21) 24 3 9 (.string ⟨#[]⟩) 16 rfl Tryd.underlying24 Tryd.underlying3 infoStr rfl (by decide) (by omega) (.slice none 0 0) [] ByteArray.empty (n : Int) (fun _ => True) rfl rfl rfl (fun _ _ => trivial) (Kd.R_nil _ _ _ _ _) ?a0 (Below.refl _ _) (Nat.le_refl _) ?aL ?_; (case a0 => omega); (case aL => simp; omega); intro v1 w1 ho hb hg hat; obtain ⟨A, c, rfl, HO, hcut⟩ := grow_cut ho; have HB := Lib.hid hb; clear hb ho hg hat)
  go_ret
  exact ⟨_, rfl, ⟨fun _ _ => trivial, [], HO.out, Reps.none _ _⟩, HB.out⟩
theorem rowsC {w : World} {A : Option Addr} {ll : List (List ByteArray)} (h : Kd.C (Kd.slice 9 Kd.string) w A ll.length ll) {k : Nat} (hk : k < ll.length) :
  ∃ ad A' c', A = some ad ∧ ll[k].length ≤ c' ∧ Kd.C Kd.string w A' ll[k].length ll[k] ∧ w.cell? (ad.add k) = some (.slice A' ll[k].length c') := by
 obtain ⟨ad, rfl, hc⟩ := h.2.2 (by omega)
 obtain ⟨cs, hl, ⟨A', c', rfl, hle, hC⟩, hz⟩ := hc k ll[k] (List.getElem?_eq_getElem hk)
 have := hz 0 _ rfl
 rw [show k * (Kd.slice 9 Kd.string).sz + 0 = k from by simp [Kd.slice]] at this
 exact ⟨ad, A', c', rfl, hle, hC, this⟩
theorem flat_take {ll : List (List ByteArray)} {k : Nat} (hk : k < ll.length) : (ll.take (k + 1)).flatten = (ll.take k).flatten ++ ll[k] := by
 rw [List.take_succ_eq_append_getElem hk, List.flatten_append]; simp
theorem flat_len {ll : List (List ByteArray)} (k : Nat) : (ll.take k).flatten.length ≤ ll.flatten.length := by
 have h : (ll.take k ++ ll.drop k).flatten = ll.flatten := by rw [List.take_append_drop]
 rw [← h, List.flatten_append, List.length_append]; omega
set_option maxHeartbeats 4000000 in
set_option maxRecDepth 100000 in
theorem concat_any (A0 : Option Addr) (c0 : Nat) (ll : List (List ByteArray)) (w : World) (hr : Kd.C (Kd.slice 9 Kd.string) w A0 ll.length ll) (h1 : ll.length ≤ 1000) (h2 : ll.flatten.length ≤ 1000000) :
  Calls Tryd.prog 40 #[.slice A0 ll.length c0] w fun e w' => ∃ v, e = .returned v ∧ Kd.R Kd.string 9 w' w.heap.size (fun _ => True) v ll.flatten ∧ Below w.heap.size w w' := by
 have HR := Lib.hid hr
 have HN := Lib.hid (show ∀ k, (ll.take k).flatten.length ≤ 1000000 from fun k => by have := flat_len (ll := ll) k; omega)
 clear hr
 go_enter Tryd.func40, Tryd.ntmps40
 go_wp2_with fail
 go_loop [3, 11] (fun sz i => ∃ k : Nat, k ≤ ll.length ∧ i = .int .i64 k ∧ sz = .int .i64 ((ll.take k).flatten.length : Nat)) (fun _ i => ll.length - (intOf i).toNat)
 case atStart => exact ⟨0, Nat.zero_le _, rfl, rfl⟩
 case round =>
  obtain ⟨k, hk, rfl, rfl⟩ := hrel
  have hn0 := HN.out k
  by_cases hlt : k < ll.length
  ·have hn1 := HN.out (k + 1)
   obtain ⟨ad, A', c', hA, hle, hC, hcell⟩ := rowsC HR.out hlt
   subst hA
   have hft := congrArg List.length (flat_take hlt)
   rw [List.length_append] at hft
   generalize hL : (ll.take (k + 1)).flatten.length = L1 at hft hn1
   generalize (ll.take k).flatten.length = L0 at *
   generalize ll[k].length = m at *
   have HF := Lib.hid hft
   have HL := Lib.hid hL
   clear hL hft hC
   have hb1 : L0 + m ≤ 1000000 := by have := HF.out; omega
   have HE : Hid (Value.int .i64 ((L0 : Int) + (m : Int)) = Value.int .i64 (((ll.take (k + 1)).flatten.length : Nat) : Int)) := by rw [HL.out, HF.out]; rfl
   go_wp2
   go_round
   case rel => exact ⟨k + 1, by omega, by go_num, HE.out⟩
   case measure => simp [intOf]; omega
  ·obtain rfl : k = ll.length := by omega
   rw [List.take_length] at *
   clear hlt
   generalize hFN : ll.flatten.length = FN at *
   have HFN := Lib.hid hFN
   clear hFN
   go_wp2_with fail
   with_reducible refine (grow_any FN w h2).mono ?_
   rintro e w1 ⟨v1, rfl, ho1, hb1⟩
   have HO1 := Lib.hid ho1
   have HB1 := Lib.hid hb1
   clear ho1 hb1
   go_wp2_with fail
   go_loopw [6, 27] (fun v i wr => ∃ k : Nat, k ≤ ll.length ∧ i = .int .i64 k ∧ Hid (Kd.R Kd.string 9 wr w.heap.size (fun _ => True) v (ll.take k).flatten ∧ Below w.heap.size w wr)) (fun _ i _ => ll.length - (intOf i).toNat)
   case atStart => exact ⟨0, Nat.zero_le _, rfl, Lib.hid ⟨HO1.out, HB1.out⟩⟩
   case round =>
    obtain ⟨k, hk, rfl, hh⟩ := hrel
    by_cases hlt : k < ll.length
    ·obtain ⟨ad, A', c', hA, hle, hC, hcell0⟩ := rowsC HR.out hlt
     subst hA
     have hcell := pw_cell_below hh.out.2 hcell0
     have hb3 : (ll.take k).flatten.length + ll[k].length ≤ 1000000 := by have := HN.out (k + 1); rw [flat_take hlt, List.length_append] at this; exact this
     have HC := Lib.hid (Kd.C_below hC hh.out.2)
     have HF := Lib.hid (flat_take hlt)
     clear hC hcell0 hn0
     generalize (ll.take k).flatten = xs at *
     generalize ll[k] = ys at *
     go_wp2_with ((with_reducible refine gate_builtin (b := .append) (xs := #[.tmp 31, .tmp 32]) rfl ?_); at_builtin; refine Kd.R_append_rows Kd.string (Rr := Kd.string.K wr) (w0 := w) w.heap.size rfl (.tmp 31) (.tmp 32) 24 9 (.string ⟨#[]⟩) 16 rfl Tryd.underlying24 infoStr rfl (by decide) (by omega) _ xs ys A' ys.length c' (fun _ => True) (fun _ => False) rfl rfl hh.out.1 HC.out (fun _ _ h => h) (fun _ h => h.elim) (fun _ _ => trivial) hh.out.2 hh.out.2.size ?aL ?_; (case aL => omega); intro v5 w8 ho hb hg hat; have HN2 := Lib.hid (And.intro ho hb); clear ho hb hg hat)
     go_roundw
     case rel => exact ⟨k + 1, by omega, by go_num, by have := HN2.out; rw [← HF.out] at this; exact this⟩
     case measure => simp [intOf]; omega
    ·obtain rfl : k = ll.length := by omega
     rw [List.take_length] at *
     clear hlt
     go_wp2
     go_ret
     exact ⟨_, rfl, hh.out.1, hh.out.2⟩
def slices_Concat.f (l0 : List (List ByteArray)) : Option (List ByteArray) := if l0.length ≤ 1000 ∧ l0.flatten.length ≤ 1000000 then some l0.flatten else none
theorem slices_Concat.calls (A0 : Option Addr) (c0 : Nat) (l0 : List (List ByteArray)) (r : List ByteArray) (w : World) (hr0 : Kd.C (Kd.slice 9 Kd.string) w A0 l0.length l0) (hc0 : l0.length ≤ c0) (h : slices_Concat.f l0 = some r) :
  Calls Tryd.prog 40 #[.slice A0 l0.length c0] w fun e w' => ∃ v0_ : Value, e = .returned v0_ ∧ Kd.R Kd.string 9 w' w.heap.size (fun _ => True) v0_ r ∧ Below w.heap.size w w' := by
 unfold slices_Concat.f at h
 split at h
 ·rename_i hs
  obtain rfl := Option.some.inj h
  exact concat_any A0 c0 l0 w hr0 hs.1 hs.2
 ·exact absurd h (by simp)
end Go.Proofs.YtfhanoloaejmkaaDoor
end
section

namespace Go.Proofs.YtfhanoloaejmkaaDoor.PB
open Go.RowKit Go.Proofs.YtfhanoloaejmkaaDoorW.PrintWords Go.Proofs.YtfhanoloaejmkaaDoorW.PrintLast Go.Proofs.YtfhanoloaejmkaaDoorW.PrintMore
attribute [local go_sem] max2_int min2_int max_two min_two max_three min_three max_four min_four   -- for this text's walks alone
set_option linter.unusedVariables false
set_option linter.unusedSimpArgs false
def errW : Option Int → Value
 | none => .nilIface
 | some c => .iface 0 (.int .i64 c)
theorem errW_none : errW none = .nilIface := rfl
theorem errW_some (c : Int) : errW (some c) = .iface 0 (.int .i64 c) := rfl
end Go.Proofs.YtfhanoloaejmkaaDoor.PB
end
section

namespace Go.Proofs.YtfhanoloaejmkaaDoor.PB
open Go.RowKit Go.Proofs.YtfhanoloaejmkaaDoorW.PrintWords Go.Proofs.YtfhanoloaejmkaaDoorW.PrintLast Go.Proofs.YtfhanoloaejmkaaDoorW.PrintMore
attribute [local go_sem] max2_int min2_int max_two min_two max_three min_three max_four min_four   -- for this text's walks alone
set_option linter.unusedVariables false
set_option linter.unusedSimpArgs false
def rights_has_string.f (l0 : List ByteArray) (a1 : ByteArray) : Option (Bool) := (rights_place.f l0 a1).bind fun bt101 => (some bt101.2)
set_option maxHeartbeats 8000000 in
set_option maxRecDepth 100000 in
theorem rights_has_string.calls (A0 : Option Addr) (c0 : Nat) (l0 : List ByteArray) (a1 : ByteArray) (r : Bool) (w : World) (hr0 : Kd.C Kd.string w A0 l0.length l0) (hc0 : l0.length ≤ c0) (h : rights_has_string.f l0 a1 = some r) :
  Calls Tryd.prog 38 #[.slice A0 l0.length c0, .string a1] w fun e w' => e = .returned (.bool r) ∧ Below w.heap.size w w' := by
 have HR0 := Aside0.mk hr0
 have HC0 := Aside0.mk hc0
 clear hr0 hc0
 have HB := Aside0.mk (Below.refl w.heap.size w)
 have H : ((rights_place.f l0 a1).bind fun bt101 => (some bt101.2)) = some r := h
 clear h
 replace H := Option.bind_eq_some_iff.mp H
 obtain ⟨⟨t101, t102⟩, A30, H⟩ := H
 replace H : (some t102) = some r := H
 have A3 := Aside0.mk A30
 clear A30
 obtain rfl := Option.some.inj H
 go_enter Tryd.func38, Tryd.ntmps38
 go_wp2_with (first | ((with_reducible refine gate_callee (f := 34) rfl ?_); refine goesL_ (some 10) rfl rfl Tryd.func34 (by kernel_rfl) rfl #[.slice A0 l0.length c0, .string a1] rfl (by (try simp only [List.map_toArray, List.map_cons, List.map_nil]); first | done | rfl | (simp only [List.length_drop, List.length_take]; rfl)) ?_; (with_reducible refine (rights_place.calls _ _ l0 a1 t101 t102 _ ?side1 ?side2 A3.out).mono ?_); (case side1 => repeat (first | exact HR0.out | (with_reducible refine Kd.C_alloc ?_ _) | (with_reducible refine Kd.C_drewN ?_ _) | (with_reducible refine Kd.C_drew ?_))); (case side2 => exact HC0.out); rintro e w4 ⟨rfl, hb⟩; refine ⟨_, rfl, ?_⟩; have n0_ := Aside0.mk (below_step (by repeat (first | (with_reducible first | exact HB.out | apply below_alloc | apply pw_below_drewN | apply below_drew1) | exact HB.out)) hb); clear HB; have HB := n0_; clear n0_; (try clear hb); (try clear hb2); (try clear hk); (try clear hi)))
 go_ret
 exact ⟨by first | rfl | (simp [errW_none, errW_some] <;> rfl) | (simp [*, errW_none, errW_some] <;> rfl), by repeat (first | (with_reducible first | exact HB.out | apply below_alloc | apply pw_below_drewN | apply below_drew1) | exact HB.out)⟩
def rights_rises_string.l0 : Nat → List ByteArray → Int → Int → Option (Bool)
 | 0, _, _, _ => none
 | k + 1, x0, x5, x6 => if x6 < x5 then (if x6 > 0 then (if 0 ≤ (wrap64 (x6 - 1)) then (if (wrap64 (x6 - 1)) < (x0.length : Int) then (if 0 ≤ x6 then (if x6 < (x0.length : Int) then (if ((Op.bytesLess ((rdOf ByteArray.empty x0 (wrap64 (x6 - 1))).toList) ((rdOf ByteArray.empty x0 x6).toList)) = true) then (rights_rises_string.l0 k x0 x5 (wrap64 (x6 + 1))) else (some false)) else (none)) else (none)) else (none)) else (none)) else (rights_rises_string.l0 k x0 x5 (wrap64 (x6 + 1)))) else (some true)
def rights_rises_string.f (k : Nat) (l0 : List ByteArray) : Option (Bool) := rights_rises_string.l0 k l0 (l0.length : Int) 0
set_option maxHeartbeats 8000000 in
set_option maxRecDepth 100000 in
theorem rights_rises_string.calls (k : Nat) (A0 : Option Addr) (c0 : Nat) (l0 : List ByteArray) (r : Bool) (w : World) (hr0 : Kd.C Kd.string w A0 l0.length l0) (hc0 : l0.length ≤ c0) (h : rights_rises_string.f k l0 = some r) :
  Calls Tryd.prog 39 #[.slice A0 l0.length c0] w fun e w' => e = .returned (.bool r) ∧ Drawn0 w w' := by
 have HR0 := Aside0.mk hr0
 have HC0 := Aside0.mk hc0
 clear hr0 hc0
 have H : (rights_rises_string.l0 k l0 (l0.length : Int) 0) = some r := h
 clear h
 have H' := Aside0.mk H
 clear H
 go_enter Tryd.func39, Tryd.ntmps39
 go_wp2
 repeat (go_quiet (fail); try go_wp2)
 go_loopg [6] k (fun kq v6 w' => ∃ (x6_1 : Int), v6 = .int .i64 x6_1 ∧ Aside0 (rights_rises_string.l0 kq l0 (l0.length : Int) x6_1 = some r) ∧ Aside0 (kq ≤ k) ∧ Drawn0 w w')
 case atStart => exact ⟨(0), (by first | rfl | (simp; done) | (simp [*]; done)), H', ⟨Nat.le_refl _⟩, by repeat (first | exact Drawn0.refl _ | apply Drawn0.step)⟩
 case round =>
  clear H'
  obtain ⟨x6_1, rfl, HA, HK1, ⟨m1, rfl⟩⟩ := hrel
  cases gk with
  | zero => exact absurd HA.out (by simp [rights_rises_string.l0])
  | succ k1 =>
   have H := HA.out
   clear HA
   simp only [rights_rises_string.l0] at H
   by_cases c2 : x6_1 < (l0.length : Int)
   ·rw [if_pos c2] at H
    have c2b0 : decide (x6_1 < (l0.length : Int)) = true := decide_eq_true c2
    clear c2
    by_cases c3 : x6_1 > 0
    ·rw [if_pos c3] at H
     have c3b0 : decide (0 < x6_1) = true := decide_eq_true c3
     clear c3
     obtain ⟨ji4, hji4⟩ : ∃ j_ : Int, (wrap64 (x6_1 - 1)) = j_ := ⟨_, rfl⟩
     replace H : (if 0 ≤ (ji4) then (if (ji4) < (l0.length : Int) then (if 0 ≤ x6_1 then (if x6_1 < (l0.length : Int) then (if ((Op.bytesLess ((rdOf ByteArray.empty l0 (ji4)).toList) ((rdOf ByteArray.empty l0 x6_1).toList)) = true) then (rights_rises_string.l0 k1 l0 (l0.length : Int) (wrap64 (x6_1 + 1))) else (some false)) else (none)) else (none)) else (none)) else (none)) = some r := by first | (rw [hji4] at H; exact H) | (simp only [hji4] at H ⊢; exact H)
     have hji4w : (IntKind.i64.wrap (x6_1 - 1)) = ji4 := (i64_w _).trans hji4
     by_cases c5 : 0 ≤ (ji4)
     ·rw [if_pos c5] at H
      have c5b0 : decide (0 ≤ (ji4)) = true := decide_eq_true c5
      clear c5
      by_cases c6 : (ji4) < (l0.length : Int)
      ·rw [if_pos c6] at H
       have c6b0 : decide ((ji4) < (l0.length : Int)) = true := decide_eq_true c6
       clear c6
       by_cases c7 : 0 ≤ x6_1
       ·rw [if_pos c7] at H
        have c7b0 : decide (0 ≤ x6_1) = true := decide_eq_true c7
        clear c7
        by_cases c8 : x6_1 < (l0.length : Int)
        ·rw [if_pos c8] at H
         have c8b0 : decide (x6_1 < (l0.length : Int)) = true := decide_eq_true c8
         clear c8
         by_cases c9 : ((Op.bytesLess ((rdOf ByteArray.empty l0 (ji4)).toList) ((rdOf ByteArray.empty l0 x6_1).toList)) = true)
         ·rw [if_pos c9] at H
          have c9b0 : (Op.bytesLess ((rdOf ByteArray.empty l0 (ji4)).toList) ((rdOf ByteArray.empty l0 x6_1).toList)) = true := c9
          clear c9
          have H' := Aside0.mk H
          clear H
          have p103 : 0 ≤ ((ji4) : Int) := of_decide_eq_true (by first | (with_reducible assumption) | assumption)
          have q103 : (ji4) < (l0.length : Int) := of_decide_eq_true (by first | (with_reducible assumption) | assumption)
          obtain ⟨ad103, e103, hx103_0⟩ := Kd.at_string HR0.out (ji4) p103 q103
          cases e103
          replace p103 := eq_true p103
          replace q103 := eq_true q103
          have p104 : 0 ≤ (x6_1 : Int) := of_decide_eq_true (by first | (with_reducible assumption) | assumption)
          have q104 : x6_1 < (l0.length : Int) := of_decide_eq_true (by first | (with_reducible assumption) | assumption)
          obtain ⟨ad104, e104, hx104_0⟩ := Kd.at_string HR0.out x6_1 p104 q104
          obtain rfl : ad103 = ad104 := (by injection e104)
          replace p104 := eq_true p104
          replace q104 := eq_true q104
          go_wp2
          repeat (go_quiet (fail); try go_wp2)
          go_roundg k1
          case measure => have := HK1.out; omega
          case rel => exact ⟨(wrap64 (x6_1 + 1)), (by first | rfl | (simp; done) | (simp [*]; done)), H', ⟨by have := HK1.out; omega⟩, by repeat (first | exact Drawn0.refl _ | apply Drawn0.step)⟩
         ·rw [if_neg c9] at H
          have c9b0 : (Op.bytesLess ((rdOf ByteArray.empty l0 (ji4)).toList) ((rdOf ByteArray.empty l0 x6_1).toList)) = false := by simpa using c9
          clear c9
          obtain rfl := Option.some.inj H
          have p103 : 0 ≤ ((ji4) : Int) := of_decide_eq_true (by first | (with_reducible assumption) | assumption)
          have q103 : (ji4) < (l0.length : Int) := of_decide_eq_true (by first | (with_reducible assumption) | assumption)
          obtain ⟨ad103, e103, hx103_0⟩ := Kd.at_string HR0.out (ji4) p103 q103
          cases e103
          replace p103 := eq_true p103
          replace q103 := eq_true q103
          have p104 : 0 ≤ (x6_1 : Int) := of_decide_eq_true (by first | (with_reducible assumption) | assumption)
          have q104 : x6_1 < (l0.length : Int) := of_decide_eq_true (by first | (with_reducible assumption) | assumption)
          obtain ⟨ad104, e104, hx104_0⟩ := Kd.at_string HR0.out x6_1 p104 q104
          obtain rfl : ad103 = ad104 := (by injection e104)
          replace p104 := eq_true p104
          replace q104 := eq_true q104
          go_wp2
          repeat (go_quiet (fail); try go_wp2)
          go_ret
          exact ⟨by first | rfl | (simp; done) | (simp only [← hji4] <;> (first | rfl | simp)) | (simp [*]; done), by repeat (first | exact Drawn0.refl _ | apply Drawn0.step)⟩
        ·rw [if_neg c8] at H
         exact absurd H (by simp)
       ·rw [if_neg c7] at H
        exact absurd H (by simp)
      ·rw [if_neg c6] at H
       exact absurd H (by simp)
     ·rw [if_neg c5] at H
      exact absurd H (by simp)
    ·rw [if_neg c3] at H
     have c3b0 : decide (0 < x6_1) = false := decide_eq_false c3
     clear c3
     have H' := Aside0.mk H
     clear H
     go_wp2
     repeat (go_quiet (fail); try go_wp2)
     go_roundg k1
     case measure => have := HK1.out; omega
     case rel => exact ⟨(wrap64 (x6_1 + 1)), (by first | rfl | (simp; done) | (simp [*]; done)), H', ⟨by have := HK1.out; omega⟩, by repeat (first | exact Drawn0.refl _ | apply Drawn0.step)⟩
   ·rw [if_neg c2] at H
    have c2b0 : decide (x6_1 < (l0.length : Int)) = false := decide_eq_false c2
    clear c2
    obtain rfl := Option.some.inj H
    go_wp2
    repeat (go_quiet (fail); try go_wp2)
    go_ret
    exact ⟨by first | rfl | (simp; done) | (simp [*]; done), by repeat (first | exact Drawn0.refl _ | apply Drawn0.step)⟩
end Go.Proofs.YtfhanoloaejmkaaDoor.PB
end
section

namespace Go.Proofs.YtfhanoloaejmkaaDoor.PA
open Go.RowKit Go.Proofs.YtfhanoloaejmkaaDoorW.PrintWords Go.Proofs.YtfhanoloaejmkaaDoorW.PrintLast Go.Proofs.YtfhanoloaejmkaaDoorW.PrintMore
attribute [local go_sem] max2_int min2_int max_two min_two max_three min_three max_four min_four   -- for this text's walks alone
set_option linter.unusedVariables false
set_option linter.unusedSimpArgs false
def errW : Option Int → Value
 | none => .nilIface
 | some c => .iface 0 (.int .i64 c)
theorem errW_none : errW none = .nilIface := rfl
theorem errW_some (c : Int) : errW (some c) = .iface 0 (.int .i64 c) := rfl
theorem info5 : (Tryd.prog.info? 5).map (fun i => (i.zero, i.size, i.bytes)) = some (some (.int .u8 0), 1, 1) := by kernel_rfl
theorem info9 : (Tryd.prog.info? 9).map (fun i => (i.zero, i.size, i.bytes)) = some (some (.string ⟨#[]⟩), 1, 16) := by kernel_rfl
theorem info21 : (Tryd.prog.info? 21).map (fun i => (i.zero, i.size, i.bytes)) = some (some (.int .i32 0), 1, 4) := by kernel_rfl
end Go.Proofs.YtfhanoloaejmkaaDoor.PA
end
section

namespace Go.Proofs.YtfhanoloaejmkaaDoor.PA
open Go.RowKit Go.Proofs.YtfhanoloaejmkaaDoorW.PrintWords Go.Proofs.YtfhanoloaejmkaaDoorW.PrintLast Go.Proofs.YtfhanoloaejmkaaDoorW.PrintMore
attribute [local go_sem] max2_int min2_int max_two min_two max_three min_three max_four min_four   -- for this text's walks alone
set_option linter.unusedVariables false
set_option linter.unusedSimpArgs false
mutual
def letterlockref2_Take.j0 : Nat → ByteArray → Bool → Option (Int × ByteArray × Int)
 | 0, _, _ => none
 | k + 1, x0, x33 => if x33 = true then (some (0, (⟨#[]⟩ : ByteArray), 2)) else (if 0 < (x0.size : Int) then (letterlockref2_Take.l0 k x0 0 (wrap64 (1 + (wrap64 (bt x0 0)))) 1) else (none))
def letterlockref2_Take.l0 : Nat → ByteArray → Int → Int → Int → Option (Int × ByteArray × Int)
 | 0, _, _, _, _ => none
 | k + 1, x0, x5, x6, x7 => if x7 < x6 then (if 0 ≤ x7 then (if x7 < (x0.size : Int) then (letterlockref2_Take.l0 k x0 (IntKind.u64.wrap ((IntKind.u64.wrap (256 * x5)) + (IntKind.u64.wrap (bt x0 x7)))) x6 (wrap64 (x7 + 1))) else (none)) else (none)) else (if 0 ≤ x6 then (if x6 ≤ (x0.size : Int) then (some (x5, x0.extract (x6 : Int).toNat x0.size, 0)) else (none)) else (none))
end
def letterlockref2_Take.f (k : Nat) (a0 : ByteArray) : Option (Int × ByteArray × Int) := if a0.toList = ([] : List UInt8) then (letterlockref2_Take.j0 k a0 true) else (if 0 < (a0.size : Int) then (if (bt a0 0) > 8 then (letterlockref2_Take.j0 k a0 true) else (if (a0.size : Int) < (wrap64 (1 + (wrap64 (bt a0 0)))) then (letterlockref2_Take.j0 k a0 true) else (if (bt a0 0) > 0 then (if 1 < (a0.size : Int) then (letterlockref2_Take.j0 k a0 ((bt a0 1) == 0)) else (none)) else (letterlockref2_Take.j0 k a0 false)))) else (none))
set_option maxHeartbeats 8000000 in
set_option maxRecDepth 100000 in
theorem letterlockref2_Take.calls (k : Nat) (a0 : ByteArray) (r1 : Int) (r2 : ByteArray) (r3 : Int) (w : World) (h : letterlockref2_Take.f k a0 = some (r1, r2, r3)) :
  Calls Tryd.prog 54 #[.string a0] w fun e w' => e = .returned (.tuple #[.int .u64 r1, .string r2, .int .i64 r3]) ∧ Drawn0 w w' := by
 have H : (if a0.toList = ([] : List UInt8) then (letterlockref2_Take.j0 k a0 true) else (if 0 < (a0.size : Int) then (if (bt a0 0) > 8 then (letterlockref2_Take.j0 k a0 true) else (if (a0.size : Int) < (wrap64 (1 + (wrap64 (bt a0 0)))) then (letterlockref2_Take.j0 k a0 true) else (if (bt a0 0) > 0 then (if 1 < (a0.size : Int) then (letterlockref2_Take.j0 k a0 ((bt a0 1) == 0)) else (none)) else (letterlockref2_Take.j0 k a0 false)))) else (none))) = some (r1, r2, r3) := h
 clear h
 have HC2 := Aside0.mk H
 clear H
 go_enter Tryd.func54, Tryd.ntmps54
 go_upto_region 1 with (fail)
 repeat (go_quiet (fail); go_upto_region 1 with (fail))
 go_cut [33] (fun v33 wc => ∃ (kq : Nat) (x33_1 : Bool), v33 = .bool x33_1 ∧ Aside0 (letterlockref2_Take.j0 kq a0 x33_1 = some (r1, r2, r3)) ∧ Aside0 (kq ≤ k) ∧ Drawn0 w wc)
 case first =>
  have H := HC2.out
  clear HC2
  by_cases c3 : a0.toList = ([] : List UInt8)
  ·rw [if_pos c3] at H
   have c3b0 : (a0.toList == ([] : List UInt8)) = true := beq_iff_eq.mpr c3
   have c3b1 : (a0.toList != ([] : List UInt8)) = false := bne_eq_false_iff_eq.mpr c3
   clear c3
   (first | rw [c3b0] | (simp only [i64_w, i32_w]; rw [c3b0]) | skip)
   have H' := Aside0.mk H
   clear H
   go_wp2
   repeat (go_quiet (fail); try go_wp2)
   go_meet
   case rel => exact ⟨_, (true), (by first | rfl | (simp; done) | (simp [*]; done)), H', ⟨by first | omega | exact Nat.le_refl _⟩, by repeat (first | exact Drawn0.refl _ | apply Drawn0.step)⟩
  ·rw [if_neg c3] at H
   have c3b0 : (a0.toList == ([] : List UInt8)) = false := beq_eq_false_iff_ne.mpr c3
   have c3b1 : (a0.toList != ([] : List UInt8)) = true := bne_iff_ne.mpr c3
   (first | rw [c3b0] | (simp only [i64_w, i32_w]; rw [c3b0]) | skip)
   by_cases c4 : 0 < (a0.size : Int)
   ·rw [if_pos c4] at H
    have c4b0 : decide (0 < (a0.size : Int)) = true := decide_eq_true c4
    have c4b1 : decide (0 < a0.size) = true := decide_eq_true (by omega)
    clear c4
    by_cases c6 : (bt a0 0) > 8
    ·rw [if_pos c6] at H
     have c6b0 : decide (8 < (bt a0 0)) = true := decide_eq_true c6
     clear c6
     have H' := Aside0.mk H
     clear H
     have p5 : 0 ≤ (0 : Int) := (by omega)
     have q5 : 0 < a0.size := (by have : (0 : Int) < (a0.size : Int) := of_decide_eq_true (by first | (with_reducible assumption) | assumption); omega)
     have hx5 : ∀ h : 0 < a0.size, ((a0[0]'h).toNat : Int) = bt a0 0 := bt_at a0 0
     clear p5
     have qi5 : (0 < (a0.size : Int)) = True := eq_true (of_decide_eq_true (by first | (with_reducible assumption) | assumption))
     replace q5 := eq_true q5
     go_wp2
     repeat (go_quiet (fail); try go_wp2)
     go_meet
     case rel => exact ⟨_, (true), (by first | rfl | (simp; done) | (simp [*]; done)), H', ⟨by first | omega | exact Nat.le_refl _⟩, by repeat (first | exact Drawn0.refl _ | apply Drawn0.step)⟩
    ·rw [if_neg c6] at H
     have c6b0 : decide (8 < (bt a0 0)) = false := decide_eq_false c6
     clear c6
     by_cases c8 : (a0.size : Int) < (wrap64 (1 + (wrap64 (bt a0 0))))
     ·rw [if_pos c8] at H
      have c8b0 : decide ((a0.size : Int) < (wrap64 (1 + (wrap64 (bt a0 0))))) = true := decide_eq_true c8
      clear c8
      have H' := Aside0.mk H
      clear H
      have p5 : 0 ≤ (0 : Int) := (by omega)
      have q5 : 0 < a0.size := (by have : (0 : Int) < (a0.size : Int) := of_decide_eq_true (by first | (with_reducible assumption) | assumption); omega)
      have hx5 : ∀ h : 0 < a0.size, ((a0[0]'h).toNat : Int) = bt a0 0 := bt_at a0 0
      clear p5
      have qi5 : (0 < (a0.size : Int)) = True := eq_true (of_decide_eq_true (by first | (with_reducible assumption) | assumption))
      replace q5 := eq_true q5
      have p7 : 0 ≤ (0 : Int) := (by omega)
      have q7 : 0 < a0.size := (by have : (0 : Int) < (a0.size : Int) := of_decide_eq_true (by first | (with_reducible assumption) | assumption); omega)
      have hx7 : ∀ h : 0 < a0.size, ((a0[0]'h).toNat : Int) = bt a0 0 := bt_at a0 0
      clear p7
      have qi7 : (0 < (a0.size : Int)) = True := eq_true (of_decide_eq_true (by first | (with_reducible assumption) | assumption))
      replace q7 := eq_true q7
      go_wp2
      repeat (go_quiet (fail); try go_wp2)
      go_meet
      case rel => exact ⟨_, (true), (by first | rfl | (simp; done) | (simp [*]; done)), H', ⟨by first | omega | exact Nat.le_refl _⟩, by repeat (first | exact Drawn0.refl _ | apply Drawn0.step)⟩
     ·rw [if_neg c8] at H
      have c8b0 : decide ((a0.size : Int) < (wrap64 (1 + (wrap64 (bt a0 0))))) = false := decide_eq_false c8
      clear c8
      by_cases c10 : (bt a0 0) > 0
      ·rw [if_pos c10] at H
       have c10b0 : decide (0 < (bt a0 0)) = true := decide_eq_true c10
       clear c10
       by_cases c11 : 1 < (a0.size : Int)
       ·rw [if_pos c11] at H
        have c11b0 : decide (1 < (a0.size : Int)) = true := decide_eq_true c11
        have c11b1 : decide (1 < a0.size) = true := decide_eq_true (by omega)
        clear c11
        have H' := Aside0.mk H
        clear H
        have p5 : 0 ≤ (0 : Int) := (by omega)
        have q5 : 0 < a0.size := (by have : (0 : Int) < (a0.size : Int) := of_decide_eq_true (by first | (with_reducible assumption) | assumption); omega)
        have hx5 : ∀ h : 0 < a0.size, ((a0[0]'h).toNat : Int) = bt a0 0 := bt_at a0 0
        clear p5
        have qi5 : (0 < (a0.size : Int)) = True := eq_true (of_decide_eq_true (by first | (with_reducible assumption) | assumption))
        replace q5 := eq_true q5
        have p7 : 0 ≤ (0 : Int) := (by omega)
        have q7 : 0 < a0.size := (by have : (0 : Int) < (a0.size : Int) := of_decide_eq_true (by first | (with_reducible assumption) | assumption); omega)
        have hx7 : ∀ h : 0 < a0.size, ((a0[0]'h).toNat : Int) = bt a0 0 := bt_at a0 0
        clear p7
        have qi7 : (0 < (a0.size : Int)) = True := eq_true (of_decide_eq_true (by first | (with_reducible assumption) | assumption))
        replace q7 := eq_true q7
        have p9 : 0 ≤ (0 : Int) := (by omega)
        have q9 : 0 < a0.size := (by have : (0 : Int) < (a0.size : Int) := of_decide_eq_true (by first | (with_reducible assumption) | assumption); omega)
        have hx9 : ∀ h : 0 < a0.size, ((a0[0]'h).toNat : Int) = bt a0 0 := bt_at a0 0
        clear p9
        have qi9 : (0 < (a0.size : Int)) = True := eq_true (of_decide_eq_true (by first | (with_reducible assumption) | assumption))
        replace q9 := eq_true q9
        have p12 : 0 ≤ (1 : Int) := (by omega)
        have q12 : 1 < a0.size := (by have : (1 : Int) < (a0.size : Int) := of_decide_eq_true (by first | (with_reducible assumption) | assumption); omega)
        have hx12 : ∀ h : 1 < a0.size, ((a0[1]'h).toNat : Int) = bt a0 1 := bt_at a0 1
        clear p12
        have qi12 : (1 < (a0.size : Int)) = True := eq_true (of_decide_eq_true (by first | (with_reducible assumption) | assumption))
        replace q12 := eq_true q12
        go_wp2
        repeat (go_quiet (fail); try go_wp2)
        go_meet
        case rel => exact ⟨_, (((bt a0 1) == 0)), (by first | rfl | (simp; done) | (simp [*]; done)), H', ⟨by first | omega | exact Nat.le_refl _⟩, by repeat (first | exact Drawn0.refl _ | apply Drawn0.step)⟩
       ·rw [if_neg c11] at H
        exact absurd H (by simp)
      ·rw [if_neg c10] at H
       have c10b0 : decide (0 < (bt a0 0)) = false := decide_eq_false c10
       clear c10
       have H' := Aside0.mk H
       clear H
       have p5 : 0 ≤ (0 : Int) := (by omega)
       have q5 : 0 < a0.size := (by have : (0 : Int) < (a0.size : Int) := of_decide_eq_true (by first | (with_reducible assumption) | assumption); omega)
       have hx5 : ∀ h : 0 < a0.size, ((a0[0]'h).toNat : Int) = bt a0 0 := bt_at a0 0
       clear p5
       have qi5 : (0 < (a0.size : Int)) = True := eq_true (of_decide_eq_true (by first | (with_reducible assumption) | assumption))
       replace q5 := eq_true q5
       have p7 : 0 ≤ (0 : Int) := (by omega)
       have q7 : 0 < a0.size := (by have : (0 : Int) < (a0.size : Int) := of_decide_eq_true (by first | (with_reducible assumption) | assumption); omega)
       have hx7 : ∀ h : 0 < a0.size, ((a0[0]'h).toNat : Int) = bt a0 0 := bt_at a0 0
       clear p7
       have qi7 : (0 < (a0.size : Int)) = True := eq_true (of_decide_eq_true (by first | (with_reducible assumption) | assumption))
       replace q7 := eq_true q7
       have p9 : 0 ≤ (0 : Int) := (by omega)
       have q9 : 0 < a0.size := (by have : (0 : Int) < (a0.size : Int) := of_decide_eq_true (by first | (with_reducible assumption) | assumption); omega)
       have hx9 : ∀ h : 0 < a0.size, ((a0[0]'h).toNat : Int) = bt a0 0 := bt_at a0 0
       clear p9
       have qi9 : (0 < (a0.size : Int)) = True := eq_true (of_decide_eq_true (by first | (with_reducible assumption) | assumption))
       replace q9 := eq_true q9
       go_wp2
       repeat (go_quiet (fail); try go_wp2)
       go_meet
       case rel => exact ⟨_, (false), (by first | rfl | (simp; done) | (simp [*]; done)), H', ⟨by first | omega | exact Nat.le_refl _⟩, by repeat (first | exact Drawn0.refl _ | apply Drawn0.step)⟩
   ·rw [if_neg c4] at H
    exact absurd H (by simp)
 case rest =>
  clear HC2
  try clear c1
  try clear p1
  try clear q1
  try clear hx1
  try clear qi1
  try clear p2
  try clear c3
  try clear c3b0
  try clear c3b1
  try clear c4
  try clear c4b0
  try clear c4b1
  try clear c5
  try clear p5
  try clear q5
  try clear hx5
  try clear qi5
  try clear c6
  try clear c6b0
  try clear p6
  try clear p7
  try clear q7
  try clear hx7
  try clear qi7
  try clear c8
  try clear c8b0
  try clear p9
  try clear q9
  try clear hx9
  try clear qi9
  try clear c10
  try clear c10b0
  try clear c11
  try clear c11b0
  try clear c11b1
  try clear p12
  try clear q12
  try clear hx12
  try clear qi12
  try clear p12
  try clear p5
  try clear p7
  try clear p9
  try clear q12
  try clear q5
  try clear q7
  try clear q9
  obtain ⟨kq, x33_1, rfl, HA, HJ1, ⟨mc1, rfl⟩⟩ := hcut
  cases kq with
  | zero => exact absurd HA.out (by simp [letterlockref2_Take.j0])
  | succ kj1 =>
   have H := HA.out
   clear HA
   simp only [letterlockref2_Take.j0] at H
   by_cases c13 : x33_1 = true
   ·subst c13
    have H1 : (some (0, (⟨#[]⟩ : ByteArray), 2)) = some (r1, r2, r3) := by rw [if_pos rfl] at H; exact H
    clear H
    have H := H1
    clear H1
    simp only [Option.some.injEq, Prod.mk.injEq] at H
    obtain ⟨rfl, rfl, rfl⟩ := H
    go_wp2
    repeat (go_quiet (fail); try go_wp2)
    go_ret3
    exact ⟨by first | rfl | (simp; done) | (simp [*]; done), by repeat (first | exact Drawn0.refl _ | apply Drawn0.step)⟩
   ·replace c13 := Bool.eq_false_iff.mpr c13
    subst c13
    have H1 : (if 0 < (a0.size : Int) then (letterlockref2_Take.l0 kj1 a0 0 (wrap64 (1 + (wrap64 (bt a0 0)))) 1) else (none)) = some (r1, r2, r3) := by rw [if_neg (show ¬ (false = true) by decide)] at H; exact H
    clear H
    have H := H1
    clear H1
    by_cases c14 : 0 < (a0.size : Int)
    ·rw [if_pos c14] at H
     have c14b0 : decide (0 < (a0.size : Int)) = true := decide_eq_true c14
     have c14b1 : decide (0 < a0.size) = true := decide_eq_true (by omega)
     clear c14
     have H' := Aside0.mk H
     clear H
     have p15 : 0 ≤ (0 : Int) := (by omega)
     have q15 : 0 < a0.size := (by have : (0 : Int) < (a0.size : Int) := of_decide_eq_true (by first | (with_reducible assumption) | assumption); omega)
     have hx15 : ∀ h : 0 < a0.size, ((a0[0]'h).toNat : Int) = bt a0 0 := bt_at a0 0
     clear p15
     have qi15 : (0 < (a0.size : Int)) = True := eq_true (of_decide_eq_true (by first | (with_reducible assumption) | assumption))
     replace q15 := eq_true q15
     go_wp2
     repeat (go_quiet (fail); try go_wp2)
     go_loopg [5, 7] kj1 (fun kq v5 v7 w' => ∃ (x5_2 : Int) (x7_2 : Int), v5 = .int .u64 x5_2 ∧ v7 = .int .i64 x7_2 ∧ Aside0 (letterlockref2_Take.l0 kq a0 x5_2 (wrap64 (1 + (wrap64 (bt a0 0)))) x7_2 = some (r1, r2, r3)) ∧ Aside0 (kq ≤ kj1) ∧ Drawn0 w w')
     case atStart => exact ⟨(0), (1), (by first | rfl | (simp; done) | (simp [*]; done)), (by first | rfl | (simp; done) | (simp [*]; done)), H', ⟨Nat.le_refl _⟩, by repeat (first | exact Drawn0.refl _ | apply Drawn0.step)⟩
     case round =>
      clear H'
      try clear c1
      try clear p1
      try clear q1
      try clear hx1
      try clear qi1
      try clear p2
      try clear c3
      try clear c3b0
      try clear c3b1
      try clear c4
      try clear c4b0
      try clear c4b1
      try clear c5
      try clear p5
      try clear q5
      try clear hx5
      try clear qi5
      try clear c6
      try clear c6b0
      try clear p6
      try clear p7
      try clear q7
      try clear hx7
      try clear qi7
      try clear c8
      try clear c8b0
      try clear p9
      try clear q9
      try clear hx9
      try clear qi9
      try clear c10
      try clear c10b0
      try clear c11
      try clear c11b0
      try clear c11b1
      try clear p12
      try clear q12
      try clear hx12
      try clear qi12
      try clear c13
      try clear c14
      try clear c14b0
      try clear c14b1
      try clear p15
      try clear q15
      try clear hx15
      try clear qi15
      try clear p1
      try clear p12
      try clear p15
      try clear p2
      try clear p5
      try clear p6
      try clear p7
      try clear p9
      try clear q1
      try clear q12
      try clear q15
      try clear q5
      try clear q7
      try clear q9
      obtain ⟨x5_2, x7_2, rfl, rfl, HA, HK2, ⟨m2, rfl⟩⟩ := hrel
      cases gk with
      | zero => exact absurd HA.out (by simp [letterlockref2_Take.l0])
      | succ k2 =>
       have H := HA.out
       clear HA
       simp only [letterlockref2_Take.l0] at H
       by_cases c16 : x7_2 < (wrap64 (1 + (wrap64 (bt a0 0))))
       ·rw [if_pos c16] at H
        have c16b0 : decide (x7_2 < (wrap64 (1 + (wrap64 (bt a0 0))))) = true := decide_eq_true c16
        clear c16
        by_cases c17 : 0 ≤ x7_2
        ·rw [if_pos c17] at H
         have c17b0 : decide (0 ≤ x7_2) = true := decide_eq_true c17
         clear c17
         by_cases c18 : x7_2 < (a0.size : Int)
         ·rw [if_pos c18] at H
          have c18b0 : decide (x7_2 < (a0.size : Int)) = true := decide_eq_true c18
          clear c18
          have H' := Aside0.mk H
          clear H
          have p19 : 0 ≤ (x7_2 : Int) := of_decide_eq_true (by first | (with_reducible assumption) | assumption)
          have q19 : x7_2 < (a0.size : Int) := of_decide_eq_true (by first | (with_reducible assumption) | assumption)
          have hx19 := bt_at a0 x7_2
          replace p19 := eq_true p19
          replace q19 := eq_true q19
          go_wp2
          repeat (go_quiet (fail); try go_wp2)
          go_roundg k2
          case measure => have := HJ1.out; have := HK2.out; omega
          case rel => exact ⟨(IntKind.u64.wrap ((IntKind.u64.wrap (256 * x5_2)) + (IntKind.u64.wrap (bt a0 x7_2)))), (wrap64 (x7_2 + 1)), (by first | rfl | (simp; done) | (simp [*]; done)), (by first | rfl | (simp; done) | (simp [*]; done)), H', ⟨by have := HJ1.out; have := HK2.out; omega⟩, by repeat (first | exact Drawn0.refl _ | apply Drawn0.step)⟩
         ·rw [if_neg c18] at H
          exact absurd H (by simp)
        ·rw [if_neg c17] at H
         exact absurd H (by simp)
       ·rw [if_neg c16] at H
        have c16b0 : decide (x7_2 < (wrap64 (1 + (wrap64 (bt a0 0))))) = false := decide_eq_false c16
        clear c16
        obtain ⟨ji20, hji20⟩ : ∃ j_ : Int, (wrap64 (1 + (wrap64 (bt a0 0)))) = j_ := ⟨_, rfl⟩
        replace H : (if 0 ≤ (ji20) then (if (ji20) ≤ (a0.size : Int) then (some (x5_2, a0.extract ((ji20) : Int).toNat a0.size, 0)) else (none)) else (none)) = some (r1, r2, r3) := by first | (rw [hji20] at H; exact H) | (simp only [hji20] at H ⊢; exact H)
        (try rw [hji20] at c16b0)
        have hji20w : (IntKind.i64.wrap (1 + (wrap64 (bt a0 0)))) = ji20 := (i64_w _).trans hji20
        by_cases c21 : 0 ≤ (ji20)
        ·rw [if_pos c21] at H
         have c21b0 := eq_true c21
         have c21b1 : decide (0 ≤ (ji20)) = true := decide_eq_true c21
         clear c21
         by_cases c22 : (ji20) ≤ (a0.size : Int)
         ·rw [if_pos c22] at H
          have c22b0 := eq_true c22
          have c22b1 : decide ((ji20) ≤ (a0.size : Int)) = true := decide_eq_true c22
          clear c22
          simp only [Option.some.injEq, Prod.mk.injEq] at H
          obtain ⟨rfl, rfl, rfl⟩ := H
          go_wp2
          repeat (go_quiet (fail); try go_wp2)
          go_ret3
          exact ⟨by first | rfl | (simp; done) | (simp only [← hji20] <;> (first | rfl | simp)) | (simp [*]; done), by repeat (first | exact Drawn0.refl _ | apply Drawn0.step)⟩
         ·rw [if_neg c22] at H
          exact absurd H (by simp)
        ·rw [if_neg c21] at H
         exact absurd H (by simp)
    ·rw [if_neg c14] at H
     exact absurd H (by simp)
def letterlockref2_TakeText.f (k : Nat) (a0 : ByteArray) (a1 : Int) : Option (ByteArray × ByteArray × Int) := (letterlockref2_Take.f k a0).bind fun bt144 => (if bt144.2.2 = 0 then (if bt144.1 > (IntKind.u64.wrap (mx a1 0)) then (some ((⟨#[]⟩ : ByteArray), (⟨#[]⟩ : ByteArray), 10)) else (if bt144.1 > (IntKind.u64.wrap ((bt144.2.1.size : Int))) then (some ((⟨#[]⟩ : ByteArray), (⟨#[]⟩ : ByteArray), 2)) else (if 0 ≤ bt144.1 then (if bt144.1 ≤ (bt144.2.1.size : Int) then (some (bt144.2.1.extract 0 (bt144.1 : Int).toNat, bt144.2.1.extract (bt144.1 : Int).toNat bt144.2.1.size, 0)) else (none)) else (none)))) else (some ((⟨#[]⟩ : ByteArray), (⟨#[]⟩ : ByteArray), bt144.2.2)))
set_option maxHeartbeats 8000000 in
set_option maxRecDepth 100000 in
theorem letterlockref2_TakeText.calls (k : Nat) (a0 : ByteArray) (a1 : Int) (r1 : ByteArray) (r2 : ByteArray) (r3 : Int) (w : World) (h : letterlockref2_TakeText.f k a0 a1 = some (r1, r2, r3)) :
  Calls Tryd.prog 72 #[.string a0, .int .i64 a1] w fun e w' => e = .returned (.tuple #[.string r1, .string r2, .int .i64 r3]) ∧ Below w.heap.size w w' := by
 have HB := Aside0.mk (Below.refl w.heap.size w)
 have H : ((letterlockref2_Take.f k a0).bind fun bt144 => (if bt144.2.2 = 0 then (if bt144.1 > (IntKind.u64.wrap (mx a1 0)) then (some ((⟨#[]⟩ : ByteArray), (⟨#[]⟩ : ByteArray), 10)) else (if bt144.1 > (IntKind.u64.wrap ((bt144.2.1.size : Int))) then (some ((⟨#[]⟩ : ByteArray), (⟨#[]⟩ : ByteArray), 2)) else (if 0 ≤ bt144.1 then (if bt144.1 ≤ (bt144.2.1.size : Int) then (some (bt144.2.1.extract 0 (bt144.1 : Int).toNat, bt144.2.1.extract (bt144.1 : Int).toNat bt144.2.1.size, 0)) else (none)) else (none)))) else (some ((⟨#[]⟩ : ByteArray), (⟨#[]⟩ : ByteArray), bt144.2.2)))) = some (r1, r2, r3) := h
 clear h
 replace H := Option.bind_eq_some_iff.mp H
 obtain ⟨⟨t144, t145, t146⟩, A30, H⟩ := H
 replace H : (if t146 = 0 then (if t144 > (IntKind.u64.wrap (mx a1 0)) then (some ((⟨#[]⟩ : ByteArray), (⟨#[]⟩ : ByteArray), 10)) else (if t144 > (IntKind.u64.wrap ((t145.size : Int))) then (some ((⟨#[]⟩ : ByteArray), (⟨#[]⟩ : ByteArray), 2)) else (if 0 ≤ t144 then (if t144 ≤ (t145.size : Int) then (some (t145.extract 0 (t144 : Int).toNat, t145.extract (t144 : Int).toNat t145.size, 0)) else (none)) else (none)))) else (some ((⟨#[]⟩ : ByteArray), (⟨#[]⟩ : ByteArray), t146))) = some (r1, r2, r3) := H
 have A3 := Aside0.mk A30
 clear A30
 by_cases c4 : t146 = 0
 ·rw [if_pos c4] at H
  have c4b0 : (t146 == 0) = true := beq_iff_eq.mpr c4
  have c4b1 : (t146 != 0) = false := bne_eq_false_iff_eq.mpr c4
  clear c4
  obtain ⟨ji5, hji5⟩ : ∃ j_ : Int, (mx a1 0) = j_ := ⟨_, rfl⟩
  replace H : (if t144 > (IntKind.u64.wrap (ji5)) then (some ((⟨#[]⟩ : ByteArray), (⟨#[]⟩ : ByteArray), 10)) else (if t144 > (IntKind.u64.wrap ((t145.size : Int))) then (some ((⟨#[]⟩ : ByteArray), (⟨#[]⟩ : ByteArray), 2)) else (if 0 ≤ t144 then (if t144 ≤ (t145.size : Int) then (some (t145.extract 0 (t144 : Int).toNat, t145.extract (t144 : Int).toNat t145.size, 0)) else (none)) else (none)))) = some (r1, r2, r3) := by first | (rw [hji5] at H; exact H) | (simp only [hji5] at H ⊢; exact H)
  (try rw [hji5] at A3)
  (try (have hji5l : 0 ≤ ji5 := by (rw [← hji5]; unfold mx; (repeat' split) <;> omega)))
  (try (have hji5m : 0 ≤ ji5 := by omega))
  have hji5_ : (if a1 < 0 then 0 else a1) = ji5 := hji5
  by_cases c6 : t144 > (IntKind.u64.wrap (ji5))
  ·rw [if_pos c6] at H
   have c6b0 : decide ((IntKind.u64.wrap (ji5)) < t144) = true := decide_eq_true c6
   clear c6
   simp only [Option.some.injEq, Prod.mk.injEq] at H
   obtain ⟨rfl, rfl, rfl⟩ := H
   go_enter Tryd.func72, Tryd.ntmps72
   go_wp2_with (first | (go_at_call 54; (with_reducible refine (letterlockref2_Take.calls k a0 t144 t145 t146 _ A3.out).mono ?_); rintro e w' ⟨rfl, ⟨nd, rfl⟩⟩; (try first | exact ⟨rfl, _, World.drewN_drewN _ _ _⟩ | exact ⟨rfl, _, Eq.trans (World.drewN_drewN _ _ _) (congrArg (World.drewN _) (Nat.add_assoc _ _ _))⟩)))
   repeat (go_quiet (first | (go_at_call 54; (with_reducible refine (letterlockref2_Take.calls k a0 t144 t145 t146 _ A3.out).mono ?_); rintro e w' ⟨rfl, ⟨nd, rfl⟩⟩; (try first | exact ⟨rfl, _, World.drewN_drewN _ _ _⟩ | exact ⟨rfl, _, Eq.trans (World.drewN_drewN _ _ _) (congrArg (World.drewN _) (Nat.add_assoc _ _ _))⟩))); try go_wp2_with (first | (go_at_call 54; (with_reducible refine (letterlockref2_Take.calls k a0 t144 t145 t146 _ A3.out).mono ?_); rintro e w' ⟨rfl, ⟨nd, rfl⟩⟩; (try first | exact ⟨rfl, _, World.drewN_drewN _ _ _⟩ | exact ⟨rfl, _, Eq.trans (World.drewN_drewN _ _ _) (congrArg (World.drewN _) (Nat.add_assoc _ _ _))⟩))))
   go_ret3
   exact ⟨by first | rfl | (simp [errW_none, errW_some] <;> rfl) | (simp only [← hji5]; first | rfl | (simp [errW_none, errW_some] <;> rfl)) | (simp [*, errW_none, errW_some] <;> rfl), by repeat (first | (with_reducible first | exact HB.out | apply below_alloc | apply pw_below_drewN | apply below_drew1) | exact HB.out)⟩
  ·rw [if_neg c6] at H
   have c6b0 : decide ((IntKind.u64.wrap (ji5)) < t144) = false := decide_eq_false c6
   clear c6
   by_cases c7 : t144 > (IntKind.u64.wrap ((t145.size : Int)))
   ·rw [if_pos c7] at H
    have c7b0 : decide ((IntKind.u64.wrap ((t145.size : Int))) < t144) = true := decide_eq_true c7
    clear c7
    simp only [Option.some.injEq, Prod.mk.injEq] at H
    obtain ⟨rfl, rfl, rfl⟩ := H
    go_enter Tryd.func72, Tryd.ntmps72
    go_wp2_with (first | (go_at_call 54; (with_reducible refine (letterlockref2_Take.calls k a0 t144 t145 t146 _ A3.out).mono ?_); rintro e w' ⟨rfl, ⟨nd, rfl⟩⟩; (try first | exact ⟨rfl, _, World.drewN_drewN _ _ _⟩ | exact ⟨rfl, _, Eq.trans (World.drewN_drewN _ _ _) (congrArg (World.drewN _) (Nat.add_assoc _ _ _))⟩)))
    repeat (go_quiet (first | (go_at_call 54; (with_reducible refine (letterlockref2_Take.calls k a0 t144 t145 t146 _ A3.out).mono ?_); rintro e w' ⟨rfl, ⟨nd, rfl⟩⟩; (try first | exact ⟨rfl, _, World.drewN_drewN _ _ _⟩ | exact ⟨rfl, _, Eq.trans (World.drewN_drewN _ _ _) (congrArg (World.drewN _) (Nat.add_assoc _ _ _))⟩))); try go_wp2_with (first | (go_at_call 54; (with_reducible refine (letterlockref2_Take.calls k a0 t144 t145 t146 _ A3.out).mono ?_); rintro e w' ⟨rfl, ⟨nd, rfl⟩⟩; (try first | exact ⟨rfl, _, World.drewN_drewN _ _ _⟩ | exact ⟨rfl, _, Eq.trans (World.drewN_drewN _ _ _) (congrArg (World.drewN _) (Nat.add_assoc _ _ _))⟩))))
    go_ret3
    exact ⟨by first | rfl | (simp [errW_none, errW_some] <;> rfl) | (simp only [← hji5]; first | rfl | (simp [errW_none, errW_some] <;> rfl)) | (simp [*, errW_none, errW_some] <;> rfl), by repeat (first | (with_reducible first | exact HB.out | apply below_alloc | apply pw_below_drewN | apply below_drew1) | exact HB.out)⟩
   ·rw [if_neg c7] at H
    have c7b0 : decide ((IntKind.u64.wrap ((t145.size : Int))) < t144) = false := decide_eq_false c7
    clear c7
    by_cases c8 : 0 ≤ t144
    ·rw [if_pos c8] at H
     have c8b0 := eq_true c8
     have c8b1 : decide (0 ≤ t144) = true := decide_eq_true c8
     clear c8
     by_cases c9 : t144 ≤ (t145.size : Int)
     ·rw [if_pos c9] at H
      have c9b0 := eq_true c9
      have c9b1 : decide (t144 ≤ (t145.size : Int)) = true := decide_eq_true c9
      clear c9
      have c10b0 := eq_true (of_decide_eq_true (by first | (with_reducible assumption) | assumption) : 0 ≤ t144)
      have c11b0 := eq_true (of_decide_eq_true (by first | (with_reducible assumption) | assumption) : t144 ≤ (t145.size : Int))
      simp only [Option.some.injEq, Prod.mk.injEq] at H
      obtain ⟨rfl, rfl, rfl⟩ := H
      go_enter Tryd.func72, Tryd.ntmps72
      go_wp2_with (first | (go_at_call 54; (with_reducible refine (letterlockref2_Take.calls k a0 t144 t145 t146 _ A3.out).mono ?_); rintro e w' ⟨rfl, ⟨nd, rfl⟩⟩; (try first | exact ⟨rfl, _, World.drewN_drewN _ _ _⟩ | exact ⟨rfl, _, Eq.trans (World.drewN_drewN _ _ _) (congrArg (World.drewN _) (Nat.add_assoc _ _ _))⟩)))
      repeat (go_quiet (first | (go_at_call 54; (with_reducible refine (letterlockref2_Take.calls k a0 t144 t145 t146 _ A3.out).mono ?_); rintro e w' ⟨rfl, ⟨nd, rfl⟩⟩; (try first | exact ⟨rfl, _, World.drewN_drewN _ _ _⟩ | exact ⟨rfl, _, Eq.trans (World.drewN_drewN _ _ _) (congrArg (World.drewN _) (Nat.add_assoc _ _ _))⟩))); try go_wp2_with (first | (go_at_call 54; (with_reducible refine (letterlockref2_Take.calls k a0 t144 t145 t146 _ A3.out).mono ?_); rintro e w' ⟨rfl, ⟨nd, rfl⟩⟩; (try first | exact ⟨rfl, _, World.drewN_drewN _ _ _⟩ | exact ⟨rfl, _, Eq.trans (World.drewN_drewN _ _ _) (congrArg (World.drewN _) (Nat.add_assoc _ _ _))⟩))))
      go_ret3
      exact ⟨by first | rfl | (simp [errW_none, errW_some] <;> rfl) | (simp only [← hji5]; first | rfl | (simp [errW_none, errW_some] <;> rfl)) | (simp [*, errW_none, errW_some] <;> rfl), by repeat (first | (with_reducible first | exact HB.out | apply below_alloc | apply pw_below_drewN | apply below_drew1) | exact HB.out)⟩
     ·rw [if_neg c9] at H
      exact absurd H (by simp)
    ·rw [if_neg c8] at H
     exact absurd H (by simp)
 ·rw [if_neg c4] at H
  have c4b0 : (t146 == 0) = false := beq_eq_false_iff_ne.mpr c4
  have c4b1 : (t146 != 0) = true := bne_iff_ne.mpr c4
  simp only [Option.some.injEq, Prod.mk.injEq] at H
  obtain ⟨rfl, rfl, rfl⟩ := H
  go_enter Tryd.func72, Tryd.ntmps72
  go_wp2_with (first | (go_at_call 54; (with_reducible refine (letterlockref2_Take.calls k a0 t144 t145 t146 _ A3.out).mono ?_); rintro e w' ⟨rfl, ⟨nd, rfl⟩⟩; (try first | exact ⟨rfl, _, World.drewN_drewN _ _ _⟩ | exact ⟨rfl, _, Eq.trans (World.drewN_drewN _ _ _) (congrArg (World.drewN _) (Nat.add_assoc _ _ _))⟩)))
  repeat (go_quiet (first | (go_at_call 54; (with_reducible refine (letterlockref2_Take.calls k a0 t144 t145 t146 _ A3.out).mono ?_); rintro e w' ⟨rfl, ⟨nd, rfl⟩⟩; (try first | exact ⟨rfl, _, World.drewN_drewN _ _ _⟩ | exact ⟨rfl, _, Eq.trans (World.drewN_drewN _ _ _) (congrArg (World.drewN _) (Nat.add_assoc _ _ _))⟩))); try go_wp2_with (first | (go_at_call 54; (with_reducible refine (letterlockref2_Take.calls k a0 t144 t145 t146 _ A3.out).mono ?_); rintro e w' ⟨rfl, ⟨nd, rfl⟩⟩; (try first | exact ⟨rfl, _, World.drewN_drewN _ _ _⟩ | exact ⟨rfl, _, Eq.trans (World.drewN_drewN _ _ _) (congrArg (World.drewN _) (Nat.add_assoc _ _ _))⟩))))
  go_ret3
  exact ⟨by first | rfl | (simp [errW_none, errW_some] <;> rfl) | (simp [*, errW_none, errW_some] <;> rfl), by repeat (first | (with_reducible first | exact HB.out | apply below_alloc | apply pw_below_drewN | apply below_drew1) | exact HB.out)⟩
def letterlockref2_TakeAll.l0 : Nat → Int → Int → ByteArray → List ByteArray → Int → Option (List ByteArray × Int)
 | 0, _, _, _, _, _ => none
 | k + 1, x2, x8, x9, x11, x12 => if x12 < x8 then ((letterlockref2_TakeText.f k x9 x2).bind fun bt150 => (if bt150.2.2 = 0 then (if x11.length < 8796093022208 then (letterlockref2_TakeAll.l0 k x2 x8 bt150.2.1 (x11 ++ [bt150.1]) (IntKind.u64.wrap (x12 + 1))) else (none)) else (some (([] : List ByteArray), bt150.2.2)))) else (if x9.toList = ([] : List UInt8) then (some (x11, 0)) else (some (([] : List ByteArray), 2)))
def letterlockref2_TakeAll.f (k : Nat) (a0 : ByteArray) (a1 : Int) (a2 : Int) : Option (List ByteArray × Int) := (letterlockref2_Take.f k a0).bind fun bt147 => (if bt147.2.2 = 0 then (if bt147.1 > (IntKind.u64.wrap (mx a1 0)) then (some (([] : List ByteArray), 10)) else (letterlockref2_TakeAll.l0 k a2 bt147.1 bt147.2.1 ([] : List ByteArray) 0)) else (some (([] : List ByteArray), bt147.2.2)))
set_option maxHeartbeats 8000000 in
set_option maxRecDepth 100000 in
theorem letterlockref2_TakeAll.calls (k : Nat) (a0 : ByteArray) (a1 : Int) (a2 : Int) (r1 : List ByteArray) (r2 : Int) (w : World) (h : letterlockref2_TakeAll.f k a0 a1 a2 = some (r1, r2)) :
  Calls Tryd.prog 53 #[.string a0, .int .i64 a1, .int .i64 a2] w fun e w' => ∃ v0_ : Value, e = .returned (.tuple #[v0_, .int .i64 r2]) ∧ Kd.R Kd.string 9 w' w.heap.size (fun _ => True) v0_ r1 ∧ Below w.heap.size w w' := by
 have HB := Aside0.mk (Below.refl w.heap.size w)
 have H : ((letterlockref2_Take.f k a0).bind fun bt147 => (if bt147.2.2 = 0 then (if bt147.1 > (IntKind.u64.wrap (mx a1 0)) then (some (([] : List ByteArray), 10)) else (letterlockref2_TakeAll.l0 k a2 bt147.1 bt147.2.1 ([] : List ByteArray) 0)) else (some (([] : List ByteArray), bt147.2.2)))) = some (r1, r2) := h
 clear h
 replace H := Option.bind_eq_some_iff.mp H
 obtain ⟨⟨t147, t148, t149⟩, A40, H⟩ := H
 replace H : (if t149 = 0 then (if t147 > (IntKind.u64.wrap (mx a1 0)) then (some (([] : List ByteArray), 10)) else (letterlockref2_TakeAll.l0 k a2 t147 t148 ([] : List ByteArray) 0)) else (some (([] : List ByteArray), t149))) = some (r1, r2) := H
 have A4 := Aside0.mk A40
 clear A40
 by_cases c5 : t149 = 0
 ·rw [if_pos c5] at H
  have c5b0 : (t149 == 0) = true := beq_iff_eq.mpr c5
  have c5b1 : (t149 != 0) = false := bne_eq_false_iff_eq.mpr c5
  clear c5
  obtain ⟨ji6, hji6⟩ : ∃ j_ : Int, (mx a1 0) = j_ := ⟨_, rfl⟩
  replace H : (if t147 > (IntKind.u64.wrap (ji6)) then (some (([] : List ByteArray), 10)) else (letterlockref2_TakeAll.l0 k a2 t147 t148 ([] : List ByteArray) 0)) = some (r1, r2) := by first | (rw [hji6] at H; exact H) | (simp only [hji6] at H ⊢; exact H)
  (try rw [hji6] at A4)
  (try (have hji6l : 0 ≤ ji6 := by (rw [← hji6]; unfold mx; (repeat' split) <;> omega)))
  (try (have hji6m : 0 ≤ ji6 := by omega))
  have hji6_ : (if a1 < 0 then 0 else a1) = ji6 := hji6
  by_cases c7 : t147 > (IntKind.u64.wrap (ji6))
  ·rw [if_pos c7] at H
   have c7b0 : decide ((IntKind.u64.wrap (ji6)) < t147) = true := decide_eq_true c7
   clear c7
   simp only [Option.some.injEq, Prod.mk.injEq] at H
   obtain ⟨rfl, rfl⟩ := H
   go_enter Tryd.func53, Tryd.ntmps53
   go_wp2_with (first | ((with_reducible refine gate_callee (f := 54) rfl ?_); refine goesL_ (some 18) rfl rfl Tryd.func54 (by kernel_rfl) rfl #[.string a0] rfl (by (try simp only [List.map_toArray, List.map_cons, List.map_nil]); first | done | rfl | (simp only [List.length_drop, List.length_take]; rfl)) ?_; (with_reducible refine (letterlockref2_Take.calls k a0 t147 t148 t149 _ A4.out).mono ?_); rintro e w' ⟨rfl, ⟨nd, rfl⟩⟩; refine ⟨_, rfl, ?_⟩))
   go_ret2
   exact ⟨_, by first | rfl | (simp [errW_none, errW_some] <;> rfl) | (simp only [← hji6]; first | rfl | (simp [errW_none, errW_some] <;> rfl)) | (simp [*, errW_none, errW_some] <;> rfl), by first | exact Kd.R_nil _ _ _ _ _ | exact Kd.N_nil _ _ _ _ _ | exact Kd.V_nil _ _ _ _ _ | exact Kd.Q_nil _ _ _ _ _ | exact Kd.S_nil _ _ _ _ _, by repeat (first | (with_reducible first | exact HB.out | apply below_alloc | apply pw_below_drewN | apply below_drew1) | exact HB.out)⟩
  ·rw [if_neg c7] at H
   have c7b0 : decide ((IntKind.u64.wrap (ji6)) < t147) = false := decide_eq_false c7
   clear c7
   have H' := Aside0.mk H
   clear H
   go_enter Tryd.func53, Tryd.ntmps53
   go_wp2_with (first | ((with_reducible refine gate_callee (f := 54) rfl ?_); refine goesL_ (some 18) rfl rfl Tryd.func54 (by kernel_rfl) rfl #[.string a0] rfl (by (try simp only [List.map_toArray, List.map_cons, List.map_nil]); first | done | rfl | (simp only [List.length_drop, List.length_take]; rfl)) ?_; (with_reducible refine (letterlockref2_Take.calls k a0 t147 t148 t149 _ A4.out).mono ?_); rintro e w' ⟨rfl, ⟨nd, rfl⟩⟩; refine ⟨_, rfl, ?_⟩))
   go_loopg [9, 11, 12] k (fun kq v9 v11 v12 w' => ∃ (x9_1 : ByteArray) (x11_1 : List ByteArray) (x12_1 : Int), v9 = .string x9_1 ∧ v12 = .int .u64 x12_1 ∧ Aside0 (letterlockref2_TakeAll.l0 kq a2 t147 x9_1 x11_1 x12_1 = some (r1, r2)) ∧ Aside0 (kq ≤ k) ∧ Aside0 (Kd.R Kd.string 9 w' w.heap.size (fun _ => True) v11 x11_1) ∧ Aside0 (Below w.heap.size w w'))
   case atStart => exact ⟨(t148), (([] : List ByteArray)), (0), (by first | rfl | (simp; done) | (simp [*]; done)), (by first | rfl | (simp; done) | (simp [*]; done)), H', ⟨Nat.le_refl _⟩, ⟨by first | exact Kd.R_nil _ _ _ _ _ | exact Kd.N_nil _ _ _ _ _ | exact Kd.V_nil _ _ _ _ _ | exact Kd.Q_nil _ _ _ _ _ | exact Kd.S_nil _ _ _ _ _⟩, ⟨by repeat (first | (with_reducible first | exact HB.out | apply below_alloc | apply pw_below_drewN | apply below_drew1) | exact HB.out)⟩⟩
   case round =>
    clear H'
    try clear p2
    try clear c5
    try clear c5b0
    try clear c5b1
    try clear c7
    try clear c7b0
    obtain ⟨x9_1, x11_1, x12_1, rfl, rfl, HA, HK1, HO_11, HB⟩ := hrel
    cases gk with
    | zero => exact absurd HA.out (by simp [letterlockref2_TakeAll.l0])
    | succ k1 =>
     have H := HA.out
     clear HA
     simp only [letterlockref2_TakeAll.l0] at H
     by_cases c8 : x12_1 < t147
     ·rw [if_pos c8] at H
      have c8b0 : decide (x12_1 < t147) = true := decide_eq_true c8
      clear c8
      replace H := Option.bind_eq_some_iff.mp H
      obtain ⟨⟨t150, t151, t152⟩, A90, H⟩ := H
      replace H : (if t152 = 0 then (if x11_1.length < 8796093022208 then (letterlockref2_TakeAll.l0 k1 a2 t147 t151 (x11_1 ++ [t150]) (IntKind.u64.wrap (x12_1 + 1))) else (none)) else (some (([] : List ByteArray), t152))) = some (r1, r2) := H
      have A9 := Aside0.mk A90
      clear A90
      by_cases c10 : t152 = 0
      ·rw [if_pos c10] at H
       have c10b0 : (t152 == 0) = true := beq_iff_eq.mpr c10
       have c10b1 : (t152 != 0) = false := bne_eq_false_iff_eq.mpr c10
       clear c10
       by_cases c11 : x11_1.length < 8796093022208
       ·rw [if_pos c11] at H
        have LMc11 := Aside0.mk c11
        clear c11
        obtain ⟨y153, hy153⟩ : ∃ y_ : List ByteArray, y_ = (x11_1 ++ [t150]) := ⟨_, rfl⟩
        replace H : (letterlockref2_TakeAll.l0 k1 a2 t147 t151 y153 (IntKind.u64.wrap (x12_1 + 1))) = some (r1, r2) := by first | (rw [hy153]; with_reducible exact H) | (have H2_ := (Option.bind_some _ _).symm.trans H; rw [hy153]; with_reducible exact H2_) | (have H2_ := (Option.bind_some _ _).symm.trans H; with_reducible exact H2_) | with_reducible exact H | (rw [hy153]; exact H) | exact H
        have Ny153 := Aside0.mk hy153
        clear hy153
        have H' := Aside0.mk H
        clear H
        go_wp2_with (first | ((with_reducible refine gate_callee (f := 72) rfl ?_); refine goesL_ (some 38) rfl rfl Tryd.func72 (by kernel_rfl) rfl #[.string x9_1, .int .i64 a2] rfl (by (try simp only [List.map_toArray, List.map_cons, List.map_nil]); first | done | rfl | (simp only [List.length_drop, List.length_take]; rfl)) ?_; (with_reducible refine (letterlockref2_TakeText.calls k1 x9_1 a2 t150 t151 t152 _ A9.out).mono ?_); rintro e w12 ⟨rfl, hb⟩; refine ⟨_, rfl, ?_⟩; have n0_ := Aside0.mk (Kd.R_below (by (with_reducible repeat (first | apply Kd.R_alloc | apply Kd.R_drewN | apply Kd.R_drew)); exact HO_11.out) hb); have n1_ := Aside0.mk (below_step (by repeat (first | (with_reducible first | exact HB.out | apply below_alloc | apply pw_below_drewN | apply below_drew1) | exact HB.out)) hb); clear HO_11; clear HB; have HO_11 := n0_; have HB := n1_; clear n0_ n1_; (try clear hb); (try clear hb2); (try clear hk); (try clear hi)) | ((with_reducible refine gate_builtin (b := .append) (xs := #[.tmp 45, .tmp 47]) rfl ?_); at_builtin; refine Kd.R_append Kd.string (w0 := w) w.heap.size rfl (.tmp 45) (.tmp 47) 24 9 (.string ⟨#[]⟩) 16 rfl Tryd.underlying24 info9 rfl (by decide) (by omega) u11 x11_1 t150 [.string t150] (fun _ => True) (fun _ => False) rfl rfl ?aP (fun _ hk => hk.elim) ?aF ?aO ?aB ?aS ?aL ?_; (case aP => exact rfl); (case aB => exact (by repeat (first | (with_reducible first | exact HB.out | apply below_alloc | apply pw_below_drewN | apply below_drew1) | exact HB.out))); (case aF => exact (fun _ _ => trivial)); (case aO => exact (by (with_reducible repeat (first | apply Kd.R_alloc | apply Kd.R_drewN | apply Kd.R_drew)); exact HO_11.out)); (case aS => exact (below_size (by repeat (first | (with_reducible first | exact HB.out | apply below_alloc | apply pw_below_drewN | apply below_drew1) | exact HB.out)))); (case aL => have := LMc11.out; omega); intro v154 w13 ho hb hg hat; rw [← Ny153.out] at ho; have n0_ := Aside0.mk (hb); have n1_ := Aside0.mk (ho); clear HB; clear HO_11; have HB := n0_; have HO155 := n1_; clear n0_ n1_; clear ho hb hg hat))
        go_roundg k1
        case measure => have := HK1.out; omega
        case rel => exact ⟨(t151), (y153), (IntKind.u64.wrap (x12_1 + 1)), (by first | rfl | (simp; done) | (simp [*]; done)), (by first | rfl | (simp; done) | (simp [*]; done)), H', ⟨by have := HK1.out; omega⟩, ⟨by (with_reducible repeat (first | apply Kd.R_alloc | apply Kd.R_drewN | apply Kd.R_drew)); exact HO155.out⟩, ⟨by repeat (first | (with_reducible first | exact HB.out | apply below_alloc | apply pw_below_drewN | apply below_drew1) | exact HB.out)⟩⟩
       ·rw [if_neg c11] at H
        exact absurd H (by simp)
      ·rw [if_neg c10] at H
       have c10b0 : (t152 == 0) = false := beq_eq_false_iff_ne.mpr c10
       have c10b1 : (t152 != 0) = true := bne_iff_ne.mpr c10
       simp only [Option.some.injEq, Prod.mk.injEq] at H
       obtain ⟨rfl, rfl⟩ := H
       go_wp2_with (first | ((with_reducible refine gate_callee (f := 72) rfl ?_); refine goesL_ (some 38) rfl rfl Tryd.func72 (by kernel_rfl) rfl #[.string x9_1, .int .i64 a2] rfl (by (try simp only [List.map_toArray, List.map_cons, List.map_nil]); first | done | rfl | (simp only [List.length_drop, List.length_take]; rfl)) ?_; (with_reducible refine (letterlockref2_TakeText.calls k1 x9_1 a2 t150 t151 t152 _ A9.out).mono ?_); rintro e w14 ⟨rfl, hb⟩; refine ⟨_, rfl, ?_⟩; have n0_ := Aside0.mk (Kd.R_below (by (with_reducible repeat (first | apply Kd.R_alloc | apply Kd.R_drewN | apply Kd.R_drew)); exact HO_11.out) hb); have n1_ := Aside0.mk (below_step (by repeat (first | (with_reducible first | exact HB.out | apply below_alloc | apply pw_below_drewN | apply below_drew1) | exact HB.out)) hb); clear HO_11; clear HB; have HO_11 := n0_; have HB := n1_; clear n0_ n1_; (try clear hb); (try clear hb2); (try clear hk); (try clear hi)))
       go_ret2
       exact ⟨_, by first | rfl | (simp [errW_none, errW_some] <;> rfl) | (simp only [← hji6]; first | rfl | (simp [errW_none, errW_some] <;> rfl)) | (simp [*, errW_none, errW_some] <;> rfl), by first | exact Kd.R_nil _ _ _ _ _ | exact Kd.N_nil _ _ _ _ _ | exact Kd.V_nil _ _ _ _ _ | exact Kd.Q_nil _ _ _ _ _ | exact Kd.S_nil _ _ _ _ _, by repeat (first | (with_reducible first | exact HB.out | apply below_alloc | apply pw_below_drewN | apply below_drew1) | exact HB.out)⟩
     ·rw [if_neg c8] at H
      have c8b0 : decide (x12_1 < t147) = false := decide_eq_false c8
      clear c8
      by_cases c15 : x9_1.toList = ([] : List UInt8)
      ·rw [if_pos c15] at H
       have c15b0 : (x9_1.toList == ([] : List UInt8)) = true := beq_iff_eq.mpr c15
       have c15b1 : (x9_1.toList != ([] : List UInt8)) = false := bne_eq_false_iff_eq.mpr c15
       clear c15
       simp only [Option.some.injEq, Prod.mk.injEq] at H
       obtain ⟨rfl, rfl⟩ := H
       go_wp2
       go_ret2
       exact ⟨_, by first | rfl | (simp [errW_none, errW_some] <;> rfl) | (simp only [← hji6]; first | rfl | (simp [errW_none, errW_some] <;> rfl)) | (simp [*, errW_none, errW_some] <;> rfl), by (with_reducible repeat (first | apply Kd.R_alloc | apply Kd.R_drewN | apply Kd.R_drew)); exact HO_11.out, by repeat (first | (with_reducible first | exact HB.out | apply below_alloc | apply pw_below_drewN | apply below_drew1) | exact HB.out)⟩
      ·rw [if_neg c15] at H
       have c15b0 : (x9_1.toList == ([] : List UInt8)) = false := beq_eq_false_iff_ne.mpr c15
       have c15b1 : (x9_1.toList != ([] : List UInt8)) = true := bne_iff_ne.mpr c15
       simp only [Option.some.injEq, Prod.mk.injEq] at H
       obtain ⟨rfl, rfl⟩ := H
       go_wp2
       go_ret2
       exact ⟨_, by first | rfl | (simp [errW_none, errW_some] <;> rfl) | (simp only [← hji6]; first | rfl | (simp [errW_none, errW_some] <;> rfl)) | (simp [*, errW_none, errW_some] <;> rfl), by first | exact Kd.R_nil _ _ _ _ _ | exact Kd.N_nil _ _ _ _ _ | exact Kd.V_nil _ _ _ _ _ | exact Kd.Q_nil _ _ _ _ _ | exact Kd.S_nil _ _ _ _ _, by repeat (first | (with_reducible first | exact HB.out | apply below_alloc | apply pw_below_drewN | apply below_drew1) | exact HB.out)⟩
 ·rw [if_neg c5] at H
  have c5b0 : (t149 == 0) = false := beq_eq_false_iff_ne.mpr c5
  have c5b1 : (t149 != 0) = true := bne_iff_ne.mpr c5
  simp only [Option.some.injEq, Prod.mk.injEq] at H
  obtain ⟨rfl, rfl⟩ := H
  go_enter Tryd.func53, Tryd.ntmps53
  go_wp2_with (first | ((with_reducible refine gate_callee (f := 54) rfl ?_); refine goesL_ (some 18) rfl rfl Tryd.func54 (by kernel_rfl) rfl #[.string a0] rfl (by (try simp only [List.map_toArray, List.map_cons, List.map_nil]); first | done | rfl | (simp only [List.length_drop, List.length_take]; rfl)) ?_; (with_reducible refine (letterlockref2_Take.calls k a0 t147 t148 t149 _ A4.out).mono ?_); rintro e w' ⟨rfl, ⟨nd, rfl⟩⟩; refine ⟨_, rfl, ?_⟩))
  go_ret2
  exact ⟨_, by first | rfl | (simp [errW_none, errW_some] <;> rfl) | (simp [*, errW_none, errW_some] <;> rfl), by first | exact Kd.R_nil _ _ _ _ _ | exact Kd.N_nil _ _ _ _ _ | exact Kd.V_nil _ _ _ _ _ | exact Kd.Q_nil _ _ _ _ _ | exact Kd.S_nil _ _ _ _ _, by repeat (first | (with_reducible first | exact HB.out | apply below_alloc | apply pw_below_drewN | apply below_drew1) | exact HB.out)⟩
def letterlockref1_valid.f (a0 : Int) : Option (Bool) := if a0 ≥ 0 then (if a0 ≤ 1114111 then (if a0 < 55296 then (some true) else (some (decide (a0 > 57343)))) else (some false)) else (some false)
set_option maxHeartbeats 8000000 in
set_option maxRecDepth 100000 in
theorem letterlockref1_valid.calls (a0 : Int) (r : Bool) (w : World) (h : letterlockref1_valid.f a0 = some r) :
  Calls Tryd.prog 84 #[.int .i32 a0] w fun e w' => e = .returned (.bool r) ∧ Drawn0 w w' := by
 have H : (if a0 ≥ 0 then (if a0 ≤ 1114111 then (if a0 < 55296 then (some true) else (some (decide (a0 > 57343)))) else (some false)) else (some false)) = some r := h
 clear h
 by_cases c2 : a0 ≥ 0
 ·rw [if_pos c2] at H
  have c2b0 : decide (0 ≤ a0) = true := decide_eq_true c2
  clear c2
  by_cases c3 : a0 ≤ 1114111
  ·rw [if_pos c3] at H
   have c3b0 : decide (a0 ≤ 1114111) = true := decide_eq_true c3
   clear c3
   by_cases c4 : a0 < 55296
   ·rw [if_pos c4] at H
    have c4b0 : decide (a0 < 55296) = true := decide_eq_true c4
    clear c4
    obtain rfl := Option.some.inj H
    go_enter Tryd.func84, Tryd.ntmps84
    go_wp2
    go_ret
    exact ⟨by first | rfl | (simp; done) | (simp [*]; done), by repeat (first | exact Drawn0.refl _ | apply Drawn0.step)⟩
   ·rw [if_neg c4] at H
    have c4b0 : decide (a0 < 55296) = false := decide_eq_false c4
    clear c4
    obtain rfl := Option.some.inj H
    go_enter Tryd.func84, Tryd.ntmps84
    go_wp2
    go_ret
    exact ⟨by first | rfl | (simp; done) | (simp [*]; done), by repeat (first | exact Drawn0.refl _ | apply Drawn0.step)⟩
  ·rw [if_neg c3] at H
   have c3b0 : decide (a0 ≤ 1114111) = false := decide_eq_false c3
   clear c3
   obtain rfl := Option.some.inj H
   go_enter Tryd.func84, Tryd.ntmps84
   go_wp2
   go_ret
   exact ⟨by first | rfl | (simp; done) | (simp [*]; done), by repeat (first | exact Drawn0.refl _ | apply Drawn0.step)⟩
 ·rw [if_neg c2] at H
  have c2b0 : decide (0 ≤ a0) = false := decide_eq_false c2
  clear c2
  obtain rfl := Option.some.inj H
  go_enter Tryd.func84, Tryd.ntmps84
  go_wp2
  go_ret
  exact ⟨by first | rfl | (simp; done) | (simp [*]; done), by repeat (first | exact Drawn0.refl _ | apply Drawn0.step)⟩
end Go.Proofs.YtfhanoloaejmkaaDoor.PA
end
