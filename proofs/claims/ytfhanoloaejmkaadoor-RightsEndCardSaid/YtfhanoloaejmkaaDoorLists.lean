/- The contracts of slices.Clone, slices.Insert and slices.DeleteFunc at lists of texts of the call's own. -/
import Derived.Test.YtfhanoloaejmkaaDoorSearch
import Derived.Test.YtfhanoloaejmkaaDoorShelf
import Derived.Test.YtfhanoloaejmkaaDoorWMore
namespace Go.Proofs.YtfhanoloaejmkaaDoor
open Go.RowKit Go.Lib Go.Sort Go.Proofs.YtfhanoloaejmkaaDoorW.PrintWords
set_option linter.unusedVariables false
set_option linter.unusedSimpArgs false

abbrev strs (l : List ByteArray) : List Value := encs Value.string l
theorem strs_len (l : List ByteArray) : (strs l).length = l.length := by simp [strs, encs]
theorem strs_one (l : List ByteArray) : ∀ v ∈ strs l, v.oneCell' = true := by
  intro v hv
  obtain ⟨x, _, rfl⟩ := List.mem_map.1 hv
  rfl
/-- A row of texts of the call's own: where it is, and what its block holds. -/
theorem own_row {w : World} {B : Nat} {v : Value} {l : List ByteArray} (h : w.ownsRow B 9 1 v l.length (strs l)) :
    (v = .slice none 0 0 ∧ l = []) ∨ ∃ g cap cur, v = .slice (some ⟨g, 0, none⟩) l.length cap ∧ B ≤ g ∧ w.heap[g]? = some (.cells cur 9 (0, 0)) ∧ l.length ≤ cap ∧ cap ≤ maxLen ∧ cur.size = cap ∧ cur.toList.take l.length = strs l := by
  rcases h.2 with ⟨h1, h2⟩ | ⟨g, cap, cur, h1, h2, h3, h4, h5, h6, h7⟩
  · exact Or.inl ⟨h1, List.eq_nil_of_length_eq_zero h2⟩
  · exact Or.inr ⟨g, cap, cur, h1, h2, h3, h4, h5, by simpa using h6, by simpa using h7⟩
theorem own_mk {w : World} {B g n cap : Nat} {cur : Array Value} {l : List ByteArray} (hn : l.length = n) (hb : B ≤ g) (hg : w.heap[g]? = some (.cells cur 9 (0, 0))) (hc : n ≤ cap) (hm : cap ≤ maxLen) (hs : cur.size = cap) (ht : cur.toList.take n = strs l) :
    w.ownsRow B 9 1 (.slice (some ⟨g, 0, none⟩) n cap) n (strs l) :=
  ⟨by rw [strs_len, hn]; omega, Or.inr ⟨g, cap, cur, rfl, hb, hg, hc, hm, by simpa using hs, by simpa using ht⟩⟩
theorem cur_get {cur : Array Value} {l : List ByteArray} (ht : cur.toList.take l.length = strs l) {j : Nat} {v : Value} (hj : (strs l)[j]? = some v) : cur[j]? = some v := by
  have hl : j < l.length := by
    obtain ⟨h, _⟩ := List.getElem?_eq_some_iff.1 hj
    rwa [strs_len] at h
  rw [← ht, List.getElem?_take_of_lt hl] at hj
  rw [← Array.getElem?_toList]
  exact hj

theorem clone_any (A : Option Addr) (c : Nat) (l : List ByteArray) (w : World) (hr : Kd.C Kd.string w A l.length l) (hl : l.length ≤ 1000000) :
    Calls Tryd.prog 33 #[.slice A l.length c] w fun e w' => ∃ v, e = .returned v ∧ w'.ownsRow w.heap.size 9 1 v l.length (strs l) ∧ Below w.heap.size w w' := by
  rcases Nat.eq_zero_or_pos l.length with h0 | h0
  · obtain rfl : l = [] := List.eq_nil_of_length_eq_zero h0
    cases A with
    | none =>
      refine (Tryd.slices_Clone_string_nil 0 c w).mono ?_
      rintro e w' ⟨rfl, rfl⟩
      exact ⟨_, rfl, own_nil _ _ _ _, Below.refl _ _⟩
    | some ad =>
      refine (Tryd.slices_Clone_string_zero ad c w).mono ?_
      rintro e w' ⟨v, rfl, ho, _, hb⟩
      exact ⟨_, rfl, ho, hb⟩
  · obtain ⟨b, o, rfl, hc⟩ := rowC hr h0
    refine (Tryd.slices_Clone_string b o l.length c l w (Nat.le_refl _) (by omega) (fun j hj => hc j hj)).mono ?_
    rintro e w' ⟨v, rfl, ho, _, hb⟩
    rw [List.take_length] at ho
    exact ⟨_, rfl, ho, hb⟩

/-! ### slices.Insert -/
theorem strs_append (l m : List ByteArray) : strs (l ++ m) = strs l ++ strs m := by simp [strs, encs]
theorem strs_take (l : List ByteArray) (k : Nat) : strs (l.take k) = (strs l).take k := by simp [strs, encs, List.map_take]
theorem strs_drop (l : List ByteArray) (k : Nat) : strs (l.drop k) = (strs l).drop k := by simp [strs, encs, List.map_drop]
theorem put_len {l : List ByteArray} {k : Nat} {x : ByteArray} (hk : k ≤ l.length) : (l.take k ++ x :: l.drop k).length = l.length + 1 := by
  rw [List.length_append, List.length_cons, List.length_take, List.length_drop]; omega
/-- What is ahead of a place, one more, what is behind it: out of a row's two stores. -/
theorem put_cells {cs : List Value} {k : Nat} {x : Value} (cur' cur'' : List Value) (n : Nat) (hn : cs.length = n) (hk : k ≤ n) (h1 : cur'.take k = cs.take k) (h1l : k ≤ cur'.length) (h2 : cur'' = cur'.take k ++ [x] ++ cur'.drop (k + 1)) (h3 : (cur'.drop (k + 1)).take (n - k) = cs.drop k) :
    cur''.take (n + 1) = cs.take k ++ x :: cs.drop k := by
  subst h2
  rw [h1, List.append_assoc, List.take_append, List.length_take, hn, Nat.min_eq_left hk, List.take_of_length_le (by rw [List.length_take]; omega)]
  congr 1
  rw [show n + 1 - k = (n - k) + 1 by omega, List.singleton_append, List.take_succ_cons, h3]

theorem heap_new (w : World) (o : Obj) (b : Nat) (hb : b = w.heap.size) : (w.alloc o).heap[b]? = some o := by
  subst hb
  show (w.heap.push o)[w.heap.size]? = some o
  exact Array.getElem?_push_size

theorem insert_any (W : World) (B : Nat) (v : Value) (l : List ByteArray) (k : Nat) (x : ByteArray) (ho : W.ownsRow B 9 1 v l.length (strs l)) (hB : B ≤ W.heap.size) (hk : k ≤ l.length) (hl : l.length ≤ 1000000) :
    Calls Tryd.prog 35 #[v, .int .i64 k, .slice (some ⟨W.heap.size, 0, none⟩) 1 1] (W.alloc (.cells #[.string x] 9)) fun e w' =>
      ∃ v', e = .returned v' ∧ w'.ownsRow B 9 1 v' (l.take k ++ x :: l.drop k).length (strs (l.take k ++ x :: l.drop k)) ∧ W.grownBy w' v.ownBlock ∧ (v'.ownBlock = v.ownBlock ∨ ∃ b, v'.ownBlock = some b ∧ W.heap.size ≤ b) := by
  have hρ : Tryd.lays2_22_ren.t 9 = 9 := rfl
  have hbox : ∀ j v, ([Value.string x] : List Value)[j]? = some v → (W.alloc (.cells #[.string x] 9)).cell? ⟨W.heap.size, 0 + j, none⟩ = some v := by
    intro j v hj
    rw [World.cell?_alloc_at (w := W) _ _ W.heap.size (0 + j) rfl]
    cases j with
    | zero => simpa using hj
    | succ j => simp at hj
  have hone : ∀ v ∈ ([Value.string x] : List Value), v.oneCell' = true := by
    intro v hv
    rw [List.mem_singleton.1 hv]; rfl
  have hsz1 : (W.alloc (.cells #[.string x] 9)).heap.size = W.heap.size + 1 := World.size_alloc _ _
  have hold : ∀ i, i < W.heap.size → (W.alloc (.cells #[.string x] 9)).heap[i]? = W.heap[i]? := fun i hi => (World.grownBy_alloc W (.cells #[.string x] 9) none).block i hi (by simp)
  have hpl := put_len (x := x) hk
  have hps : strs (l.take k ++ x :: l.drop k) = (strs l).take k ++ Value.string x :: (strs l).drop k := by
    rw [strs_append, strs_take]
    show _ ++ Value.string x :: strs (l.drop k) = _
    rw [strs_drop]
  -- a new block: what its cells are
  have fresh : ∀ (w' : World) (cap : Nat) (cells : Array Value), w'.os = W.os → w'.tape = W.tape → w'.output = W.output → w'.heap.size = W.heap.size + 2 → (∀ i, i < W.heap.size → w'.heap[i]? = W.heap[i]?) → w'.heap[W.heap.size + 1]? = some (.cells cells 9 (0, 0)) → l.length + 1 ≤ cap → cap ≤ maxLen → cells.size = cap → cells.toList.take (l.length + 1) = strs (l.take k ++ x :: l.drop k) →
      ∃ v', (Ending.returned (.slice (some ⟨W.heap.size + 1, 0, none⟩) (l.length + 1) cap) : Ending) = .returned v' ∧ w'.ownsRow B 9 1 v' (l.take k ++ x :: l.drop k).length (strs (l.take k ++ x :: l.drop k)) ∧ W.grownBy w' v.ownBlock ∧ (v'.ownBlock = v.ownBlock ∨ ∃ b, v'.ownBlock = some b ∧ W.heap.size ≤ b) := by
    intro w' cap cells e1 e2 e3 e4 e5 e6 e7 e8 e9 e10
    refine ⟨_, rfl, ?_, ⟨e1, e2, e3, by omega, fun i hi _ => e5 i hi⟩, Or.inr ⟨W.heap.size + 1, rfl, by omega⟩⟩
    rw [hpl]
    exact own_mk hpl (by omega) e6 e7 e8 e9 e10
  have hcapm : ∀ (X : World) (n c : Nat), n ≤ 1000001 → n ≤ grownCap X n c 9 ∧ grownCap X n c 9 ≤ maxLen := fun X n c hn => ⟨grownCap_ge X n c _, grownCap_le_maxLen X n c _ (by unfold maxLen; omega)⟩
  have endGrow : ∀ (base : Option Addr) (c : Nat), k = l.length → c < l.length + 1 → l.length ≤ c → (base = none → l.length = 0) → (∀ a, base = some a → ∀ j u, (strs l)[j]? = some u → (W.alloc (.cells #[.string x] 9)).cell? (a.add j) = some u) →
      Calls Tryd.prog 35 #[.slice base l.length c, .int .i64 k, .slice (some ⟨W.heap.size, 0, none⟩) 1 1] (W.alloc (.cells #[.string x] 9)) fun e w' =>
        ∃ v', e = .returned v' ∧ w'.ownsRow B 9 1 v' (l.take k ++ x :: l.drop k).length (strs (l.take k ++ x :: l.drop k)) ∧ W.grownBy w' v.ownBlock ∧ (v'.ownBlock = v.ownBlock ∨ ∃ b, v'.ownBlock = some b ∧ W.heap.size ≤ b) := by
    intro base c hkl hc hlc hbn hbc
    have H := Any2.slices_Insert_string_end_grow Tryd.lays2_22 base l.length c W.heap.size 0 1 1 (strs l) [.string x] (W.alloc (.cells #[.string x] 9)) (by omega) hlc hc (by omega) (strs_len l) rfl hbn hbc hbox hone
    rw [hρ] at H
    rw [hkl] at fresh ⊢
    refine H.mono ?_
    rintro e w' ⟨rfl, rfl⟩
    obtain ⟨h1, h2⟩ := hcapm (W.alloc (.cells #[.string x] 9)) (l.length + 1) c (by omega)
    have e0 : (W.alloc (.cells #[.string x] 9)).heap.size = W.heap.size + 1 := hsz1
    rw [e0]
    show ∃ v', (Ending.returned (.slice (some ⟨W.heap.size + 1, 0, none⟩) (l.length + 1) (grownCap (W.alloc (.cells #[.string x] 9)) (l.length + 1) c 9)) : Ending) = .returned v' ∧ _
    have hlen : (strs l ++ [Value.string x]).toArray.size = l.length + 1 := by simp [strs_len]
    refine fresh _ _ _ rfl rfl rfl ?_ ?_ (heap_new (W.alloc (.cells #[.string x] 9)).drew _ _ hsz1.symm) h1 h2 ?_ ?_
    · rw [World.size_alloc]
      exact congrArg (· + 1) hsz1
    · intro i hi
      rw [← hold i hi]
      exact (World.grownBy_alloc (W.alloc (.cells #[.string x] 9)).drew _ none).block i (by show i < (W.alloc (.cells #[.string x] 9)).heap.size; omega) (by simp)
    · rw [Array.size_append, hlen]
      simp [Builtin.zeroCells, Value.cells]
      omega
    · have hlen2 : (strs l ++ [Value.string x]).toArray.toList.length = l.length + 1 := by simp [strs_len]
      rw [Array.toList_append, List.take_append_of_le_length (by omega), List.take_of_length_le (by omega)]
      simp [strs, encs]
  rcases own_row ho with ⟨rfl, rfl⟩ | ⟨g, cap, cur, rfl, hg1, hg2, hg3, hg4, hg5, hg6⟩
  · exact endGrow none 0 (by simpa using hk) (by simp) (Nat.le_refl _) (fun _ => rfl) (fun a h => by cases h)
  · have hcell : ∀ j v, (strs l)[j]? = some v → (W.alloc (.cells #[.string x] 9)).cell? ⟨g, 0 + j, none⟩ = some v := by
      intro j v hj
      have hgl : g < W.heap.size := blk_lt hg2
      rw [World.cell?_alloc_past (w := W) _ g (0 + j) hgl, Nat.zero_add, blk_cell hg2]
      exact cur_get hg6 hj
    have hgl : g < W.heap.size := blk_lt hg2
    have hg2' : (W.alloc (.cells #[.string x] 9)).heap[g]? = some (.cells cur 9 (0, 0)) := by rw [hold g hgl]; exact hg2
    have hsome : ∀ j, j < cap → ((W.alloc (.cells #[.string x] 9)).cell? ⟨g, j, none⟩).isSome = true := by
      intro j hj
      rw [blk_cell hg2', Array.getElem?_eq_getElem (by omega)]; rfl
    have hfz : ∀ j, (W.alloc (.cells #[.string x] 9)).frozen? ⟨g, j, none⟩ = false := fun j => blk_frozen hg2' j
    have hcur : ∀ i, i ≤ l.length → cur.toList.take i = (strs l).take i := fun i hi => by rw [← hg6, List.take_take, Nat.min_eq_left hi]
    -- the same block, written: what its cells are
    have same : ∀ (w' : World) (cells : Array Value), w'.os = W.os → w'.tape = W.tape → w'.output = W.output → W.heap.size ≤ w'.heap.size → (∀ i, i < W.heap.size → i ≠ g → w'.heap[i]? = W.heap[i]?) → w'.heap[g]? = some (.cells cells 9 (0, 0)) → l.length + 1 ≤ cap → cells.size = cap → cells.toList.take (l.length + 1) = strs (l.take k ++ x :: l.drop k) →
        ∃ v', (Ending.returned (.slice (some ⟨g, 0, none⟩) (l.length + 1) cap) : Ending) = .returned v' ∧ w'.ownsRow B 9 1 v' (l.take k ++ x :: l.drop k).length (strs (l.take k ++ x :: l.drop k)) ∧ W.grownBy w' (Value.slice (some ⟨g, 0, none⟩) l.length cap).ownBlock ∧ (v'.ownBlock = (Value.slice (some ⟨g, 0, none⟩) l.length cap).ownBlock ∨ ∃ b, v'.ownBlock = some b ∧ W.heap.size ≤ b) := by
      intro w' cells e1 e2 e3 e4 e5 e6 e7 e8 e9
      refine ⟨_, rfl, ?_, ⟨e1, e2, e3, e4, fun i hi hne => e5 i hi (fun e => hne (by rw [e]; rfl))⟩, Or.inl rfl⟩
      rw [hpl]
      exact own_mk hpl hg1 e6 e7 hg4 e8 e9
    rcases Nat.lt_or_ge cap (l.length + 1) with hroom | hroom
    · rcases Nat.lt_or_ge k l.length with hkl | hkl
      · have H := Any2.slices_Insert_string_grow Tryd.lays2_22 g 0 l.length cap k W.heap.size 0 1 1 (strs l) [.string x] (W.alloc (.cells #[.string x] 9)) hkl (by omega) hg3 hroom (by omega) (strs_len l) rfl hcell hbox (strs_one l) hone
        rw [hρ] at H
        refine H.mono ?_
        rintro e w' ⟨rfl, hw⟩
        obtain ⟨h1, h2⟩ := hcapm (W.alloc (.cells #[.string x] 9)) (l.length + 1) cap (by omega)
        have e0 : (W.alloc (.cells #[.string x] 9)).heap.size = W.heap.size + 1 := hsz1
        generalize hG : grownCap (W.alloc (.cells #[.string x] 9)) (l.length + 1) cap 9 = G at *
        rw [e0] at hw ⊢
        have hrow : (((strs l).take k).toArray ++ Builtin.zeroCells (Value.string ⟨#[]⟩).cells (l.length + 1 - k) ++ Builtin.zeroCells (Value.string ⟨#[]⟩).cells (G - (l.length + 1)) : Array Value).size = G := by
          simp [Builtin.zeroCells, Value.cells, strs_len]
          omega
        have htk : (((strs l).take k).toArray ++ Builtin.zeroCells (Value.string ⟨#[]⟩).cells (l.length + 1 - k) ++ Builtin.zeroCells (Value.string ⟨#[]⟩).cells (G - (l.length + 1)) : Array Value).toList.take k = (strs l).take k := by
          have hl2 : ((strs l).take k).length = k := by rw [List.length_take, strs_len]; omega
          rw [Array.toList_append, Array.toList_append, List.append_assoc, List.take_append_of_le_length (by simp [hl2])]
          rw [List.take_of_length_le (by simp [hl2])]
        generalize (((strs l).take k).toArray ++ Builtin.zeroCells (Value.string ⟨#[]⟩).cells (l.length + 1 - k) ++ Builtin.zeroCells (Value.string ⟨#[]⟩).cells (G - (l.length + 1)) : Array Value) = row at *
        have hw0 : (((W.alloc (.cells #[.string x] 9)).alloc (.cells row 9)).drew).heap[W.heap.size + 1]? = some (.cells row 9 (0, 0)) := heap_new (W.alloc (.cells #[.string x] 9)) _ _ hsz1.symm
        obtain ⟨c1, a1, a2, a3⟩ := setCells_row [Value.string x] k _ row hw0 (by simp; omega)
        obtain ⟨c2, b1, b2, b3⟩ := setCells_row ((strs l).drop k) (k + 1) ((((W.alloc (.cells #[.string x] 9)).alloc (.cells row 9)).drew.setCells (W.heap.size + 1) k [Value.string x]).drew) c1 a1 (by rw [List.length_drop, strs_len]; omega)
        have hs1 := setCells_same (W.heap.size + 1) [Value.string x] k (((W.alloc (.cells #[.string x] 9)).alloc (.cells row 9)).drew)
        have hs2 := setCells_same (W.heap.size + 1) ((strs l).drop k) (k + 1) ((((W.alloc (.cells #[.string x] 9)).alloc (.cells row 9)).drew.setCells (W.heap.size + 1) k [Value.string x]).drew)
        subst hw
        refine fresh _ G c2 (hs2.1.trans hs1.1) (hs2.2.1.trans hs1.2.1) (hs2.2.2.1.trans hs1.2.2.1) ?_ ?_ b1 h1 h2 (by omega) ?_
        · rw [hs2.2.2.2]
          show ((((W.alloc (.cells #[.string x] 9)).alloc (.cells row 9)).drew.setCells (W.heap.size + 1) k [Value.string x])).heap.size = _
          rw [hs1.2.2.2]
          show ((W.alloc (.cells #[.string x] 9)).alloc (.cells row 9)).heap.size = _
          rw [World.size_alloc, hsz1]
        · intro i hi
          rw [setCells_far _ _ i (by omega)]
          show ((((W.alloc (.cells #[.string x] 9)).alloc (.cells row 9)).drew.setCells (W.heap.size + 1) k [Value.string x])).heap[i]? = _
          rw [setCells_far _ _ i (by omega)]
          rw [← hold i hi]
          exact (World.grownBy_alloc (W.alloc (.cells #[.string x] 9)) _ none).block i (by omega) (by simp)
        · have hrl : row.toList.length = G := by rw [Array.length_toList, hrow]
          have hdl : ((strs l).drop k).length = l.length - k := by rw [List.length_drop, strs_len]
          have ht1 : (row.toList.take k).length = k := by rw [List.length_take]; omega
          rw [b3, a3, hps, htk]
          have ht2 : ((strs l).take k).length = k := by rw [List.length_take, strs_len]; omega
          rw [List.take_append_of_le_length (by simp [ht2, hdl]; omega)]
          rw [List.take_of_length_le (by simp [ht2, hdl]; omega)]
          rw [List.take_append_of_le_length (by simp [ht2])]
          rw [List.take_of_length_le (by simp [ht2])]
          simp
      · obtain rfl : k = l.length := by omega
        exact endGrow (some ⟨g, 0, none⟩) cap rfl hroom hg3 (fun h => by cases h) (fun a h j u hj => by cases h; rw [add_at]; exact hcell j u hj)
    · rcases Nat.lt_or_ge k l.length with hkl | hkl
      · have H := Any2.slices_Insert_string_shift Tryd.lays2_22 g 0 l.length cap k W.heap.size 0 1 1 (strs l) [.string x] (W.alloc (.cells #[.string x] 9)) hkl (by omega) hroom (by simpa [maxLen] using hg4) (by omega) (strs_len l) rfl hcell (fun j hj => by rw [Nat.zero_add]; exact hsome j (by omega)) (fun j _ => hfz _) hbox (strs_one l) hone 9 9 1 cap (by unfold World.shape?; rw [heap_new W _ _ rfl]; rfl) (by unfold World.shape?; rw [hg2']; simp [hg5]) (by omega) (blk_frozen (heap_new W _ _ rfl) 0) (blk_frozen (heap_new W _ _ rfl) 1)
        refine H.mono ?_
        rintro e w' ⟨rfl, hw⟩
        rw [Nat.zero_add, Nat.zero_add] at hw
        obtain ⟨c1, a1, a2, a3⟩ := setCells_row ((strs l).drop k) (k + 1) (W.alloc (.cells #[.string x] 9)).drew cur hg2' (by rw [List.length_drop, strs_len]; omega)
        obtain ⟨c2, b1, b2, b3⟩ := setCells_row [Value.string x] k ((W.alloc (.cells #[.string x] 9)).drew.setCells g (k + 1) ((strs l).drop k)) c1 a1 (by simp; omega)
        have hs1 := setCells_same g ((strs l).drop k) (k + 1) (W.alloc (.cells #[.string x] 9)).drew
        have hs2 := setCells_same g [Value.string x] k ((W.alloc (.cells #[.string x] 9)).drew.setCells g (k + 1) ((strs l).drop k))
        subst hw
        refine same _ c2 (hs2.1.trans hs1.1) (hs2.2.1.trans hs1.2.1) (hs2.2.2.1.trans hs1.2.2.1) ?_ ?_ b1 hroom (by omega) ?_
        · rw [hs2.2.2.2, hs1.2.2.2]
          show W.heap.size ≤ (W.alloc (.cells #[.string x] 9)).heap.size
          omega
        · intro i hi hne
          rw [setCells_far _ _ i hne, setCells_far _ _ i hne]
          exact hold i hi
        · have hcl : cur.toList.length = cap := by rw [Array.length_toList, hg5]
          have hdl : ((strs l).drop k).length = l.length - k := by rw [List.length_drop, strs_len]
          have ht1 : (cur.toList.take (k + 1)).length = k + 1 := by rw [List.length_take]; omega
          have hc1 : c1.toList.length = cap := by rw [Array.length_toList, a2, hg5]
          rw [hps]
          refine put_cells (cs := strs l) c1.toList c2.toList l.length (strs_len l) (by omega) ?_ (by omega) b3 ?_
          · rw [a3, List.append_assoc, List.take_append_of_le_length (by omega), List.take_take, Nat.min_eq_left (by omega)]
            exact hcur k (by omega)
          · rw [a3, List.append_assoc, List.drop_append_of_le_length (by omega), List.drop_eq_nil_of_le (by omega), List.nil_append]
            rw [List.take_append_of_le_length (by omega), List.take_of_length_le (by omega)]
      · obtain rfl : k = l.length := by omega
        have H := Any2.slices_Insert_string_end_room Tryd.lays2_22 g 0 l.length cap W.heap.size 0 1 1 [.string x] (W.alloc (.cells #[.string x] 9)) (by omega) hroom (by simpa [maxLen] using hg4) rfl (fun j hj => hsome _ (by omega)) (fun j _ => hfz _) hbox hone
        refine H.mono ?_
        rintro e w' ⟨rfl, hw⟩
        rw [Nat.zero_add] at hw
        obtain ⟨c1, a1, a2, a3⟩ := setCells_row [Value.string x] l.length (W.alloc (.cells #[.string x] 9)) cur hg2' (by simp; omega)
        have hs1 := setCells_same g [Value.string x] l.length (W.alloc (.cells #[.string x] 9))
        subst hw
        refine same _ c1 hs1.1 hs1.2.1 hs1.2.2.1 ?_ ?_ a1 hroom (by omega) ?_
        · rw [hs1.2.2.2]; omega
        · intro i hi hne
          rw [setCells_far _ _ i hne]
          exact hold i hi
        · have hcl : cur.toList.length = cap := by rw [Array.length_toList, hg5]
          rw [a3, hps, hg6, List.append_assoc]
          rw [List.take_append, strs_len, List.take_of_length_le (by rw [strs_len]; omega)]
          rw [show (strs l).take l.length = strs l from List.take_of_length_le (by rw [strs_len]; exact Nat.le_refl _), show (strs l).drop l.length = [] from List.drop_eq_nil_of_le (by rw [strs_len]; exact Nat.le_refl _)]
          rw [show l.length + 1 - l.length = 1 by omega]
          rfl

/-! ### slices.DeleteFunc: all that are one text -/
theorem is_eq (x u : ByteArray) : (x.toList == u.toList) = decide (x = u) := by
  by_cases h : x = u
  · subst h; simp
  · rw [decide_eq_false h, beq_eq_false_iff_ne]
    exact fun e => h (bs_inj (by rwa [bytes_toList, bytes_toList] at e))
set_option maxRecDepth 100000 in
theorem is_any (x u : ByteArray) (UB : Nat) (W : World) (hc : W.cell? ⟨UB, 0, none⟩ = some (.string u)) :
    Calls Tryd.prog 36 #[.string x, .pointer (some ⟨UB, 0, none⟩)] W fun e w' => e = .returned (.bool (decide (x = u))) ∧ ∃ q, w' = W.drewN q := by
  rw [← is_eq]
  go_enter Tryd.func36, Tryd.ntmps36
  go_wp2
  go_ret
  exact ⟨rfl, 0, rfl⟩

theorem put_same (W : World) (q g : Nat) (d : Array ByteArray) {cur : Array Value} (hg : W.heap[g]? = some (.cells cur 9 (0, 0))) :
    (putRow Value.string (Sort.ahead W q) g 0 d).heap[g]? = some (.cells (putCells Value.string 0 d cur) 9 (0, 0)) := by
  show (W.heap.modify g (onCells _))[g]? = _
  rw [Array.getElem?_modify, if_pos rfl, hg]; rfl
theorem put_far (W : World) (q g : Nat) (d : Array ByteArray) (i : Nat) (hi : i ≠ g) : (putRow Value.string (Sort.ahead W q) g 0 d).heap[i]? = W.heap[i]? := by
  show (W.heap.modify g (onCells _))[i]? = _
  rw [Array.getElem?_modify, if_neg (fun e => hi e.symm)]
theorem putCells_take (l : List ByteArray) (cur : Array Value) (n : Nat) (hn : n ≤ l.length) (hc : l.length ≤ cur.size) : (putCells Value.string 0 l.toArray cur).toList.take n = strs (l.take n) := by
  apply List.ext_getElem?
  intro i
  by_cases hi : i < n
  · rw [List.getElem?_take_of_lt hi, Array.getElem?_toList]
    unfold putCells
    rw [Array.getElem?_mapIdx, Array.getElem?_eq_getElem (by omega)]
    have h1 : i < l.length := by omega
    rw [strs_take, List.getElem?_take_of_lt hi]
    simp [strs, encs, h1]
  · rw [List.getElem?_eq_none (by rw [List.length_take]; omega), List.getElem?_eq_none (by rw [strs_len, List.length_take]; omega)]
theorem delete_any (W : World) (B UB : Nat) (v : Value) (l : List ByteArray) (u : ByteArray) (ho : W.ownsRow B 9 1 v l.length (strs l)) (hl : l.length ≤ 1000000) (hu : W.cell? ⟨UB, 0, none⟩ = some (.string u)) (hne : some UB ≠ v.ownBlock) :
    Calls Tryd.prog 37 #[v, .func (.func 36) #[] #[.pointer (some ⟨UB, 0, none⟩)]] W fun e w' =>
      ∃ v', e = .returned v' ∧ w'.ownsRow B 9 1 v' (dropL l u).length (strs (dropL l u)) ∧ W.grownBy w' v.ownBlock ∧ v'.ownBlock = v.ownBlock := by
  rcases own_row ho with ⟨rfl, rfl⟩ | ⟨g, cap, cur, rfl, hg1, hg2, hg3, hg4, hg5, hg6⟩
  · have H := Lib.hid (Tryd.slices_IndexFunc_empty (α := ByteArray) none 0 (.func (.func 36) #[] #[.pointer (some ⟨UB, 0, none⟩)]) W)
    have H2 : Hid (∀ w' : World, w' = W → ∃ v', (Ending.returned (.slice none 0 0) : Ending) = .returned v' ∧ w'.ownsRow B 9 1 v' (dropL [] u).length (strs (dropL [] u)) ∧ W.grownBy w' (Value.slice none 0 0).ownBlock ∧ v'.ownBlock = (Value.slice none 0 0).ownBlock) := fun w' e => by
      subst e
      exact ⟨_, rfl, own_nil _ _ _ _, World.grownBy.refl _ _, rfl⟩
    clear hu hne ho
    go_enter Tryd.func37, Tryd.ntmps37
    go_wp2_with fail
    refine H.out.mono ?_
    rintro e w' ⟨rfl, hw⟩
    have HW := Lib.hid hw
    clear hw
    go_wp2
    go_ret
    exact H2.out w' HW.out
  · have hgl : g < W.heap.size := blk_lt hg2
    have hug : UB ≠ g := fun e => hne (by rw [e]; rfl)
    have hul : UB < W.heap.size := World.block_lt_of_cell? W _ hu
    have gives : ∀ (W' : World), W'.heap[UB]? = W.heap[UB]? → ∀ x : ByteArray, FnGives Tryd.prog 36 #[.pointer (some ⟨UB, 0, none⟩)] #[Value.string x] (.bool (decide (x = u))) W' := by
      intro W' hW x
      exact is_any x u UB W' (by rw [← hu]; simp only [World.cell?]; rw [hW])
    have hp : PredAt Tryd.prog 36 #[.pointer (some ⟨UB, 0, none⟩)] Value.string (fun x => decide (x = u)) W := fun W' x hb => gives W' (hb.block UB hul) x
    have hpo : PredOver Tryd.prog 36 #[.pointer (some ⟨UB, 0, none⟩)] Value.string (fun x => decide (x = u)) g 0 l.toArray.size W := by
      intro n os dk x _
      refine gives _ ?_ x
      show ((putRow Value.string (Sort.ahead W n) g 0 dk).heap ++ os)[UB]? = _
      have hsz : (putRow Value.string (Sort.ahead W n) g 0 dk).heap.size = W.heap.size := by
        show (W.heap.modify g (onCells _)).size = _
        rw [Array.size_modify]
      rw [Array.getElem?_append_left (by omega), put_far _ _ _ _ _ hug]
    have hH : Holds Value.string W g 0 l.toArray := by
      intro j hj
      have hj' : j < l.length := by simpa using hj
      refine ⟨?_, blk_frozen hg2 _⟩
      rw [Nat.zero_add, blk_cell hg2]
      refine cur_get hg6 ?_
      simp [strs, encs, hj']
    have H := Tryd.slices_DeleteFunc Value.string (fun _ => rfl) (fun x => decide (x = u)) 36 #[.pointer (some ⟨UB, 0, none⟩)] (fun args w => by kernel_rfl) ByteArray.empty (fun w => by kernel_rfl) g 0 cap l.toArray W hp hpo hH (by simp; omega) (by simpa using hg3)
    have hs : l.toArray.size = l.length := by simp
    rw [hs] at H
    refine H.mono ?_
    rintro e w' ⟨rfl, q, rfl⟩
    have hf : (l.toArray.toList.filter fun x => !decide (x = u)) = dropL l u := rfl
    have hdl := drop_len l u
    rw [hf]
    generalize hD : dropL l u ++ List.replicate (l.length - (dropL l u).length) ByteArray.empty = D
    have hDl : D.length = l.length := by rw [← hD, List.length_append, List.length_replicate]; omega
    refine ⟨_, rfl, own_mk rfl hg1 (put_same W q g D.toArray hg2) (by omega) hg4 (by rw [← hg5]; simp [putCells]) ?_, ⟨rfl, rfl, rfl, ?_, fun i hi hne => put_far W q g _ i (fun e => hne (by rw [e]; rfl))⟩, rfl⟩
    · rw [putCells_take D cur (dropL l u).length (by omega) (by omega), ← hD, List.take_append_of_le_length (Nat.le_refl _), List.take_of_length_le (Nat.le_refl _)]
    · show W.heap.size ≤ (W.heap.modify g (onCells _)).size
      rw [Array.size_modify]; exact Nat.le_refl _

end Go.Proofs.YtfhanoloaejmkaaDoor
