/- Contracts and laws that the statement of LawRightsTell leans on (packed from this claim's own texts): part 11. -/
import Derived.Test.YtfhanoloaejmkaaDoorQT3
import Derived.Test.YtfhanoloaejmkaaDoorQT6
import Derived.Test.YtfhanoloaejmkaaDoorQT7
import Derived.Test.YtfhanoloaejmkaaDoorQT9
import Derived.Test.YtfhanoloaejmkaaDoorQT10
section

namespace Go.Proofs.YtfhanoloaejmkaaDoor.Ref
open Go.RowKit Go.Proofs.YtfhanoloaejmkaaDoor Go.Proofs.YtfhanoloaejmkaaDoor.PA Go.Proofs.YtfhanoloaejmkaaDoorW.PrintWords Go.Proofs.YtfhanoloaejmkaaDoorW.PrintLast
set_option linter.unusedVariables false
theorem nums_of (l : List Int) : strOfNums l = ofBytes (l.map fun n => UInt8.ofNat n.toNat) := bs_inj (by rw [nums_bytes, bytes_ofBytes])
theorem u8_mod (n : Nat) : UInt8.ofNat (n % 256) = UInt8.ofNat n := UInt8.toNat_inj.1 (by rw [UInt8.toNat_ofNat', UInt8.toNat_ofNat']; omega)
theorem beBytes_bits {n : Nat} (h : n < 18446744073709551616) : (beBytes n).length = (Lib.bitLen n + 7) / 8 := by
 induction n using Nat.strongRecOn with
 | _ n ih =>
  by_cases h0 : n = 0
  ·subst h0
   rw [beBytes_zero]
   rfl
  by_cases h1 : n < 256
  ·have h2 := Lib.bitLen_le8 ⟨n, h1⟩
   have h3 := Lib.bitLen_half n h0 (by omega)
   have h2 : Lib.bitLen n ≤ 8 := h2
   rw [beBytes_pos h0, show n / 256 = 0 from by omega, beBytes_zero]
   simp only [List.nil_append, List.length_singleton]
   omega
  ·have h2 := Lib.bitLen_shift8 n (by omega) h
   have h3 := ih (n / 256) (by omega) (by omega)
   rw [beBytes_pos h0, List.length_append, h3, List.length_singleton]
   omega
theorem put_loop (i x : Nat) (h : Int) (zs tl : List Int) (hz : zs.length = i) (hx : (beBytes x).length = i) (hi : i ≤ 8) :
  Ev (fun k => wire_Put.l0 k (x : Int) (h :: (zs ++ tl)) (i : Int)) (strOfNums (h :: ((beBytes x).map (fun c => (c.toNat : Int)) ++ tl))) := by
 induction i generalizing x zs tl with
 | zero =>
  obtain rfl := List.length_eq_zero_iff.1 hz
  have : beBytes x = [] := List.length_eq_zero_iff.1 hx
  rw [this]
  refine Ev.step (fun _ => rfl) (Ev.neg (by simp) (Ev.now _))
 | succ i ih =>
  have hx0 : x ≠ 0 := by rintro rfl; rw [beBytes_zero] at hx; simp at hx
  rw [beBytes_pos hx0] at hx
  simp only [List.length_append, List.length_singleton, Nat.add_right_cancel_iff] at hx
  obtain ⟨ys, z, rfl⟩ : ∃ ys z, zs = ys ++ [z] := ⟨zs.dropLast, zs.getLast (by rintro rfl; simp at hz), (List.dropLast_concat_getLast _).symm⟩
  simp only [List.length_append, List.length_singleton, Nat.add_right_cancel_iff] at hz
  refine Ev.step (fun _ => rfl) (Ev.pos (by omega) (Ev.pos (by omega) (Ev.pos (by simp only [List.length_cons, List.length_append, hz]; omega) ?_)))
  have h1 : (h :: (ys ++ [z] ++ tl)).set (((i + 1 : Nat) : Int)).toNat ((x : Int) % 256) = h :: (ys ++ ((x : Int) % 256 :: tl)) := by
   rw [Int.toNat_natCast, List.set_cons_succ, List.append_assoc, List.set_append_right _ _ (by omega), hz, Nat.sub_self]
   rfl
  have h2 : wrap64 (((i + 1 : Nat) : Int) - 1) = (i : Int) := by rw [w64 (by omega) (by omega)]; omega
  rw [h1, h2]
  refine ev_cast (ih (x / 256) ys ((x : Int) % 256 :: tl) hz hx (by omega)) ?_
  rw [beBytes_pos hx0, List.map_append, List.append_assoc]
  congr 3
  simp only [List.map_cons, List.map_nil, List.singleton_append, toNat_mod]
  congr 1
theorem ofNat_map (l : Bs) : (l.map (fun c => (c.toNat : Int))).map (fun n => UInt8.ofNat n.toNat) = l := by
 rw [List.map_map]
 conv => rhs; rw [← List.map_id l]
 congr 1
 funext c
 simp [UInt8.ofNat_toNat]
theorem wirePut_ev (n : Nat) (h : n < 18446744073709551616) : Ev (fun k => wire_Put.f k (n : Int)) (ofBytes (putL n)) := by
 have hb := beBytes_bits h
 have h8 := beBytes_len8 h
 have hl : bits_Len64.f (n : Int) = some ((Lib.bitLen n : Nat) : Int) := by
  unfold bits_Len64.f
  rw [if_pos ⟨by omega, by omega⟩, Int.toNat_natCast]
 have h1 : wrap64 (Int.tdiv (wrap64 (((Lib.bitLen n : Nat) : Int) + 7)) 8) = ((beBytes n).length : Int) := by
  rw [w64 (n := ((Lib.bitLen n : Nat) : Int) + 7) (by omega) (by omega), Int.tdiv_eq_ediv_of_nonneg (by omega), hb]
  rw [w64 (by omega) (by omega)]
  omega
 unfold wire_Put.f
 refine Ev.put hl ?_
 rw [h1, w64 (n := 1 + ((beBytes n).length : Int)) (by omega) (by omega)]
 refine Ev.pos (by omega) (Ev.pos (by omega) (Ev.put rfl (Ev.pos (by rw [List.length_replicate]; omega) ?_)))
 rw [show (1 + ((beBytes n).length : Int)).toNat = (beBytes n).length + 1 from by omega, List.replicate_succ]
 have h2 := put_loop (beBytes n).length n (((beBytes n).length : Int) % 256) (List.replicate (beBytes n).length 0) [] (by simp) rfl h8
 rw [List.append_nil] at h2
 refine ev_cast h2 ?_
 rw [nums_of, List.append_nil, List.map_cons, ofNat_map]
 unfold putL
 clear h2 h1 hl
 congr 2
 rw [show (((beBytes n).length : Int) % 256).toNat = (beBytes n).length % 256 from by omega]
 exact u8_mod _
def numB (n : Nat) : ByteArray := ofBytes (putL n)
theorem size_numB {n : Nat} (h : n < 18446744073709551616) : (numB n).size ≤ 9 := by
 unfold numB; rw [size_ofBytes]; exact putL_len h
theorem joinB_two (a b : ByteArray) : joinB [a, b] = a ++ b := by
 unfold joinB
 simp only [List.flatMap_cons, List.flatMap_nil, List.append_nil]
 rw [ofBytes_append, ofBytes_bytes, ofBytes_bytes]
theorem putText_ev (s : ByteArray) (h : s.size ≤ 100000000000000) : Ev (fun k => wire_PutText.f k s) (numB s.size ++ s) := by
 have hw : IntKind.u64.wrap (s.size : Int) = (s.size : Int) := by rw [IntKind.wrap_u64]; omega
 unfold wire_PutText.f
 rw [hw]
 refine Ev.bind (wirePut_ev s.size (by omega)) (Ev.put (a := numB s.size ++ s) ?_ (Ev.now _))
 have := size_numB (n := s.size) (by omega)
 show wire_join.f [numB s.size, s] = _
 unfold wire_join.f
 rw [if_pos ⟨by simp, by rw [joinB_two, ByteArray.size_append]; omega⟩, joinB_two]
theorem refPut_loop (n : Nat) (acc : List Int) (hn : n < 18446744073709551616) (ha : acc.length + (beBytes n).length ≤ 8) :
  Ev (fun k => letterlockref2_Put.l0 k (n : Int) acc) (ofBytes (UInt8.ofNat (acc.length + (beBytes n).length) :: (beBytes n ++ bytes (strOfNums acc)))) := by
 induction n using Nat.strongRecOn generalizing acc with
 | _ n ih =>
  by_cases h0 : n = 0
  ·subst h0
   rw [beBytes_zero] at ha ⊢
   refine Ev.step (fun _ => rfl) (Ev.neg (by simp) (Ev.put rfl (Ev.pos ?_ (Ev.const ?_))))
   ·rw [← bytes_length, ← bytes_length, nums_bytes, nums_bytes, List.length_map, List.length_map]
    simp only [List.length_singleton]
    omega
   ·refine congrArg some (bs_inj ?_)
    rw [bytes_append, nums_bytes, bytes_ofBytes]
    simp only [List.map_cons, List.map_nil, List.length_nil, Nat.add_zero, List.nil_append, List.singleton_append]
    congr 2
    omega
  ·refine Ev.step (fun _ => rfl) (Ev.pos (by omega) (Ev.put rfl (Ev.pos ?_ ?_)))
   ·simp only [List.length_singleton]; omega
   ·have h1 : IntKind.u64.wrap (Int.tdiv (n : Int) 256) = ((n / 256 : Nat) : Int) := by
     rw [IntKind.wrap_u64, Int.tdiv_eq_ediv_of_nonneg (by omega)]; omega
    have h2 : Int.tmod (n : Int) 256 % 256 = ((n % 256 : Nat) : Int) := by
     rw [Int.tmod_eq_emod_of_nonneg (by omega)]; omega
    rw [h1, h2]
    rw [beBytes_pos h0, List.length_append, List.length_singleton] at ha
    refine ev_cast (ih (n / 256) (by omega) _ (by omega) (by simp only [List.length_append, List.length_singleton]; omega)) ?_
    rw [beBytes_pos h0]
    simp only [List.length_append, List.length_singleton]
    rw [show 1 + acc.length + (beBytes (n / 256)).length = acc.length + ((beBytes (n / 256)).length + 1) from by omega, List.append_assoc]
    congr 3
theorem refPut_ev (n : Nat) (h : n < 18446744073709551616) : Ev (fun k => letterlockref2_Put.f k (n : Int)) (numB n) := by
 have h8 := beBytes_len8 h
 unfold letterlockref2_Put.f
 refine ev_cast (refPut_loop n [] h (by simpa using h8)) ?_
 unfold numB putL
 rw [nums_bytes]
 simp
theorem refTake_loop (s : ByteArray) (j c m : Nat) (hm : j + m = c) (hj : 1 ≤ j) (hc : c ≤ s.size) (hc9 : c ≤ 9) :
  Ev (fun k => letterlockref2_Take.l0 k s ((beNum (((bytes s).drop 1).take (j - 1)) : Nat) : Int) (c : Int) (j : Int)) (((beNum (((bytes s).drop 1).take (c - 1)) : Nat) : Int), s.extract c s.size, 0) := by
 induction m generalizing j with
 | zero =>
  obtain rfl : j = c := by omega
  exact Ev.step (fun _ => rfl) (Ev.neg (by omega) (Ev.pos (by omega) (Ev.pos (by omega) (Ev.now _))))
 | succ m ih =>
  have hl : j - 1 < ((bytes s).drop 1).length := by rw [List.length_drop, bytes_length]; omega
  have hb : bt s (j : Int) = ((((bytes s).drop 1)[j - 1]).toNat : Int) := by
   rw [bt_bytes s j (by omega), List.getElem_drop]
   congr 2
   congr 1
   omega
  have hlt := beNum_lt (((bytes s).drop 1).take (j - 1))
  have hlen : (((bytes s).drop 1).take (j - 1)).length = j - 1 := by rw [List.length_take]; omega
  rw [hlen] at hlt
  have h7 : 256 ^ (j - 1) ≤ 256 ^ 7 := Nat.pow_le_pow_right (by decide) (by omega)
  have h7' : (256 : Nat) ^ 7 = 72057594037927936 := by decide
  have hbb := (((bytes s).drop 1)[j - 1]).toNat_lt
  have hst : beNum (((bytes s).drop 1).take (j + 1 - 1)) = beNum (((bytes s).drop 1).take (j - 1)) * 256 + (((bytes s).drop 1)[j - 1]).toNat := by
   rw [show j + 1 - 1 = (j - 1) + 1 from by omega, take_succ_get _ _ hl, beNum_snoc]
  refine Ev.step (fun _ => rfl) (Ev.pos (by omega) (Ev.pos (by omega) (Ev.pos (by omega) ?_)))
  have h1 : IntKind.u64.wrap (IntKind.u64.wrap (256 * ((beNum (((bytes s).drop 1).take (j - 1)) : Nat) : Int)) + IntKind.u64.wrap (bt s (j : Int))) = ((beNum (((bytes s).drop 1).take (j + 1 - 1)) : Nat) : Int) := by
   rw [hst, hb, IntKind.wrap_u64, IntKind.wrap_u64, IntKind.wrap_u64]
   omega
  rw [h1, w64 (n := (j : Int) + 1) (by omega) (by omega)]
  exact ih (j + 1) (by omega) (by omega)
theorem refTake_ev (s : ByteArray) : Ev (fun k => letterlockref2_Take.f k s) (takeF s) := by
 unfold letterlockref2_Take.f
 cases hs : bytes s with
 | nil =>
  have ht : takeF s = (0, ⟨#[]⟩, 2) := by unfold takeF; rw [hs]; rfl
  rw [ht]
  exact Ev.pos (by rw [bytes_toList, hs]) (Ev.step (fun _ => rfl) (Ev.now _))
 | cons c r =>
  have hsz : s.size = r.length + 1 := by rw [← bytes_length, hs, List.length_cons]
  have hb0 : bt s 0 = (c.toNat : Int) := by
   have := bt_bytes s 0 (by omega)
   simp only [hs, List.getElem_cons_zero] at this
   exact this
  have hlt := c.toNat_lt
  refine Ev.neg (by rw [bytes_toList, hs]; simp) (Ev.pos (by omega) ?_)
  rw [hb0]
  have hw : wrap64 (1 + wrap64 (c.toNat : Int)) = ((c.toNat + 1 : Nat) : Int) := by rw [w64 (n := (c.toNat : Int)) (by omega) (by omega), w64 (by omega) (by omega)]; omega
  rw [hw]
  have ht : takeF s = (match (if 8 < c.toNat then none else if r.length < c.toNat then none else if 0 < c.toNat ∧ r.head? = some 0 then none else some (beNum (r.take c.toNat), r.drop c.toNat)) with | none => (0, ⟨#[]⟩, 2) | some (n, r) => ((n : Int), ofBytes r, 0)) := by
   unfold takeF; rw [hs]; rfl
  by_cases h1 : 8 < c.toNat
  ·rw [if_pos h1] at ht
   rw [ht]
   exact Ev.pos (by omega) (Ev.step (fun _ => rfl) (Ev.now _))
  rw [if_neg h1] at ht
  refine Ev.neg (by omega) ?_
  by_cases h2 : r.length < c.toNat
  ·rw [if_pos h2] at ht
   rw [ht]
   exact Ev.pos (by omega) (Ev.step (fun _ => rfl) (Ev.now _))
  rw [if_neg h2] at ht
  refine Ev.neg (by omega) ?_
  have hgo : Ev (fun k => letterlockref2_Take.l0 k s 0 ((c.toNat + 1 : Nat) : Int) 1) (((beNum (r.take c.toNat) : Nat) : Int), ofBytes (r.drop c.toNat), 0) := by
   have := refTake_loop s 1 (c.toNat + 1) c.toNat (by omega) (by omega) (by omega) (by omega)
   rw [hs] at this
   refine ev_cast this ?_
   rw [show s.extract (c.toNat + 1) s.size = ofBytes (r.drop c.toNat) from bs_inj (by rw [bytes_from, hs, bytes_ofBytes]; rfl)]
   rfl
  by_cases h3 : 0 < c.toNat
  ·refine Ev.pos (by omega) ?_
   have hr0 : 0 < r.length := by omega
   have hb1 : bt s 1 = ((r[0]).toNat : Int) := by
    have := bt_bytes s 1 (by omega)
    simp only [hs, List.getElem_cons_succ] at this
    exact this
   have hh : r.head? = some r[0] := by rw [List.head?_eq_getElem?, List.getElem?_eq_getElem hr0]
   refine Ev.pos (by omega) ?_
   rw [hb1]
   by_cases h4 : r[0] = 0
   ·rw [if_pos ⟨h3, by rw [hh, h4]⟩] at ht
    rw [ht, h4]
    exact Ev.step (fun _ => rfl) (Ev.now _)
   ·have h5 : ¬ (r[0]).toNat = 0 := fun e => h4 (UInt8.toNat_inj.1 e)
    rw [if_neg (fun e => h4 (by have := e.2; rw [hh] at this; exact Option.some.inj this))] at ht
    rw [ht, beq_eq_false_iff_ne.mpr (by omega)]
    refine Ev.step (fun _ => rfl) (Ev.pos (by omega) ?_)
    rw [hb0, hw]
    exact hgo
  ·rw [if_neg (fun e => h3 e.1)] at ht
   rw [ht]
   refine Ev.neg (by omega) (Ev.step (fun _ => rfl) (Ev.pos (by omega) ?_))
   rw [hb0, hw]
   exact hgo
end Go.Proofs.YtfhanoloaejmkaaDoor.Ref
end
section

namespace Go.Proofs.YtfhanoloaejmkaaDoor.Ref
open Go.RowKit Go.Proofs.YtfhanoloaejmkaaDoor Go.Proofs.YtfhanoloaejmkaaDoor.PA Go.Proofs.YtfhanoloaejmkaaDoorW.PrintWords Go.Proofs.YtfhanoloaejmkaaDoorW.PrintLast
set_option linter.unusedVariables false
def catT (l : List ByteArray) : ByteArray := ofBytes (l.flatMap fun s => putT (bytes s))
def allB (l : List ByteArray) : ByteArray := numB l.length ++ catT l
theorem catT_cons (s : ByteArray) (l : List ByteArray) : catT (s :: l) = (numB s.size ++ s) ++ catT l := by
 refine bs_inj ?_
 unfold catT numB putT
 rw [bytes_append, bytes_append, bytes_ofBytes, bytes_ofBytes, bytes_ofBytes, List.flatMap_cons, bytes_length]
theorem catT_nil : catT [] = ⟨#[]⟩ := rfl
theorem catT_append (l m : List ByteArray) : catT (l ++ m) = catT l ++ catT m := by
 refine bs_inj ?_
 unfold catT
 rw [bytes_append, bytes_ofBytes, bytes_ofBytes, bytes_ofBytes, List.flatMap_append]
theorem catT_one (s : ByteArray) : catT [s] = numB s.size ++ s := by
 rw [catT_cons, catT_nil]
 refine bs_inj ?_
 rw [bytes_append]
 show bytes (numB s.size ++ s) ++ [] = _
 rw [List.append_nil]
theorem catT_size (l : List ByteArray) (h : ∀ s ∈ l, s.size ≤ 100000000000) : (catT l).size ≤ l.length * 100000000009 := by
 induction l with
 | nil => exact Nat.le_refl _
 | cons s l ih =>
  have h1 := h s List.mem_cons_self
  have h2 := size_numB (n := s.size) (by omega)
  have h3 := ih fun x hx => h x (List.mem_cons_of_mem _ hx)
  rw [catT_cons, ByteArray.size_append, ByteArray.size_append, List.length_cons]
  omega
theorem joinB_cons (a : ByteArray) (l : List ByteArray) : joinB (a :: l) = a ++ joinB l := by
 refine bs_inj ?_
 unfold joinB
 rw [bytes_append, bytes_ofBytes, bytes_ofBytes, List.flatMap_cons]
theorem joinB_texts (l : List ByteArray) : joinB (l.map fun s => numB s.size ++ s) = catT l := by
 induction l with
 | nil => rfl
 | cons s l ih => rw [List.map_cons, joinB_cons, ih, catT_cons]
theorem putAll_loop (l : List ByteArray) (hl : l.length ≤ 1000) (hs : ∀ s ∈ l, s.size ≤ 100000000000) (m i : Nat) (hm : i + m = l.length) (h0 : ByteArray) (hz : h0.size ≤ 9) :
  Ev (fun k => wire_PutAll.l0 k (h0 :: (l.take i).map fun s => numB s.size ++ s) l (l.length : Int) (i : Int)) (h0 ++ catT l) := by
 induction m generalizing i with
 | zero =>
  rw [List.take_of_length_le (by omega)]
  refine Ev.step (fun _ => rfl) (Ev.neg (by omega) (Ev.put (a := h0 ++ catT l) ?_ (Ev.now _)))
  have h1 := catT_size l hs
  have h2 : l.length * 100000000009 ≤ 1000 * 100000000009 := Nat.mul_le_mul_right _ hl
  unfold wire_join.f
  rw [if_pos ⟨by simp; omega, by rw [joinB_cons, joinB_texts, ByteArray.size_append]; omega⟩, joinB_cons, joinB_texts]
 | succ m ih =>
  have hi : i < l.length := by omega
  have hz := hs l[i] (List.getElem_mem hi)
  refine Ev.step (fun _ => rfl) (Ev.pos (by omega) (Ev.pos (by omega) (Ev.pos (by omega) ?_)))
  have hr : rdOf ByteArray.empty l (i : Int) = l[i] := by
   unfold rdOf; rw [Int.toNat_natCast, List.getD_eq_getElem?_getD, List.getElem?_eq_getElem hi]; rfl
  rw [hr]
  refine Ev.bind (putText_ev l[i] (by omega)) (Ev.pos (by simp; omega) ?_)
  rw [w64 (n := (i : Int) + 1) (by omega) (by omega)]
  have := ih (i + 1) (by omega)
  rw [List.take_succ_eq_append_getElem hi, List.map_append] at this
  exact this
theorem putAll_ev (l : List ByteArray) (hl : l.length ≤ 1000) (hs : ∀ s ∈ l, s.size ≤ 100000000000) : Ev (fun k => wire_PutAll.f k l) (allB l) := by
 have hw : IntKind.u64.wrap (l.length : Int) = (l.length : Int) := by rw [IntKind.wrap_u64]; omega
 unfold wire_PutAll.f allB
 rw [hw]
 exact Ev.bind (wirePut_ev l.length (by omega)) (putAll_loop l hl hs l.length 0 (by omega) _ (size_numB (by omega)))
theorem refPutText_ev (s : ByteArray) (h : s.size ≤ 100000000000000) : Ev (fun k => letterlockref2_PutText.f k s) (numB s.size ++ s) := by
 have hw : IntKind.u64.wrap (s.size : Int) = (s.size : Int) := by rw [IntKind.wrap_u64]; omega
 unfold letterlockref2_PutText.f
 rw [hw]
 have := size_numB (n := s.size) (by omega)
 exact Ev.bind (refPut_ev s.size (by omega)) (Ev.pos (by omega) (Ev.now _))
theorem refPutAll_loop (l : List ByteArray) (hl : l.length ≤ 1000) (hs : ∀ s ∈ l, s.size ≤ 100000000000) (m i : Nat) (hm : i + m = l.length) (h0 : ByteArray) (hz : h0.size ≤ 9) :
  Ev (fun k => letterlockref2_PutAll.l0 k l (h0 ++ catT (l.take i)) (i : Int)) (h0 ++ catT l) := by
 induction m generalizing i with
 | zero =>
  rw [List.take_of_length_le (by omega)]
  exact Ev.step (fun _ => rfl) (Ev.neg (by omega) (Ev.now _))
 | succ m ih =>
  have hi : i < l.length := by omega
  have hz := hs l[i] (List.getElem_mem hi)
  refine Ev.step (fun _ => rfl) (Ev.pos (by omega) (Ev.pos (by omega) ?_))
  have hr : rdOf ByteArray.empty l (i : Int) = l[i] := by
   unfold rdOf; rw [Int.toNat_natCast, List.getD_eq_getElem?_getD, List.getElem?_eq_getElem hi]; rfl
  rw [hr]
  have h1 := catT_size (l.take i) fun s hs2 => hs s (List.mem_of_mem_take hs2)
  have h2 : (l.take i).length * 100000000009 ≤ 1000 * 100000000009 := Nat.mul_le_mul_right _ (by rw [List.length_take]; omega)
  have h3 := size_numB (n := l[i].size) (by omega)
  refine Ev.bind (refPutText_ev l[i] (by omega)) (Ev.pos (by rw [ByteArray.size_append, ByteArray.size_append]; omega) ?_)
  rw [w64 (n := (i : Int) + 1) (by omega) (by omega)]
  have := ih (i + 1) (by omega)
  rw [List.take_succ_eq_append_getElem hi, catT_append, catT_one, ← ByteArray.append_assoc] at this
  exact this
theorem refPutAll_ev (l : List ByteArray) (hl : l.length ≤ 1000) (hs : ∀ s ∈ l, s.size ≤ 100000000000) : Ev (fun k => letterlockref2_PutAll.f k l) (allB l) := by
 have hw : IntKind.u64.wrap (l.length : Int) = (l.length : Int) := by rw [IntKind.wrap_u64]; omega
 unfold letterlockref2_PutAll.f allB
 rw [hw]
 refine Ev.bind (refPut_ev l.length (by omega)) ?_
 have := refPutAll_loop l hl hs l.length 0 (by omega) (numB l.length) (size_numB (by omega))
 have e : numB l.length ++ catT (l.take 0) = numB l.length := by
  rw [List.take_zero, catT_nil]
  refine bs_inj ?_
  rw [bytes_append]
  show _ ++ [] = _
  rw [List.append_nil]
 rw [e] at this
 exact this
def takeGo (most : Nat) : Nat → ByteArray → List ByteArray → List ByteArray × Int
 | 0, s, acc => if s.toList = [] then (acc, 0) else ([], 2)
 | n + 1, s, acc => if (takeTextF most s).2.2 = 0 then takeGo most n (takeTextF most s).2.1 (acc ++ [(takeTextF most s).1]) else ([], (takeTextF most s).2.2)
def takeAllF (many most : Nat) (s : ByteArray) : List ByteArray × Int :=
 if (takeF s).2.2 = 0 then (if (takeF s).1 > (many : Int) then ([], 10) else takeGo most (takeF s).1.toNat (takeF s).2.1 []) else ([], (takeF s).2.2)
theorem takeText_size (most : Nat) (s : ByteArray) : (takeTextF most s).2.1.size ≤ s.size := by
 unfold takeTextF
 cases h : takeL (bytes s) with
 | none => exact Nat.zero_le _
 | some x =>
  obtain ⟨n, r⟩ := x
  have h1 := congrArg List.length (take_inv h).1
  rw [bytes_length, List.length_append] at h1
  simp only
  split
  ·exact Nat.zero_le _
  ·split
   ·exact Nat.zero_le _
   ·rw [size_ofBytes, List.length_drop]; omega
theorem takeF_size (s : ByteArray) : (takeF s).2.1.size ≤ s.size ∧ 0 ≤ (takeF s).1 ∧ (takeF s).1 < 18446744073709551616 := by
 unfold takeF
 cases h : takeL (bytes s) with
 | none => exact ⟨Nat.zero_le _, by simp, by simp⟩
 | some x =>
  obtain ⟨n, r⟩ := x
  have h1 := congrArg List.length (take_inv h).1
  have h2 := (take_inv h).2
  rw [bytes_length, List.length_append] at h1
  simp only
  rw [size_ofBytes]
  omega
theorem limited_val (most : Nat) (s : ByteArray) (h : s.size ≤ 1000000) (hm : most ≤ 1000000) : wire_limited.f s (most : Int) = some (limitedF most s) := by
 unfold wire_limited.f
 rw [if_pos ⟨by omega, by omega, by omega⟩, Int.toNat_natCast]
theorem limited_take (most : Nat) (s : ByteArray) : limitedF most s = if (takeF s).2.2 = 0 then (if (takeF s).1 > (most : Int) then (0, ⟨#[]⟩, 10) else takeF s) else (0, ⟨#[]⟩, (takeF s).2.2) := by
 unfold limitedF takeF
 cases takeL (bytes s) with
 | none => rfl
 | some x =>
  obtain ⟨n, r⟩ := x
  simp only
  rw [if_pos trivial]
  by_cases h : most < n
  ·rw [if_pos h, if_pos (by omega)]
  ·rw [if_neg h, if_neg (by omega)]
theorem takeAll_loop (most : Nat) (hm : most ≤ 1000000) (n : Nat) (hn : n ≤ 1000) (m i : Nat) (hi : i + m = n) (s : ByteArray) (acc : List ByteArray) (hs : s.size ≤ 1000000) (ha : acc.length = i) :
  Ev (fun k => wire_TakeAll.l0 k (most : Int) s acc (n : Int) (i : Int)) (takeGo most m s acc) := by
 induction m generalizing i s acc with
 | zero =>
  refine Ev.step (fun _ => rfl) (Ev.neg (by omega) ?_)
  unfold takeGo
  by_cases h : s.toList = ([] : List UInt8)
  ·simp only [if_pos h]; exact Ev.now _
  ·simp only [if_neg h]; exact Ev.now _
 | succ m ih =>
  have hz := takeText_size most s
  refine Ev.step (fun _ => rfl) (Ev.pos (by omega) ?_)
  have hv : wire_TakeText.f s (most : Int) = some (takeTextF most s) := by
   unfold wire_TakeText.f
   rw [if_pos ⟨by omega, by omega, by omega⟩, Int.toNat_natCast]
  refine Ev.put hv ?_
  rw [takeGo]
  by_cases h : (takeTextF most s).2.2 = 0
  ·rw [if_pos h]
   refine Ev.pos h (Ev.pos (by omega) ?_)
   rw [w64 (n := (i : Int) + 1) (by omega) (by omega)]
   exact ih (i + 1) (by omega) _ _ (by omega) (by simp; omega)
  ·rw [if_neg h]
   exact Ev.neg h (Ev.now _)
theorem takeAll_ev (many most : Nat) (s : ByteArray) (hmn : many ≤ 1000) (hm : most ≤ 1000000) (hs : s.size ≤ 1000000) : Ev (fun k => wire_TakeAll.f k s (many : Int) (most : Int)) (takeAllF many most s) := by
 have hz := takeF_size s
 unfold wire_TakeAll.f takeAllF
 refine Ev.put (limited_val many s hs (by omega)) ?_
 rw [limited_take]
 by_cases h : (takeF s).2.2 = 0
 ·rw [if_pos h, if_pos h]
  by_cases h2 : (takeF s).1 > (many : Int)
  ·rw [if_pos h2, if_pos h2]
   exact Ev.neg (by simp) (Ev.now _)
  ·rw [if_neg h2, if_neg h2]
   refine Ev.pos h ?_
   have e : (takeF s).1 = (((takeF s).1.toNat : Nat) : Int) := by omega
   have := takeAll_loop most hm (takeF s).1.toNat (by omega) (takeF s).1.toNat 0 (by omega) (takeF s).2.1 [] (by omega) rfl
   rw [← e] at this
   exact this
 ·rw [if_neg h, if_neg h]
  exact Ev.neg h (Ev.now _)
theorem refTakeText_any (most : Nat) (hm : most ≤ 1000000) (s : ByteArray) (h : s.size ≤ 1000000) : Ev (fun k => letterlockref2_TakeText.f k s (most : Int)) (takeTextF most s) := by
 unfold letterlockref2_TakeText.f takeTextF
 refine Ev.bind (refTake_ev s) ?_
 unfold takeF
 cases ht : takeL (bytes s) with
 | none => exact Ev.neg (by simp) (Ev.now _)
 | some x =>
  obtain ⟨n, r⟩ := x
  have hn := (take_inv ht).2
  have hr : r.length ≤ 1000000 := by
   have := congrArg List.length (take_inv ht).1
   rw [bytes_length, List.length_append] at this
   omega
  refine Ev.pos rfl ?_
  simp only
  have hmx : IntKind.u64.wrap (mx (most : Int) 0) = (most : Int) := by
   have : mx (most : Int) 0 = (most : Int) := by unfold mx; omega
   rw [this, IntKind.wrap_u64]; omega
  rw [hmx, size_ofBytes, show IntKind.u64.wrap (r.length : Int) = (r.length : Int) from by rw [IntKind.wrap_u64]; omega]
  by_cases h1 : most < n
  ·rw [if_pos h1]; exact Ev.pos (by omega) (Ev.now _)
  rw [if_neg h1]
  refine Ev.neg (by omega) ?_
  by_cases h2 : r.length < n
  ·rw [if_pos h2]; exact Ev.pos (by omega) (Ev.now _)
  rw [if_neg h2]
  refine Ev.neg (by omega) (Ev.pos (by omega) (Ev.pos (by omega) (Ev.const ?_)))
  rw [Int.toNat_natCast, show (ofBytes r).extract 0 n = ofBytes (r.take n) from bs_inj (by rw [bytes_to, bytes_ofBytes, bytes_ofBytes]),
   show (ofBytes r).extract n r.length = ofBytes (r.drop n) from bs_inj (by rw [← size_ofBytes r, bytes_from, bytes_ofBytes, bytes_ofBytes])]
theorem refTakeAll_loop (most : Nat) (hm : most ≤ 1000000) (n : Nat) (hn : n ≤ 1000) (m i : Nat) (hi : i + m = n) (s : ByteArray) (acc : List ByteArray) (hs : s.size ≤ 1000000) (ha : acc.length = i) :
  Ev (fun k => letterlockref2_TakeAll.l0 k (most : Int) (n : Int) s acc (i : Int)) (takeGo most m s acc) := by
 induction m generalizing i s acc with
 | zero =>
  refine Ev.step (fun _ => rfl) (Ev.neg (by omega) ?_)
  unfold takeGo
  by_cases h : s.toList = ([] : List UInt8)
  ·simp only [if_pos h]; exact Ev.now _
  ·simp only [if_neg h]; exact Ev.now _
 | succ m ih =>
  have hz := takeText_size most s
  refine Ev.step (fun _ => rfl) (Ev.pos (by omega) (Ev.bind (refTakeText_any most hm s hs) ?_))
  rw [takeGo]
  by_cases h : (takeTextF most s).2.2 = 0
  ·rw [if_pos h]
   refine Ev.pos h (Ev.pos (by omega) ?_)
   rw [show IntKind.u64.wrap ((i : Int) + 1) = ((i + 1 : Nat) : Int) from by rw [IntKind.wrap_u64]; omega]
   exact ih (i + 1) (by omega) _ _ (by omega) (by simp; omega)
  ·rw [if_neg h]
   exact Ev.neg h (Ev.now _)
theorem refTakeAll_ev (many most : Nat) (s : ByteArray) (hmn : many ≤ 1000) (hm : most ≤ 1000000) (hs : s.size ≤ 1000000) : Ev (fun k => letterlockref2_TakeAll.f k s (many : Int) (most : Int)) (takeAllF many most s) := by
 have hz := takeF_size s
 unfold letterlockref2_TakeAll.f takeAllF
 refine Ev.bind (refTake_ev s) ?_
 have hmx : IntKind.u64.wrap (mx (many : Int) 0) = (many : Int) := by
  have : mx (many : Int) 0 = (many : Int) := by unfold mx; omega
  rw [this, IntKind.wrap_u64]; omega
 rw [hmx]
 by_cases h : (takeF s).2.2 = 0
 ·rw [if_pos h]
  refine Ev.pos h ?_
  by_cases h2 : (takeF s).1 > (many : Int)
  ·rw [if_pos h2]
   exact Ev.pos h2 (Ev.now _)
  ·rw [if_neg h2]
   refine Ev.neg h2 ?_
   have e : (takeF s).1 = (((takeF s).1.toNat : Nat) : Int) := by omega
   have := refTakeAll_loop most hm (takeF s).1.toNat (by omega) (takeF s).1.toNat 0 (by omega) (takeF s).2.1 [] (by omega) rfl
   rw [← e] at this
   exact this
 ·rw [if_neg h]
  exact Ev.neg h (Ev.now _)
theorem takeText_put {most : Nat} {s : ByteArray} (h : s.size ≤ most) (hm : most ≤ 1000000) (r : ByteArray) : takeTextF most ((numB s.size ++ s) ++ r) = (s, r, 0) := by
 unfold takeTextF
 have e : bytes ((numB s.size ++ s) ++ r) = putL s.size ++ (bytes s ++ bytes r) := by
  rw [bytes_append, bytes_append]; unfold numB; rw [bytes_ofBytes, List.append_assoc]
 rw [e, take_put (by omega)]
 simp only
 rw [if_neg (by omega), if_neg (by rw [List.length_append, bytes_length]; omega), List.take_append_of_le_length (by rw [bytes_length]; exact Nat.le_refl _), List.drop_append_of_le_length (by rw [bytes_length]; exact Nat.le_refl _)]
 rw [List.take_of_length_le (by rw [bytes_length]; exact Nat.le_refl _), List.drop_eq_nil_of_le (by rw [bytes_length]; exact Nat.le_refl _), List.nil_append, ofBytes_bytes, ofBytes_bytes]
theorem takeText_inv {most : Nat} {s t r : ByteArray} (h : takeTextF most s = (t, r, 0)) : s = (numB t.size ++ t) ++ r ∧ t.size ≤ most := by
 unfold takeTextF at h
 cases ht : takeL (bytes s) with
 | none => rw [ht] at h; simp at h
 | some x =>
  obtain ⟨n, q⟩ := x
  rw [ht] at h
  simp only at h
  by_cases h1 : most < n
  ·rw [if_pos h1] at h; simp at h
  rw [if_neg h1] at h
  by_cases h2 : q.length < n
  ·rw [if_pos h2] at h; simp at h
  rw [if_neg h2] at h
  simp only [Prod.mk.injEq, and_true] at h
  obtain ⟨rfl, rfl⟩ := h
  have h3 := (take_inv ht).1
  have hl : (ofBytes (q.take n)).size = n := by rw [size_ofBytes, List.length_take]; omega
  refine ⟨bs_inj ?_, by omega⟩
  rw [h3, bytes_append, bytes_append, hl]
  unfold numB
  rw [bytes_ofBytes, bytes_ofBytes, bytes_ofBytes, List.append_assoc, List.take_append_drop]
theorem takeGo_put (most : Nat) (hm : most ≤ 1000000) (l acc : List ByteArray) (h : ∀ s ∈ l, s.size ≤ most) : takeGo most l.length (catT l) acc = (acc ++ l, 0) := by
 induction l generalizing acc with
 | nil =>
  rw [List.length_nil, takeGo, if_pos (by rw [catT_nil, bytes_toList]; rfl), List.append_nil]
 | cons s l ih =>
  rw [List.length_cons, takeGo, catT_cons, takeText_put (h s List.mem_cons_self) hm, if_pos rfl, ih _ (fun x hx => h x (List.mem_cons_of_mem _ hx)), List.append_assoc]
  rfl
theorem takeGo_inv (most : Nat) (n : Nat) (s : ByteArray) (acc l : List ByteArray) (h : takeGo most n s acc = (l, 0)) : ∃ m, l = acc ++ m ∧ m.length = n ∧ s = catT m ∧ ∀ x ∈ m, x.size ≤ most := by
 induction n generalizing s acc with
 | zero =>
  rw [takeGo] at h
  by_cases hs : s.toList = []
  ·rw [if_pos hs] at h
   simp only [Prod.mk.injEq, and_true] at h
   refine ⟨[], by rw [List.append_nil, h], rfl, bs_inj ?_, by simp⟩
   rw [← bytes_toList, hs]; rfl
  ·rw [if_neg hs] at h; simp at h
 | succ n ih =>
  rw [takeGo] at h
  by_cases ht : (takeTextF most s).2.2 = 0
  ·rw [if_pos ht] at h
   obtain ⟨m, h1, h2, h3, h4⟩ := ih _ _ h
   have h5 := takeText_inv (most := most) (s := s) (t := (takeTextF most s).1) (r := (takeTextF most s).2.1) (by rw [← ht])
   refine ⟨(takeTextF most s).1 :: m, by rw [h1, List.append_assoc]; rfl, by rw [List.length_cons, h2], by rw [catT_cons, ← h3]; exact h5.1, fun x hx => ?_⟩
   rcases List.mem_cons.1 hx with rfl | hx
   ·exact h5.2
   ·exact h4 x hx
  ·rw [if_neg ht] at h
   simp only [Prod.mk.injEq] at h
   exact absurd h.2 ht
theorem takeAll_put {many most : Nat} (hm : most ≤ 1000000) (hmn : many ≤ 1000) {l : List ByteArray} (hl : l.length ≤ many) (h : ∀ s ∈ l, s.size ≤ most) : takeAllF many most (allB l) = (l, 0) := by
 have e : takeF (allB l) = ((l.length : Int), catT l, 0) := by
  unfold takeF allB
  rw [bytes_append]
  unfold numB
  rw [bytes_ofBytes, take_put (by omega)]
  simp only
  rw [ofBytes_bytes]
 unfold takeAllF
 rw [e, if_pos rfl, if_neg (by simp only; omega)]
 simp only [Int.toNat_natCast]
 rw [takeGo_put most hm l [] h]
 rfl
theorem takeAll_inv {many most : Nat} {s : ByteArray} {l : List ByteArray} (h : takeAllF many most s = (l, 0)) : s = allB l ∧ l.length ≤ many ∧ ∀ x ∈ l, x.size ≤ most := by
 unfold takeAllF at h
 by_cases h1 : (takeF s).2.2 = 0
 ·rw [if_pos h1] at h
  by_cases h2 : (takeF s).1 > (many : Int)
  ·rw [if_pos h2] at h; simp at h
  rw [if_neg h2] at h
  obtain ⟨m, e1, e2, e3, e4⟩ := takeGo_inv _ _ _ _ _ h
  rw [List.nil_append] at e1
  subst e1
  unfold takeF at h1 h2 e2 e3
  cases ht : takeL (bytes s) with
  | none => rw [ht] at h1; simp at h1
  | some x =>
   obtain ⟨n, r⟩ := x
   rw [ht] at h2 e2 e3
   simp only [Int.toNat_natCast] at h2 e2 e3
   refine ⟨bs_inj ?_, by omega, e4⟩
   unfold allB
   rw [(take_inv ht).1, bytes_append, ← e3, e2]
   unfold numB
   rw [bytes_ofBytes, bytes_ofBytes]
 ·rw [if_neg h1] at h
  simp only [Prod.mk.injEq] at h
  exact absurd h.2 h1
end Go.Proofs.YtfhanoloaejmkaaDoor.Ref
end
section

namespace Go.Proofs.YtfhanoloaejmkaaDoor
open Go.Proofs.YtfhanoloaejmkaaDoor.Ref
set_option linter.unusedVariables false
def sameR (a b : Rt) : Bool := decide (a.o = b.o) && decide (a.f = b.f) && decide (a.e = b.e) && decide (a.rs = b.rs) && decide (a.ws = b.ws)
theorem same_iff (a b : Rt) : sameR a b = true ↔ a = b := by
 unfold sameR
 simp only [Bool.and_eq_true, decide_eq_true_eq]
 cases a; cases b; simp [and_assoc]
def bagR (r : Rt) : List ByteArray := [r.o, r.f, numB r.e.toNat, allB r.rs, allB r.ws]
def putF (r : Rt) : ByteArray × Int := if rightR r = true then (allB (bagR r), 0) else (⟨#[]⟩, 1)
def rtOf (l : List ByteArray) (e : Int) : Rt := ⟨nth l 0, nth l 1, e, (takeAllF 5 4000 (nth l 3)).1, (takeAllF 5 4000 (nth l 4)).1⟩
def least8 (n : Int) : Int := if 8 < n then 8 else n
def takeR (s : ByteArray) : Rt × Int :=
 if (takeAllF 5 4000 s).2 = 0 ∧ (takeAllF 5 4000 s).1.length = 5 then
  (if (putF (rtOf (takeAllF 5 4000 s).1 (least8 (takeF (nth (takeAllF 5 4000 s).1 2)).1))).2 = 0 ∧ (putF (rtOf (takeAllF 5 4000 s).1 (least8 (takeF (nth (takeAllF 5 4000 s).1 2)).1))).1 = s then (rtOf (takeAllF 5 4000 s).1 (least8 (takeF (nth (takeAllF 5 4000 s).1 2)).1), 0) else (noRt, 2))
 else (noRt, 2)
def refTakeR (s : ByteArray) : Rt × Int :=
 if (takeAllF 5 4000 s).2 = 0 ∧ (takeAllF 5 4000 s).1.length = 5 then
  (if (takeF (nth (takeAllF 5 4000 s).1 2)).2.2 = 0 ∧ (takeF (nth (takeAllF 5 4000 s).1 2)).2.1 = ⟨#[]⟩ ∧ (takeAllF 5 4000 (nth (takeAllF 5 4000 s).1 3)).2 = 0 ∧ (takeAllF 5 4000 (nth (takeAllF 5 4000 s).1 4)).2 = 0 ∧ (takeF (nth (takeAllF 5 4000 s).1 2)).1 ≤ 7 ∧ rightR (rtOf (takeAllF 5 4000 s).1 (takeF (nth (takeAllF 5 4000 s).1 2)).1) = true then (rtOf (takeAllF 5 4000 s).1 (takeF (nth (takeAllF 5 4000 s).1 2)).1, 0) else (noRt, 2))
 else (noRt, 2)
theorem name_size {s : ByteArray} (h : rightN (bytes s) = true) : s.size ≤ 128 := by
 have := right_len h
 rwa [bytes_length] at this
theorem catT_le (l : List ByteArray) (b : Nat) (hb : b ≤ 100000) (h : ∀ s ∈ l, s.size ≤ b) : (catT l).size ≤ l.length * (b + 9) := by
 induction l with
 | nil => rw [catT_nil]; exact Nat.zero_le _
 | cons s l ih =>
  rw [catT_cons, ByteArray.size_append, ByteArray.size_append, List.length_cons]
  have h1 := h s List.mem_cons_self
  have h2 := size_numB (n := s.size) (by omega)
  have h3 := ih fun x hx => h x (List.mem_cons_of_mem _ hx)
  have : (l.length + 1) * (b + 9) = l.length * (b + 9) + (b + 9) := Nat.succ_mul _ _
  omega
theorem allB_le (l : List ByteArray) (b : Nat) (hb : b ≤ 100000) (hl : l.length ≤ 1000) (h : ∀ s ∈ l, s.size ≤ b) : (allB l).size ≤ l.length * (b + 9) + 9 := by
 unfold allB
 rw [ByteArray.size_append]
 have := size_numB (n := l.length) (by omega)
 have := catT_le l b hb h
 omega
theorem bag_small {r : Rt} (h : rightR r = true) : ∀ s ∈ bagR r, s.size ≤ 700 := by
 obtain ⟨p1, p2, p3, p4, p5, p6, p7, p8, p9⟩ := right_parts h
 have a1 := allB_le r.rs 128 (by omega) (by omega) (fun s hs => name_size (p7 s hs).1)
 have a2 := allB_le r.ws 128 (by omega) (by omega) (fun s hs => name_size (p8 s hs).1)
 have a3 := size_numB (n := r.e.toNat) (by omega)
 have a4 := name_size p1
 have a5 := name_size p2
 intro s hs
 unfold bagR at hs
 simp only [List.mem_cons, List.not_mem_nil, or_false] at hs
 rcases hs with rfl | rfl | rfl | rfl | rfl <;> omega
theorem bag_take {r : Rt} (h : rightR r = true) : takeAllF 5 4000 (allB (bagR r)) = (bagR r, 0) :=
 takeAll_put (by omega) (by omega) (Nat.le_refl 5) fun s hs => Nat.le_trans (bag_small h s hs) (by omega)
theorem num_take {n : Nat} (h : n < 18446744073709551616) : takeF (numB n) = ((n : Int), ⟨#[]⟩, 0) := by
 unfold takeF numB
 have e := take_put (n := n) h []
 rw [List.append_nil] at e
 rw [bytes_ofBytes, e]
 rfl
theorem rt_bag {r : Rt} (h : rightR r = true) : rtOf (bagR r) r.e = r := by
 obtain ⟨p1, p2, p3, p4, p5, p6, p7, p8, p9⟩ := right_parts h
 unfold rtOf bagR
 have e3 : takeAllF 5 4000 (allB r.rs) = (r.rs, 0) := takeAll_put (by omega) (by omega) (by omega) fun s hs => Nat.le_trans (name_size (p7 s hs).1) (by omega)
 have e4 : takeAllF 5 4000 (allB r.ws) = (r.ws, 0) := takeAll_put (by omega) (by omega) (by omega) fun s hs => Nat.le_trans (name_size (p8 s hs).1) (by omega)
 show (⟨r.o, r.f, r.e, (takeAllF 5 4000 (allB r.rs)).1, (takeAllF 5 4000 (allB r.ws)).1⟩ : Rt) = r
 rw [e3, e4]
theorem bag_num {r : Rt} (h : rightR r = true) : (takeF (nth (bagR r) 2)) = (r.e, ⟨#[]⟩, 0) := by
 obtain ⟨p1, p2, p3, p4, p5, p6, p7, p8, p9⟩ := right_parts h
 show takeF (numB r.e.toNat) = _
 rw [num_take (by omega), Int.toNat_of_nonneg p3.1]
theorem take_was {s : ByteArray} (h : (takeR s).2 = 0) : rightR (takeR s).1 = true ∧ putF (takeR s).1 = (s, 0) ∧ s = allB (bagR (takeR s).1) := by
 unfold takeR at h ⊢
 split at h
 ·rename_i h1
  rw [if_pos h1]
  split at h
  ·rename_i h2
   rw [if_pos h2]
   generalize rtOf (takeAllF 5 4000 s).1 (least8 (takeF (nth (takeAllF 5 4000 s).1 2)).1) = r at *
   have hr : rightR r = true := by
    cases c : rightR r with
    | true => rfl
    | false =>
     have := h2.1
     unfold putF at this
     rw [if_neg (by rw [c]; simp)] at this
     cases this
   have e : putF r = (allB (bagR r), 0) := by unfold putF; rw [if_pos hr]
   refine ⟨hr, ?_, ?_⟩
   ·show putF r = _
    rw [e] at h2 ⊢
    exact congrArg (fun x => (x, (0 : Int))) h2.2
   ·show s = allB (bagR r)
    rw [e] at h2
    exact h2.2.symm
  ·cases h
 ·cases h
theorem take_not {s : ByteArray} (h : (takeR s).2 ≠ 0) : takeR s = (noRt, 2) := by
 unfold takeR at h ⊢
 split
 ·rename_i h1
  rw [if_pos h1] at h
  split
  ·rename_i h2
   rw [if_pos h2] at h
   exact absurd rfl h
  ·rfl
 ·rfl
theorem nth_mem {l : List ByteArray} {i : Nat} (h : i < l.length) : nth l i ∈ l := by rw [nth_get h]; exact List.getElem_mem h
theorem takeF_num {s : ByteArray} {n : Int} (h : takeF s = (n, ⟨#[]⟩, 0)) : s = numB n.toNat ∧ 0 ≤ n := by
 unfold takeF at h
 cases ht : takeL (bytes s) with
 | none => rw [ht] at h; simp at h
 | some x =>
  obtain ⟨m, q⟩ := x
  rw [ht] at h
  simp only [Prod.mk.injEq, and_true] at h
  obtain ⟨rfl, hq⟩ := h
  refine ⟨bs_inj ?_, by omega⟩
  have hq' : q = [] := by
   have := congrArg bytes hq
   rw [bytes_ofBytes] at this
   exact this
  rw [(take_inv ht).1, hq', List.append_nil, Int.toNat_natCast]
  unfold numB
  rw [bytes_ofBytes]
theorem five {l : List ByteArray} (h : l.length = 5) : l = [nth l 0, nth l 1, nth l 2, nth l 3, nth l 4] := by
 match l, h with
 | [a, b, c, d, e], _ => rfl
theorem ref_take (s : ByteArray) : refTakeR s = takeR s := by
 unfold refTakeR takeR
 by_cases h1 : (takeAllF 5 4000 s).2 = 0 ∧ (takeAllF 5 4000 s).1.length = 5
 ·rw [if_pos h1, if_pos h1]
  obtain ⟨l, hl⟩ : ∃ l, takeAllF 5 4000 s = (l, 0) := ⟨(takeAllF 5 4000 s).1, by rw [← h1.1]⟩
  rw [hl] at h1 ⊢
  simp only at h1 ⊢
  have hs := takeAll_inv hl
  have h5 := h1.2
  by_cases h2 : (takeF (nth l 2)).2.2 = 0 ∧ (takeF (nth l 2)).2.1 = ⟨#[]⟩ ∧ (takeAllF 5 4000 (nth l 3)).2 = 0 ∧ (takeAllF 5 4000 (nth l 4)).2 = 0 ∧ (takeF (nth l 2)).1 ≤ 7 ∧ rightR (rtOf l (takeF (nth l 2)).1) = true
  ·rw [if_pos h2]
   obtain ⟨a1, a2, a3, a4, a5, a6⟩ := h2
   have e8 : least8 (takeF (nth l 2)).1 = (takeF (nth l 2)).1 := by unfold least8; rw [if_neg (by omega)]
   rw [e8]
   have hn := takeF_num (s := nth l 2) (n := (takeF (nth l 2)).1) (by rw [← a2, ← a1])
   have h3 := takeAll_inv (s := nth l 3) (l := (takeAllF 5 4000 (nth l 3)).1) (by rw [← a3])
   have h4 := takeAll_inv (s := nth l 4) (l := (takeAllF 5 4000 (nth l 4)).1) (by rw [← a4])
   have e : putF (rtOf l (takeF (nth l 2)).1) = (s, 0) := by
    unfold putF
    rw [if_pos a6, hs.1]
    have : bagR (rtOf l (takeF (nth l 2)).1) = l := by
     unfold bagR rtOf
     simp only
     rw [← hn.1, ← h3.1, ← h4.1]
     exact (five h5).symm
    rw [this]
   rw [e, if_pos ⟨rfl, rfl⟩]
  ·rw [if_neg h2]
   refine (if_neg fun h3 => h2 ?_).symm
   obtain ⟨b1, b2⟩ := h3
   generalize hr : rtOf l (least8 (takeF (nth l 2)).1) = r at b1 b2
   have hr1 : rightR r = true := by
    cases c : rightR r with
    | true => rfl
    | false => unfold putF at b1; rw [if_neg (by rw [c]; simp)] at b1; cases b1
   unfold putF at b2
   rw [if_pos hr1] at b2
   have hb := bag_take hr1
   rw [show allB (bagR r) = s from b2, hl] at hb
   have hlb : l = bagR r := (Prod.mk.inj hb).1
   obtain ⟨p1, p2, p3, p4, p5, p6, p7, p8, p9⟩ := right_parts hr1
   have e3 : takeAllF 5 4000 (allB r.rs) = (r.rs, 0) := takeAll_put (by omega) (by omega) (by omega) fun s hs => Nat.le_trans (name_size (p7 s hs).1) (by omega)
   have e4 : takeAllF 5 4000 (allB r.ws) = (r.ws, 0) := takeAll_put (by omega) (by omega) (by omega) fun s hs => Nat.le_trans (name_size (p8 s hs).1) (by omega)
   rw [hlb, bag_num hr1]
   refine ⟨rfl, rfl, ?_, ?_, p3.2, ?_⟩
   ·show (takeAllF 5 4000 (allB r.rs)).2 = 0
    rw [e3]
   ·show (takeAllF 5 4000 (allB r.ws)).2 = 0
    rw [e4]
   ·show rightR (rtOf (bagR r) r.e) = true
    rw [rt_bag hr1]; exact hr1
 ·rw [if_neg h1, if_neg h1]
end Go.Proofs.YtfhanoloaejmkaaDoor
end
section

namespace Go.Proofs.YtfhanoloaejmkaaDoor.PA
open Go.RowKit Go.Proofs.YtfhanoloaejmkaaDoorW.PrintWords Go.Proofs.YtfhanoloaejmkaaDoorW.PrintLast Go.Proofs.YtfhanoloaejmkaaDoorW.PrintMore
attribute [local go_sem] max2_int min2_int max_two min_two max_three min_three max_four min_four   -- for this text's walks alone
set_option linter.unusedVariables false
set_option linter.unusedSimpArgs false
mutual
def letterlockref1_first.j2 : Nat → ByteArray → Int → Int → Int → Option (Int × Int)
 | 0, _, _, _, _ => none
 | k + 1, x0, x4, x5, x6 => if x4 = 0 then (letterlockref1_first.j3 k x0 x4 x5 x6 true) else (letterlockref1_first.j3 k x0 x4 x5 x6 (decide ((x0.size : Int) < x4)))
def letterlockref1_first.j3 : Nat → ByteArray → Int → Int → Int → Bool → Option (Int × Int)
 | 0, _, _, _, _, _ => none
 | k + 1, x0, x4, x5, x6, x62 => if x62 = true then (some (0, 0)) else (letterlockref1_first.l0 k x0 x4 x5 x6 1)
def letterlockref1_first.l0 : Nat → ByteArray → Int → Int → Int → Int → Option (Int × Int)
 | 0, _, _, _, _, _ => none
 | k + 1, x0, x4, x5, x6, x7 => if x7 < x4 then (if 0 ≤ x7 then (if x7 < (x0.size : Int) then (if (bt x0 x7) < 128 then (some (0, 0)) else (if (bt x0 x7) > 191 then (some (0, 0)) else (letterlockref1_first.l0 k x0 x4 (wrap32 ((wrap32 (64 * x5)) + (((bt x0 x7) - 128) % 256))) x6 (wrap64 (x7 + 1))))) else (none)) else (none)) else (if x5 < x6 then (some (0, 0)) else ((letterlockref1_valid.f x5).bind fun t156 => (if t156 = true then (some (x5, x4)) else (some (0, 0)))))
def letterlockref1_first.j0 : Nat → ByteArray → Int → Int → Int → Bool → Option (Int × Int)
 | 0, _, _, _, _, _ => none
 | k + 1, x0, x4, x5, x6, x16 => if x16 = true then (if 0 < (x0.size : Int) then (letterlockref1_first.j2 k x0 2 (((bt x0 0) - 192) % 256) 128) else (none)) else (if 0 < (x0.size : Int) then (if (bt x0 0) ≥ 224 then (letterlockref1_first.j1 k x0 x4 x5 x6 (decide ((bt x0 0) < 240))) else (letterlockref1_first.j1 k x0 x4 x5 x6 false)) else (none))
def letterlockref1_first.j1 : Nat → ByteArray → Int → Int → Int → Bool → Option (Int × Int)
 | 0, _, _, _, _, _ => none
 | k + 1, x0, x4, x5, x6, x29 => if x29 = true then (if 0 < (x0.size : Int) then (letterlockref1_first.j2 k x0 3 (((bt x0 0) - 224) % 256) 2048) else (none)) else (if 0 < (x0.size : Int) then (if (bt x0 0) ≥ 240 then (if (bt x0 0) < 248 then (letterlockref1_first.j2 k x0 4 (((bt x0 0) - 240) % 256) 65536) else (letterlockref1_first.j2 k x0 x4 x5 x6)) else (letterlockref1_first.j2 k x0 x4 x5 x6)) else (none))
end
def letterlockref1_first.f (k : Nat) (a0 : ByteArray) : Option (Int × Int) := if a0.toList = ([] : List UInt8) then (some (0, 0)) else (if 0 < (a0.size : Int) then (if (bt a0 0) < 128 then (some (wrap32 (bt a0 0), 1)) else (if (bt a0 0) ≥ 192 then (letterlockref1_first.j0 k a0 0 0 0 (decide ((bt a0 0) < 224))) else (letterlockref1_first.j0 k a0 0 0 0 false))) else (none))
set_option maxHeartbeats 8000000 in
set_option maxRecDepth 100000 in
theorem letterlockref1_first.calls (k : Nat) (a0 : ByteArray) (r1 : Int) (r2 : Int) (w : World) (h : letterlockref1_first.f k a0 = some (r1, r2)) :
  Calls Tryd.prog 77 #[.string a0] w fun e w' => e = .returned (.tuple #[.int .i32 r1, .int .i64 r2]) ∧ Drawn0 w w' := by
 have H : (if a0.toList = ([] : List UInt8) then (some (0, 0)) else (if 0 < (a0.size : Int) then (if (bt a0 0) < 128 then (some (wrap32 (bt a0 0), 1)) else (if (bt a0 0) ≥ 192 then (letterlockref1_first.j0 k a0 0 0 0 (decide ((bt a0 0) < 224))) else (letterlockref1_first.j0 k a0 0 0 0 false))) else (none))) = some (r1, r2) := h
 clear h
 by_cases c2 : a0.toList = ([] : List UInt8)
 ·rw [if_pos c2] at H
  have c2b0 : (a0.toList == ([] : List UInt8)) = true := beq_iff_eq.mpr c2
  have c2b1 : (a0.toList != ([] : List UInt8)) = false := bne_eq_false_iff_eq.mpr c2
  clear c2
  simp only [Option.some.injEq, Prod.mk.injEq] at H
  obtain ⟨rfl, rfl⟩ := H
  go_enter Tryd.func77, Tryd.ntmps77
  go_wp2
  go_ret2
  exact ⟨by first | rfl | (simp; done) | (simp [*]; done), by repeat (first | exact Drawn0.refl _ | apply Drawn0.step)⟩
 ·rw [if_neg c2] at H
  have c2b0 : (a0.toList == ([] : List UInt8)) = false := beq_eq_false_iff_ne.mpr c2
  have c2b1 : (a0.toList != ([] : List UInt8)) = true := bne_iff_ne.mpr c2
  by_cases c3 : 0 < (a0.size : Int)
  ·rw [if_pos c3] at H
   have c3b0 : decide (0 < (a0.size : Int)) = true := decide_eq_true c3
   have c3b1 : decide (0 < a0.size) = true := decide_eq_true (by omega)
   clear c3
   by_cases c5 : (bt a0 0) < 128
   ·rw [if_pos c5] at H
    have c5b0 : decide ((bt a0 0) < 128) = true := decide_eq_true c5
    clear c5
    simp only [Option.some.injEq, Prod.mk.injEq] at H
    obtain ⟨rfl, rfl⟩ := H
    have p4 : 0 ≤ (0 : Int) := (by omega)
    have q4 : 0 < a0.size := (by have : (0 : Int) < (a0.size : Int) := of_decide_eq_true (by first | (with_reducible assumption) | assumption); omega)
    have hx4 : ∀ h : 0 < a0.size, ((a0[0]'h).toNat : Int) = bt a0 0 := bt_at a0 0
    clear p4
    have qi4 : (0 < (a0.size : Int)) = True := eq_true (of_decide_eq_true (by first | (with_reducible assumption) | assumption))
    replace q4 := eq_true q4
    have p6 : 0 ≤ (0 : Int) := (by omega)
    have q6 : 0 < a0.size := (by have : (0 : Int) < (a0.size : Int) := of_decide_eq_true (by first | (with_reducible assumption) | assumption); omega)
    have hx6 : ∀ h : 0 < a0.size, ((a0[0]'h).toNat : Int) = bt a0 0 := bt_at a0 0
    clear p6
    have qi6 : (0 < (a0.size : Int)) = True := eq_true (of_decide_eq_true (by first | (with_reducible assumption) | assumption))
    replace q6 := eq_true q6
    go_enter Tryd.func77, Tryd.ntmps77
    go_wp2
    go_ret2
    exact ⟨by first | rfl | (simp; done) | (simp [*]; done), by repeat (first | exact Drawn0.refl _ | apply Drawn0.step)⟩
   ·rw [if_neg c5] at H
    have c5b0 : decide ((bt a0 0) < 128) = false := decide_eq_false c5
    clear c5
    have HC7 := Aside0.mk H
    clear H
    have p4 : 0 ≤ (0 : Int) := (by omega)
    have q4 : 0 < a0.size := (by have : (0 : Int) < (a0.size : Int) := of_decide_eq_true (by first | (with_reducible assumption) | assumption); omega)
    have hx4 : ∀ h : 0 < a0.size, ((a0[0]'h).toNat : Int) = bt a0 0 := bt_at a0 0
    clear p4
    have qi4 : (0 < (a0.size : Int)) = True := eq_true (of_decide_eq_true (by first | (with_reducible assumption) | assumption))
    replace q4 := eq_true q4
    go_enter Tryd.func77, Tryd.ntmps77
    go_upto_block 0 with (fail)
    go_cut [4, 5, 6] (fun v4 v5 v6 wc => ∃ (kq : Nat) (x4_6 : Int) (x5_6 : Int) (x6_6 : Int), v4 = .int .i64 x4_6 ∧ v5 = .int .i32 x5_6 ∧ v6 = .int .i32 x6_6 ∧ Aside0 (letterlockref1_first.j2 kq a0 x4_6 x5_6 x6_6 = some (r1, r2)) ∧ Aside0 (kq ≤ k) ∧ Drawn0 w wc)
    case first =>
     have H := HC7.out
     clear HC7
     have HC8 := Aside0.mk H
     clear H
     go_upto_region 8 with (fail)
     go_cut [16] (fun v16 wc => ∃ (kq : Nat) (x16_7 : Bool), v16 = .bool x16_7 ∧ Aside0 (letterlockref1_first.j0 kq a0 0 0 0 x16_7 = some (r1, r2)) ∧ Aside0 (kq ≤ k) ∧ Drawn0 w wc)
     case first =>
      have H := HC8.out
      clear HC8
      by_cases c10 : (bt a0 0) ≥ 192
      ·rw [if_pos c10] at H
       have c10b0 : decide (192 ≤ (bt a0 0)) = true := decide_eq_true c10
       clear c10
       (first | rw [c10b0] | (simp only [i64_w, i32_w]; rw [c10b0]) | skip)
       have H' := Aside0.mk H
       clear H
       have p9 : 0 ≤ (0 : Int) := (by omega)
       have q9 : 0 < a0.size := (by have : (0 : Int) < (a0.size : Int) := of_decide_eq_true (by first | (with_reducible assumption) | assumption); omega)
       have hx9 : ∀ h : 0 < a0.size, ((a0[0]'h).toNat : Int) = bt a0 0 := bt_at a0 0
       clear p9
       have qi9 : (0 < (a0.size : Int)) = True := eq_true (of_decide_eq_true (by first | (with_reducible assumption) | assumption))
       replace q9 := eq_true q9
       have p11 : 0 ≤ (0 : Int) := (by omega)
       have q11 : 0 < a0.size := (by have : (0 : Int) < (a0.size : Int) := of_decide_eq_true (by first | (with_reducible assumption) | assumption); omega)
       have hx11 : ∀ h : 0 < a0.size, ((a0[0]'h).toNat : Int) = bt a0 0 := bt_at a0 0
       clear p11
       have qi11 : (0 < (a0.size : Int)) = True := eq_true (of_decide_eq_true (by first | (with_reducible assumption) | assumption))
       replace q11 := eq_true q11
       go_wp2
       go_meet
       case rel => exact ⟨_, (decide ((bt a0 0) < 224)), (by first | rfl | (simp; done) | (simp [*]; done)), H', ⟨by first | omega | exact Nat.le_refl _⟩, by repeat (first | exact Drawn0.refl _ | apply Drawn0.step)⟩
      ·rw [if_neg c10] at H
       have c10b0 : decide (192 ≤ (bt a0 0)) = false := decide_eq_false c10
       clear c10
       (first | rw [c10b0] | (simp only [i64_w, i32_w]; rw [c10b0]) | skip)
       have H' := Aside0.mk H
       clear H
       have p9 : 0 ≤ (0 : Int) := (by omega)
       have q9 : 0 < a0.size := (by have : (0 : Int) < (a0.size : Int) := of_decide_eq_true (by first | (with_reducible assumption) | assumption); omega)
       have hx9 : ∀ h : 0 < a0.size, ((a0[0]'h).toNat : Int) = bt a0 0 := bt_at a0 0
       clear p9
       have qi9 : (0 < (a0.size : Int)) = True := eq_true (of_decide_eq_true (by first | (with_reducible assumption) | assumption))
       replace q9 := eq_true q9
       go_wp2
       go_meet
       case rel => exact ⟨_, (false), (by first | rfl | (simp; done) | (simp [*]; done)), H', ⟨by first | omega | exact Nat.le_refl _⟩, by repeat (first | exact Drawn0.refl _ | apply Drawn0.step)⟩
     case rest =>
      clear HC8
      try clear c1
      try clear p1
      try clear q1
      try clear hx1
      try clear qi1
      try clear c2
      try clear c2b0
      try clear c2b1
      try clear p2
      try clear c3
      try clear c3b0
      try clear c3b1
      try clear p3
      try clear p4
      try clear q4
      try clear hx4
      try clear qi4
      try clear c5
      try clear c5b0
      try clear p6
      try clear q6
      try clear hx6
      try clear qi6
      try clear c7
      try clear p9
      try clear q9
      try clear hx9
      try clear qi9
      try clear c10
      try clear c10b0
      try clear p11
      try clear q11
      try clear hx11
      try clear qi11
      try clear p11
      try clear p4
      try clear p6
      try clear p9
      try clear q11
      try clear q4
      try clear q6
      try clear q9
      obtain ⟨kq, x16_7, rfl, HA, HJ7, ⟨mc7, rfl⟩⟩ := hcut
      cases kq with
      | zero => exact absurd HA.out (by simp [letterlockref1_first.j0])
      | succ kj7 =>
       have H := HA.out
       clear HA
       simp only [letterlockref1_first.j0] at H
       by_cases c12 : x16_7 = true
       ·subst c12
        have H1 : (if 0 < (a0.size : Int) then (letterlockref1_first.j2 kj7 a0 2 (((bt a0 0) - 192) % 256) 128) else (none)) = some (r1, r2) := by rw [if_pos rfl] at H; exact H
        clear H
        have H := H1
        clear H1
        by_cases c13 : 0 < (a0.size : Int)
        ·rw [if_pos c13] at H
         have c13b0 : decide (0 < (a0.size : Int)) = true := decide_eq_true c13
         have c13b1 : decide (0 < a0.size) = true := decide_eq_true (by omega)
         clear c13
         have H' := Aside0.mk H
         clear H
         have p14 : 0 ≤ (0 : Int) := (by omega)
         have q14 : 0 < a0.size := (by have : (0 : Int) < (a0.size : Int) := of_decide_eq_true (by first | (with_reducible assumption) | assumption); omega)
         have hx14 : ∀ h : 0 < a0.size, ((a0[0]'h).toNat : Int) = bt a0 0 := bt_at a0 0
         clear p14
         have qi14 : (0 < (a0.size : Int)) = True := eq_true (of_decide_eq_true (by first | (with_reducible assumption) | assumption))
         replace q14 := eq_true q14
         go_wp2
         go_meet
         case rel => exact ⟨_, (2), (((bt a0 0) - 192) % 256), (128), (by first | rfl | (simp; done) | (simp [*]; done)), (by first | rfl | (simp; done) | (simp [*]; done)), (by first | rfl | (simp; done) | (simp [*]; done)), H', ⟨by have := HJ7.out; first | omega | exact Nat.le_refl _⟩, by repeat (first | exact Drawn0.refl _ | apply Drawn0.step)⟩
        ·rw [if_neg c13] at H
         exact absurd H (by simp)
       ·replace c12 := Bool.eq_false_iff.mpr c12
        subst c12
        have H1 : (if 0 < (a0.size : Int) then (if (bt a0 0) ≥ 224 then (letterlockref1_first.j1 kj7 a0 0 0 0 (decide ((bt a0 0) < 240))) else (letterlockref1_first.j1 kj7 a0 0 0 0 false)) else (none)) = some (r1, r2) := by rw [if_neg (show ¬ (false = true) by decide)] at H; exact H
        clear H
        have H := H1
        clear H1
        have HC15 := Aside0.mk H
        clear H
        go_upto_region 12 with (fail)
        go_cut [29] (fun v29 wc => ∃ (kq : Nat) (x29_14 : Bool), v29 = .bool x29_14 ∧ Aside0 (letterlockref1_first.j1 kq a0 0 0 0 x29_14 = some (r1, r2)) ∧ Aside0 (kq ≤ kj7) ∧ Drawn0 w wc)
        case first =>
         have H := HC15.out
         clear HC15
         by_cases c16 : 0 < (a0.size : Int)
         ·rw [if_pos c16] at H
          have c16b0 : decide (0 < (a0.size : Int)) = true := decide_eq_true c16
          have c16b1 : decide (0 < a0.size) = true := decide_eq_true (by omega)
          clear c16
          (first | rw [c16b0] | (simp only [i64_w, i32_w]; rw [c16b0]) | skip)
          by_cases c18 : (bt a0 0) ≥ 224
          ·rw [if_pos c18] at H
           have c18b0 : decide (224 ≤ (bt a0 0)) = true := decide_eq_true c18
           clear c18
           have H' := Aside0.mk H
           clear H
           have p17 : 0 ≤ (0 : Int) := (by omega)
           have q17 : 0 < a0.size := (by have : (0 : Int) < (a0.size : Int) := of_decide_eq_true (by first | (with_reducible assumption) | assumption); omega)
           have hx17 : ∀ h : 0 < a0.size, ((a0[0]'h).toNat : Int) = bt a0 0 := bt_at a0 0
           clear p17
           have qi17 : (0 < (a0.size : Int)) = True := eq_true (of_decide_eq_true (by first | (with_reducible assumption) | assumption))
           replace q17 := eq_true q17
           have p19 : 0 ≤ (0 : Int) := (by omega)
           have q19 : 0 < a0.size := (by have : (0 : Int) < (a0.size : Int) := of_decide_eq_true (by first | (with_reducible assumption) | assumption); omega)
           have hx19 : ∀ h : 0 < a0.size, ((a0[0]'h).toNat : Int) = bt a0 0 := bt_at a0 0
           clear p19
           have qi19 : (0 < (a0.size : Int)) = True := eq_true (of_decide_eq_true (by first | (with_reducible assumption) | assumption))
           replace q19 := eq_true q19
           go_wp2
           go_meet
           case rel => exact ⟨_, (decide ((bt a0 0) < 240)), (by first | rfl | (simp; done) | (simp [*]; done)), H', ⟨by have := HJ7.out; first | omega | exact Nat.le_refl _⟩, by repeat (first | exact Drawn0.refl _ | apply Drawn0.step)⟩
          ·rw [if_neg c18] at H
           have c18b0 : decide (224 ≤ (bt a0 0)) = false := decide_eq_false c18
           clear c18
           have H' := Aside0.mk H
           clear H
           have p17 : 0 ≤ (0 : Int) := (by omega)
           have q17 : 0 < a0.size := (by have : (0 : Int) < (a0.size : Int) := of_decide_eq_true (by first | (with_reducible assumption) | assumption); omega)
           have hx17 : ∀ h : 0 < a0.size, ((a0[0]'h).toNat : Int) = bt a0 0 := bt_at a0 0
           clear p17
           have qi17 : (0 < (a0.size : Int)) = True := eq_true (of_decide_eq_true (by first | (with_reducible assumption) | assumption))
           replace q17 := eq_true q17
           go_wp2
           go_meet
           case rel => exact ⟨_, (false), (by first | rfl | (simp; done) | (simp [*]; done)), H', ⟨by have := HJ7.out; first | omega | exact Nat.le_refl _⟩, by repeat (first | exact Drawn0.refl _ | apply Drawn0.step)⟩
         ·rw [if_neg c16] at H
          exact absurd H (by simp)
        case rest =>
         clear HC15
         try clear c1
         try clear p1
         try clear q1
         try clear hx1
         try clear qi1
         try clear c2
         try clear c2b0
         try clear c2b1
         try clear p2
         try clear c3
         try clear c3b0
         try clear c3b1
         try clear p3
         try clear p4
         try clear q4
         try clear hx4
         try clear qi4
         try clear c5
         try clear c5b0
         try clear p6
         try clear q6
         try clear hx6
         try clear qi6
         try clear c7
         try clear p9
         try clear q9
         try clear hx9
         try clear qi9
         try clear c10
         try clear c10b0
         try clear p11
         try clear q11
         try clear hx11
         try clear qi11
         try clear c12
         try clear c13
         try clear c13b0
         try clear c13b1
         try clear p14
         try clear q14
         try clear hx14
         try clear qi14
         try clear c16
         try clear c16b0
         try clear c16b1
         try clear p17
         try clear q17
         try clear hx17
         try clear qi17
         try clear c18
         try clear c18b0
         try clear p19
         try clear q19
         try clear hx19
         try clear qi19
         try clear p1
         try clear p11
         try clear p14
         try clear p17
         try clear p19
         try clear p2
         try clear p3
         try clear p4
         try clear p6
         try clear p9
         try clear q1
         try clear q11
         try clear q14
         try clear q17
         try clear q19
         try clear q4
         try clear q6
         try clear q9
         obtain ⟨kq, x29_14, rfl, HA, HJ14, ⟨mc14, rfl⟩⟩ := hcut
         cases kq with
         | zero => exact absurd HA.out (by simp [letterlockref1_first.j1])
         | succ kj14 =>
          have H := HA.out
          clear HA
          simp only [letterlockref1_first.j1] at H
          by_cases c20 : x29_14 = true
          ·subst c20
           have H1 : (if 0 < (a0.size : Int) then (letterlockref1_first.j2 kj14 a0 3 (((bt a0 0) - 224) % 256) 2048) else (none)) = some (r1, r2) := by rw [if_pos rfl] at H; exact H
           clear H
           have H := H1
           clear H1
           by_cases c21 : 0 < (a0.size : Int)
           ·rw [if_pos c21] at H
            have c21b0 : decide (0 < (a0.size : Int)) = true := decide_eq_true c21
            have c21b1 : decide (0 < a0.size) = true := decide_eq_true (by omega)
            clear c21
            have H' := Aside0.mk H
            clear H
            have p22 : 0 ≤ (0 : Int) := (by omega)
            have q22 : 0 < a0.size := (by have : (0 : Int) < (a0.size : Int) := of_decide_eq_true (by first | (with_reducible assumption) | assumption); omega)
            have hx22 : ∀ h : 0 < a0.size, ((a0[0]'h).toNat : Int) = bt a0 0 := bt_at a0 0
            clear p22
            have qi22 : (0 < (a0.size : Int)) = True := eq_true (of_decide_eq_true (by first | (with_reducible assumption) | assumption))
            replace q22 := eq_true q22
            go_wp2
            go_meet
            case rel => exact ⟨_, (3), (((bt a0 0) - 224) % 256), (2048), (by first | rfl | (simp; done) | (simp [*]; done)), (by first | rfl | (simp; done) | (simp [*]; done)), (by first | rfl | (simp; done) | (simp [*]; done)), H', ⟨by have := HJ7.out; have := HJ14.out; first | omega | exact Nat.le_refl _⟩, by repeat (first | exact Drawn0.refl _ | apply Drawn0.step)⟩
           ·rw [if_neg c21] at H
            exact absurd H (by simp)
          ·replace c20 := Bool.eq_false_iff.mpr c20
           subst c20
           have H1 : (if 0 < (a0.size : Int) then (if (bt a0 0) ≥ 240 then (if (bt a0 0) < 248 then (letterlockref1_first.j2 kj14 a0 4 (((bt a0 0) - 240) % 256) 65536) else (letterlockref1_first.j2 kj14 a0 0 0 0)) else (letterlockref1_first.j2 kj14 a0 0 0 0)) else (none)) = some (r1, r2) := by rw [if_neg (show ¬ (false = true) by decide)] at H; exact H
           clear H
           have H := H1
           clear H1
           by_cases c23 : 0 < (a0.size : Int)
           ·rw [if_pos c23] at H
            have c23b0 : decide (0 < (a0.size : Int)) = true := decide_eq_true c23
            have c23b1 : decide (0 < a0.size) = true := decide_eq_true (by omega)
            clear c23
            by_cases c25 : (bt a0 0) ≥ 240
            ·rw [if_pos c25] at H
             have c25b0 : decide (240 ≤ (bt a0 0)) = true := decide_eq_true c25
             clear c25
             by_cases c27 : (bt a0 0) < 248
             ·rw [if_pos c27] at H
              have c27b0 : decide ((bt a0 0) < 248) = true := decide_eq_true c27
              clear c27
              have H' := Aside0.mk H
              clear H
              have p24 : 0 ≤ (0 : Int) := (by omega)
              have q24 : 0 < a0.size := (by have : (0 : Int) < (a0.size : Int) := of_decide_eq_true (by first | (with_reducible assumption) | assumption); omega)
              have hx24 : ∀ h : 0 < a0.size, ((a0[0]'h).toNat : Int) = bt a0 0 := bt_at a0 0
              clear p24
              have qi24 : (0 < (a0.size : Int)) = True := eq_true (of_decide_eq_true (by first | (with_reducible assumption) | assumption))
              replace q24 := eq_true q24
              have p26 : 0 ≤ (0 : Int) := (by omega)
              have q26 : 0 < a0.size := (by have : (0 : Int) < (a0.size : Int) := of_decide_eq_true (by first | (with_reducible assumption) | assumption); omega)
              have hx26 : ∀ h : 0 < a0.size, ((a0[0]'h).toNat : Int) = bt a0 0 := bt_at a0 0
              clear p26
              have qi26 : (0 < (a0.size : Int)) = True := eq_true (of_decide_eq_true (by first | (with_reducible assumption) | assumption))
              replace q26 := eq_true q26
              have p28 : 0 ≤ (0 : Int) := (by omega)
              have q28 : 0 < a0.size := (by have : (0 : Int) < (a0.size : Int) := of_decide_eq_true (by first | (with_reducible assumption) | assumption); omega)
              have hx28 : ∀ h : 0 < a0.size, ((a0[0]'h).toNat : Int) = bt a0 0 := bt_at a0 0
              clear p28
              have qi28 : (0 < (a0.size : Int)) = True := eq_true (of_decide_eq_true (by first | (with_reducible assumption) | assumption))
              replace q28 := eq_true q28
              go_wp2
              go_meet
              case rel => exact ⟨_, (4), (((bt a0 0) - 240) % 256), (65536), (by first | rfl | (simp; done) | (simp [*]; done)), (by first | rfl | (simp; done) | (simp [*]; done)), (by first | rfl | (simp; done) | (simp [*]; done)), H', ⟨by have := HJ7.out; have := HJ14.out; first | omega | exact Nat.le_refl _⟩, by repeat (first | exact Drawn0.refl _ | apply Drawn0.step)⟩
             ·rw [if_neg c27] at H
              have c27b0 : decide ((bt a0 0) < 248) = false := decide_eq_false c27
              clear c27
              have H' := Aside0.mk H
              clear H
              have p24 : 0 ≤ (0 : Int) := (by omega)
              have q24 : 0 < a0.size := (by have : (0 : Int) < (a0.size : Int) := of_decide_eq_true (by first | (with_reducible assumption) | assumption); omega)
              have hx24 : ∀ h : 0 < a0.size, ((a0[0]'h).toNat : Int) = bt a0 0 := bt_at a0 0
              clear p24
              have qi24 : (0 < (a0.size : Int)) = True := eq_true (of_decide_eq_true (by first | (with_reducible assumption) | assumption))
              replace q24 := eq_true q24
              have p26 : 0 ≤ (0 : Int) := (by omega)
              have q26 : 0 < a0.size := (by have : (0 : Int) < (a0.size : Int) := of_decide_eq_true (by first | (with_reducible assumption) | assumption); omega)
              have hx26 : ∀ h : 0 < a0.size, ((a0[0]'h).toNat : Int) = bt a0 0 := bt_at a0 0
              clear p26
              have qi26 : (0 < (a0.size : Int)) = True := eq_true (of_decide_eq_true (by first | (with_reducible assumption) | assumption))
              replace q26 := eq_true q26
              go_wp2
              go_meet
              case rel => exact ⟨_, (0), (0), (0), (by first | rfl | (simp; done) | (simp [*]; done)), (by first | rfl | (simp; done) | (simp [*]; done)), (by first | rfl | (simp; done) | (simp [*]; done)), H', ⟨by have := HJ7.out; have := HJ14.out; first | omega | exact Nat.le_refl _⟩, by repeat (first | exact Drawn0.refl _ | apply Drawn0.step)⟩
            ·rw [if_neg c25] at H
             have c25b0 : decide (240 ≤ (bt a0 0)) = false := decide_eq_false c25
             clear c25
             have H' := Aside0.mk H
             clear H
             have p24 : 0 ≤ (0 : Int) := (by omega)
             have q24 : 0 < a0.size := (by have : (0 : Int) < (a0.size : Int) := of_decide_eq_true (by first | (with_reducible assumption) | assumption); omega)
             have hx24 : ∀ h : 0 < a0.size, ((a0[0]'h).toNat : Int) = bt a0 0 := bt_at a0 0
             clear p24
             have qi24 : (0 < (a0.size : Int)) = True := eq_true (of_decide_eq_true (by first | (with_reducible assumption) | assumption))
             replace q24 := eq_true q24
             go_wp2
             go_meet
             case rel => exact ⟨_, (0), (0), (0), (by first | rfl | (simp; done) | (simp [*]; done)), (by first | rfl | (simp; done) | (simp [*]; done)), (by first | rfl | (simp; done) | (simp [*]; done)), H', ⟨by have := HJ7.out; have := HJ14.out; first | omega | exact Nat.le_refl _⟩, by repeat (first | exact Drawn0.refl _ | apply Drawn0.step)⟩
           ·rw [if_neg c23] at H
            exact absurd H (by simp)
    case rest =>
     clear HC7
     try clear c1
     try clear p1
     try clear q1
     try clear hx1
     try clear qi1
     try clear c2
     try clear c2b0
     try clear c2b1
     try clear p2
     try clear q2
     try clear hx2
     try clear qi2
     try clear c3
     try clear c3b0
     try clear c3b1
     try clear p3
     try clear p4
     try clear q4
     try clear hx4
     try clear qi4
     try clear c5
     try clear c5b0
     try clear p6
     try clear q6
     try clear hx6
     try clear qi6
     try clear c7
     try clear p9
     try clear q9
     try clear hx9
     try clear qi9
     try clear c10
     try clear c10b0
     try clear p11
     try clear q11
     try clear hx11
     try clear qi11
     try clear c12
     try clear c13
     try clear c13b0
     try clear c13b1
     try clear c14
     try clear p14
     try clear q14
     try clear hx14
     try clear qi14
     try clear c16
     try clear c16b0
     try clear c16b1
     try clear p17
     try clear q17
     try clear hx17
     try clear qi17
     try clear c18
     try clear c18b0
     try clear p19
     try clear q19
     try clear hx19
     try clear qi19
     try clear c20
     try clear c21
     try clear c21b0
     try clear c21b1
     try clear p22
     try clear q22
     try clear hx22
     try clear qi22
     try clear c23
     try clear c23b0
     try clear c23b1
     try clear p24
     try clear q24
     try clear hx24
     try clear qi24
     try clear c25
     try clear c25b0
     try clear p26
     try clear q26
     try clear hx26
     try clear qi26
     try clear c27
     try clear c27b0
     try clear p28
     try clear q28
     try clear hx28
     try clear qi28
     try clear p1
     try clear p11
     try clear p14
     try clear p17
     try clear p19
     try clear p2
     try clear p22
     try clear p24
     try clear p26
     try clear p28
     try clear p3
     try clear p4
     try clear p6
     try clear p9
     try clear q1
     try clear q11
     try clear q14
     try clear q17
     try clear q19
     try clear q22
     try clear q24
     try clear q26
     try clear q28
     try clear q4
     try clear q6
     try clear q9
     obtain ⟨kq, x4_6, x5_6, x6_6, rfl, rfl, rfl, HA, HJ6, ⟨mc6, rfl⟩⟩ := hcut
     cases kq with
     | zero => exact absurd HA.out (by simp [letterlockref1_first.j2])
     | succ kj6 =>
      have H := HA.out
      clear HA
      simp only [letterlockref1_first.j2] at H
      have HC29 := Aside0.mk H
      clear H
      go_upto_region 20 with (fail)
      go_cut [62] (fun v62 wc => ∃ (kq : Nat) (x62_28 : Bool), v62 = .bool x62_28 ∧ Aside0 (letterlockref1_first.j3 kq a0 x4_6 x5_6 x6_6 x62_28 = some (r1, r2)) ∧ Aside0 (kq ≤ kj6) ∧ Drawn0 w wc)
      case first =>
       have H := HC29.out
       clear HC29
       by_cases c30 : x4_6 = 0
       ·rw [if_pos c30] at H
        have c30b0 : (x4_6 == 0) = true := beq_iff_eq.mpr c30
        have c30b1 : (x4_6 != 0) = false := bne_eq_false_iff_eq.mpr c30
        clear c30
        (first | rw [c30b0] | (simp only [i64_w, i32_w]; rw [c30b0]) | skip)
        have H' := Aside0.mk H
        clear H
        go_wp2
        go_meet
        case rel => exact ⟨_, (true), (by first | rfl | (simp; done) | (simp [*]; done)), H', ⟨by have := HJ6.out; first | omega | exact Nat.le_refl _⟩, by repeat (first | exact Drawn0.refl _ | apply Drawn0.step)⟩
       ·rw [if_neg c30] at H
        have c30b0 : (x4_6 == 0) = false := beq_eq_false_iff_ne.mpr c30
        have c30b1 : (x4_6 != 0) = true := bne_iff_ne.mpr c30
        (first | rw [c30b0] | (simp only [i64_w, i32_w]; rw [c30b0]) | skip)
        have H' := Aside0.mk H
        clear H
        go_wp2
        go_meet
        case rel => exact ⟨_, (decide ((a0.size : Int) < x4_6)), (by first | rfl | (simp; done) | (simp [*]; done)), H', ⟨by have := HJ6.out; first | omega | exact Nat.le_refl _⟩, by repeat (first | exact Drawn0.refl _ | apply Drawn0.step)⟩
      case rest =>
       clear HC29
       try clear c1
       try clear p1
       try clear q1
       try clear hx1
       try clear qi1
       try clear c2
       try clear c2b0
       try clear c2b1
       try clear p2
       try clear q2
       try clear hx2
       try clear qi2
       try clear c3
       try clear c3b0
       try clear c3b1
       try clear p3
       try clear p4
       try clear q4
       try clear hx4
       try clear qi4
       try clear c5
       try clear c5b0
       try clear c6
       try clear p6
       try clear q6
       try clear hx6
       try clear qi6
       try clear c7
       try clear p9
       try clear q9
       try clear hx9
       try clear qi9
       try clear c10
       try clear c10b0
       try clear p11
       try clear q11
       try clear hx11
       try clear qi11
       try clear c12
       try clear c13
       try clear c13b0
       try clear c13b1
       try clear c14
       try clear p14
       try clear q14
       try clear hx14
       try clear qi14
       try clear c16
       try clear c16b0
       try clear c16b1
       try clear p17
       try clear q17
       try clear hx17
       try clear qi17
       try clear c18
       try clear c18b0
       try clear p19
       try clear q19
       try clear hx19
       try clear qi19
       try clear c20
       try clear c21
       try clear c21b0
       try clear c21b1
       try clear p22
       try clear q22
       try clear hx22
       try clear qi22
       try clear c23
       try clear c23b0
       try clear c23b1
       try clear p24
       try clear q24
       try clear hx24
       try clear qi24
       try clear c25
       try clear c25b0
       try clear p26
       try clear q26
       try clear hx26
       try clear qi26
       try clear c27
       try clear c27b0
       try clear p28
       try clear q28
       try clear hx28
       try clear qi28
       try clear c30
       try clear c30b0
       try clear c30b1
       try clear p1
       try clear p11
       try clear p14
       try clear p17
       try clear p19
       try clear p2
       try clear p22
       try clear p24
       try clear p26
       try clear p28
       try clear p3
       try clear p4
       try clear p6
       try clear p9
       try clear q1
       try clear q11
       try clear q14
       try clear q17
       try clear q19
       try clear q2
       try clear q22
       try clear q24
       try clear q26
       try clear q28
       try clear q4
       try clear q6
       try clear q9
       obtain ⟨kq, x62_28, rfl, HA, HJ28, ⟨mc28, rfl⟩⟩ := hcut
       cases kq with
       | zero => exact absurd HA.out (by simp [letterlockref1_first.j3])
       | succ kj28 =>
        have H := HA.out
        clear HA
        simp only [letterlockref1_first.j3] at H
        by_cases c31 : x62_28 = true
        ·subst c31
         have H1 : (some (0, 0)) = some (r1, r2) := by rw [if_pos rfl] at H; exact H
         clear H
         have H := H1
         clear H1
         simp only [Option.some.injEq, Prod.mk.injEq] at H
         obtain ⟨rfl, rfl⟩ := H
         go_wp2
         go_ret2
         exact ⟨by first | rfl | (simp; done) | (simp [*]; done), by repeat (first | exact Drawn0.refl _ | apply Drawn0.step)⟩
        ·replace c31 := Bool.eq_false_iff.mpr c31
         subst c31
         have H1 : (letterlockref1_first.l0 kj28 a0 x4_6 x5_6 x6_6 1) = some (r1, r2) := by rw [if_neg (show ¬ (false = true) by decide)] at H; exact H
         clear H
         have H := H1
         clear H1
         have H' := Aside0.mk H
         clear H
         go_wp2
         go_loopg [5, 7] kj28 (fun kq v5 v7 w' => ∃ (x5_3 : Int) (x7_3 : Int), v5 = .int .i32 x5_3 ∧ v7 = .int .i64 x7_3 ∧ Aside0 (letterlockref1_first.l0 kq a0 x4_6 x5_3 x6_6 x7_3 = some (r1, r2)) ∧ Aside0 (kq ≤ kj28) ∧ Drawn0 w w')
         case atStart => exact ⟨(x5_6), (1), (by first | rfl | (simp; done) | (simp [*]; done)), (by first | rfl | (simp; done) | (simp [*]; done)), H', ⟨Nat.le_refl _⟩, by repeat (first | exact Drawn0.refl _ | apply Drawn0.step)⟩
         case round =>
          clear H'
          try clear c1
          try clear p1
          try clear q1
          try clear hx1
          try clear qi1
          try clear c2
          try clear c2b0
          try clear c2b1
          try clear p2
          try clear q2
          try clear hx2
          try clear qi2
          try clear c3
          try clear c3b0
          try clear c3b1
          try clear p3
          try clear p4
          try clear q4
          try clear hx4
          try clear qi4
          try clear c5
          try clear c5b0
          try clear c6
          try clear p6
          try clear q6
          try clear hx6
          try clear qi6
          try clear c7
          try clear p9
          try clear q9
          try clear hx9
          try clear qi9
          try clear c10
          try clear c10b0
          try clear p11
          try clear q11
          try clear hx11
          try clear qi11
          try clear c12
          try clear c13
          try clear c13b0
          try clear c13b1
          try clear c14
          try clear p14
          try clear q14
          try clear hx14
          try clear qi14
          try clear c16
          try clear c16b0
          try clear c16b1
          try clear p17
          try clear q17
          try clear hx17
          try clear qi17
          try clear c18
          try clear c18b0
          try clear p19
          try clear q19
          try clear hx19
          try clear qi19
          try clear c20
          try clear c21
          try clear c21b0
          try clear c21b1
          try clear p22
          try clear q22
          try clear hx22
          try clear qi22
          try clear c23
          try clear c23b0
          try clear c23b1
          try clear p24
          try clear q24
          try clear hx24
          try clear qi24
          try clear c25
          try clear c25b0
          try clear p26
          try clear q26
          try clear hx26
          try clear qi26
          try clear c27
          try clear c27b0
          try clear c28
          try clear p28
          try clear q28
          try clear hx28
          try clear qi28
          try clear c30
          try clear c30b0
          try clear c30b1
          try clear c31
          try clear p1
          try clear p11
          try clear p14
          try clear p17
          try clear p19
          try clear p2
          try clear p22
          try clear p24
          try clear p26
          try clear p28
          try clear p3
          try clear p4
          try clear p6
          try clear p9
          try clear q1
          try clear q11
          try clear q14
          try clear q17
          try clear q19
          try clear q2
          try clear q22
          try clear q24
          try clear q26
          try clear q28
          try clear q4
          try clear q6
          try clear q9
          obtain ⟨x5_3, x7_3, rfl, rfl, HA, HK3, ⟨m3, rfl⟩⟩ := hrel
          cases gk with
          | zero => exact absurd HA.out (by simp [letterlockref1_first.l0])
          | succ k3 =>
           have H := HA.out
           clear HA
           simp only [letterlockref1_first.l0] at H
           by_cases c32 : x7_3 < x4_6
           ·rw [if_pos c32] at H
            have c32b0 : decide (x7_3 < x4_6) = true := decide_eq_true c32
            clear c32
            by_cases c33 : 0 ≤ x7_3
            ·rw [if_pos c33] at H
             have c33b0 : decide (0 ≤ x7_3) = true := decide_eq_true c33
             clear c33
             by_cases c34 : x7_3 < (a0.size : Int)
             ·rw [if_pos c34] at H
              have c34b0 : decide (x7_3 < (a0.size : Int)) = true := decide_eq_true c34
              clear c34
              by_cases c36 : (bt a0 x7_3) < 128
              ·rw [if_pos c36] at H
               have c36b0 : decide ((bt a0 x7_3) < 128) = true := decide_eq_true c36
               clear c36
               simp only [Option.some.injEq, Prod.mk.injEq] at H
               obtain ⟨rfl, rfl⟩ := H
               have p35 : 0 ≤ (x7_3 : Int) := of_decide_eq_true (by first | (with_reducible assumption) | assumption)
               have q35 : x7_3 < (a0.size : Int) := of_decide_eq_true (by first | (with_reducible assumption) | assumption)
               have hx35 := bt_at a0 x7_3
               replace p35 := eq_true p35
               replace q35 := eq_true q35
               go_wp2
               go_ret2
               exact ⟨by first | rfl | (simp; done) | (simp [*]; done), by repeat (first | exact Drawn0.refl _ | apply Drawn0.step)⟩
              ·rw [if_neg c36] at H
               have c36b0 : decide ((bt a0 x7_3) < 128) = false := decide_eq_false c36
               clear c36
               by_cases c38 : (bt a0 x7_3) > 191
               ·rw [if_pos c38] at H
                have c38b0 : decide (191 < (bt a0 x7_3)) = true := decide_eq_true c38
                clear c38
                simp only [Option.some.injEq, Prod.mk.injEq] at H
                obtain ⟨rfl, rfl⟩ := H
                have p35 : 0 ≤ (x7_3 : Int) := of_decide_eq_true (by first | (with_reducible assumption) | assumption)
                have q35 : x7_3 < (a0.size : Int) := of_decide_eq_true (by first | (with_reducible assumption) | assumption)
                have hx35 := bt_at a0 x7_3
                replace p35 := eq_true p35
                replace q35 := eq_true q35
                have p37 : 0 ≤ (x7_3 : Int) := of_decide_eq_true (by first | (with_reducible assumption) | assumption)
                have q37 : x7_3 < (a0.size : Int) := of_decide_eq_true (by first | (with_reducible assumption) | assumption)
                have hx37 := bt_at a0 x7_3
                replace p37 := eq_true p37
                replace q37 := eq_true q37
                go_wp2
                go_ret2
                exact ⟨by first | rfl | (simp; done) | (simp [*]; done), by repeat (first | exact Drawn0.refl _ | apply Drawn0.step)⟩
               ·rw [if_neg c38] at H
                have c38b0 : decide (191 < (bt a0 x7_3)) = false := decide_eq_false c38
                clear c38
                have H' := Aside0.mk H
                clear H
                have p35 : 0 ≤ (x7_3 : Int) := of_decide_eq_true (by first | (with_reducible assumption) | assumption)
                have q35 : x7_3 < (a0.size : Int) := of_decide_eq_true (by first | (with_reducible assumption) | assumption)
                have hx35 := bt_at a0 x7_3
                replace p35 := eq_true p35
                replace q35 := eq_true q35
                have p37 : 0 ≤ (x7_3 : Int) := of_decide_eq_true (by first | (with_reducible assumption) | assumption)
                have q37 : x7_3 < (a0.size : Int) := of_decide_eq_true (by first | (with_reducible assumption) | assumption)
                have hx37 := bt_at a0 x7_3
                replace p37 := eq_true p37
                replace q37 := eq_true q37
                have p39 : 0 ≤ (x7_3 : Int) := of_decide_eq_true (by first | (with_reducible assumption) | assumption)
                have q39 : x7_3 < (a0.size : Int) := of_decide_eq_true (by first | (with_reducible assumption) | assumption)
                have hx39 := bt_at a0 x7_3
                replace p39 := eq_true p39
                replace q39 := eq_true q39
                go_wp2
                go_roundg k3
                case measure => have := HJ6.out; have := HJ28.out; have := HK3.out; omega
                case rel => exact ⟨(wrap32 ((wrap32 (64 * x5_3)) + (((bt a0 x7_3) - 128) % 256))), (wrap64 (x7_3 + 1)), (by first | rfl | (simp; done) | (simp [*]; done)), (by first | rfl | (simp; done) | (simp [*]; done)), H', ⟨by have := HJ6.out; have := HJ28.out; have := HK3.out; omega⟩, by repeat (first | exact Drawn0.refl _ | apply Drawn0.step)⟩
             ·rw [if_neg c34] at H
              exact absurd H (by simp)
            ·rw [if_neg c33] at H
             exact absurd H (by simp)
           ·rw [if_neg c32] at H
            have c32b0 : decide (x7_3 < x4_6) = false := decide_eq_false c32
            clear c32
            by_cases c40 : x5_3 < x6_6
            ·rw [if_pos c40] at H
             have c40b0 : decide (x5_3 < x6_6) = true := decide_eq_true c40
             clear c40
             simp only [Option.some.injEq, Prod.mk.injEq] at H
             obtain ⟨rfl, rfl⟩ := H
             go_wp2
             go_ret2
             exact ⟨by first | rfl | (simp; done) | (simp [*]; done), by repeat (first | exact Drawn0.refl _ | apply Drawn0.step)⟩
            ·rw [if_neg c40] at H
             have c40b0 : decide (x5_3 < x6_6) = false := decide_eq_false c40
             clear c40
             replace H := Option.bind_eq_some_iff.mp H
             obtain ⟨t156, A410, H⟩ := H
             replace H : (if t156 = true then (some (x5_3, x4_6)) else (some (0, 0))) = some (r1, r2) := H
             have A41 := Aside0.mk A410
             clear A410
             by_cases c42 : t156 = true
             ·subst c42
              have H1 : (some (x5_3, x4_6)) = some (r1, r2) := by rw [if_pos rfl] at H; exact H
              clear H
              have H := H1
              clear H1
              simp only [Option.some.injEq, Prod.mk.injEq] at H
              obtain ⟨rfl, rfl⟩ := H
              go_wp2_with (first | (go_at_call 84; (with_reducible refine (letterlockref1_valid.calls x5_3 true _ A41.out).mono ?_); rintro e w' ⟨rfl, ⟨nd, rfl⟩⟩))
              go_ret2
              exact ⟨by first | rfl | (simp; done) | (simp [*]; done), by repeat (first | exact Drawn0.refl _ | apply Drawn0.step)⟩
             ·replace c42 := Bool.eq_false_iff.mpr c42
              subst c42
              have H1 : (some (0, 0)) = some (r1, r2) := by rw [if_neg (show ¬ (false = true) by decide)] at H; exact H
              clear H
              have H := H1
              clear H1
              simp only [Option.some.injEq, Prod.mk.injEq] at H
              obtain ⟨rfl, rfl⟩ := H
              go_wp2_with (first | (go_at_call 84; (with_reducible refine (letterlockref1_valid.calls x5_3 false _ A41.out).mono ?_); rintro e w' ⟨rfl, ⟨nd, rfl⟩⟩))
              go_ret2
              exact ⟨by first | rfl | (simp; done) | (simp [*]; done), by repeat (first | exact Drawn0.refl _ | apply Drawn0.step)⟩
  ·rw [if_neg c3] at H
   exact absurd H (by simp)
end Go.Proofs.YtfhanoloaejmkaaDoor.PA
end
section

namespace Go.Proofs.YtfhanoloaejmkaaDoor.PA
open Go.RowKit Go.Proofs.YtfhanoloaejmkaaDoorW.PrintWords Go.Proofs.YtfhanoloaejmkaaDoorW.PrintLast Go.Proofs.YtfhanoloaejmkaaDoorW.PrintMore
attribute [local go_sem] max2_int min2_int max_two min_two max_three min_three max_four min_four   -- for this text's walks alone
set_option linter.unusedVariables false
set_option linter.unusedSimpArgs false
def letterlockref1_Runes.l0 : Nat → ByteArray → List Int → Option (List Int × Int)
 | 0, _, _ => none
 | k + 1, x0, x4 => if x0.toList = ([] : List UInt8) then (some (x4, 0)) else ((letterlockref1_first.f k x0).bind fun bt157 => (if bt157.2 = 0 then (some (([] : List Int), 2)) else (if x4.length < 35184372088832 then (if 0 ≤ bt157.2 then (if bt157.2 ≤ (x0.size : Int) then (letterlockref1_Runes.l0 k (x0.extract (bt157.2 : Int).toNat x0.size) (x4 ++ [bt157.1])) else (none)) else (none)) else (none))))
def letterlockref1_Runes.f (k : Nat) (a0 : ByteArray) : Option (List Int × Int) := letterlockref1_Runes.l0 k a0 ([] : List Int)
set_option maxHeartbeats 8000000 in
set_option maxRecDepth 100000 in
theorem letterlockref1_Runes.calls (k : Nat) (a0 : ByteArray) (r1 : List Int) (r2 : Int) (w : World) (h : letterlockref1_Runes.f k a0 = some (r1, r2)) :
  Calls Tryd.prog 68 #[.string a0] w fun e w' => ∃ v0_ : Value, e = .returned (.tuple #[v0_, .int .i64 r2]) ∧ Kd.R (Kd.int .i32) 21 w' w.heap.size (fun _ => True) v0_ r1 ∧ Below w.heap.size w w' := by
 have HB := Aside0.mk (Below.refl w.heap.size w)
 have H : (letterlockref1_Runes.l0 k a0 ([] : List Int)) = some (r1, r2) := h
 clear h
 have H' := Aside0.mk H
 clear H
 go_enter Tryd.func68, Tryd.ntmps68
 go_wp2
 go_loopg [0, 4] k (fun kq v0 v4 w' => ∃ (x0_1 : ByteArray) (x4_1 : List Int), v0 = .string x0_1 ∧ Aside0 (letterlockref1_Runes.l0 kq x0_1 x4_1 = some (r1, r2)) ∧ Aside0 (kq ≤ k) ∧ Aside0 (Kd.R (Kd.int .i32) 21 w' w.heap.size (fun _ => True) v4 x4_1) ∧ Aside0 (Below w.heap.size w w'))
 case atStart => exact ⟨(a0), (([] : List Int)), (by first | rfl | (simp; done) | (simp [*]; done)), H', ⟨Nat.le_refl _⟩, ⟨by first | exact Kd.R_nil _ _ _ _ _ | exact Kd.N_nil _ _ _ _ _ | exact Kd.V_nil _ _ _ _ _ | exact Kd.Q_nil _ _ _ _ _ | exact Kd.S_nil _ _ _ _ _⟩, ⟨by repeat (first | (with_reducible first | exact HB.out | apply below_alloc | apply pw_below_drewN | apply below_drew1) | exact HB.out)⟩⟩
 case round =>
  clear H'
  obtain ⟨x0_1, x4_1, rfl, HA, HK1, HO_4, HB⟩ := hrel
  cases gk with
  | zero => exact absurd HA.out (by simp [letterlockref1_Runes.l0])
  | succ k1 =>
   have H := HA.out
   clear HA
   simp only [letterlockref1_Runes.l0] at H
   by_cases c2 : x0_1.toList = ([] : List UInt8)
   ·rw [if_pos c2] at H
    have c2b0 : (x0_1.toList == ([] : List UInt8)) = true := beq_iff_eq.mpr c2
    have c2b1 : (x0_1.toList != ([] : List UInt8)) = false := bne_eq_false_iff_eq.mpr c2
    clear c2
    simp only [Option.some.injEq, Prod.mk.injEq] at H
    obtain ⟨rfl, rfl⟩ := H
    go_wp2
    go_ret2
    exact ⟨_, by first | rfl | (simp [errW_none, errW_some] <;> rfl) | (simp [*, errW_none, errW_some] <;> rfl), by (with_reducible repeat (first | apply Kd.R_alloc | apply Kd.R_drewN | apply Kd.R_drew)); exact HO_4.out, by repeat (first | (with_reducible first | exact HB.out | apply below_alloc | apply pw_below_drewN | apply below_drew1) | exact HB.out)⟩
   ·rw [if_neg c2] at H
    have c2b0 : (x0_1.toList == ([] : List UInt8)) = false := beq_eq_false_iff_ne.mpr c2
    have c2b1 : (x0_1.toList != ([] : List UInt8)) = true := bne_iff_ne.mpr c2
    replace H := Option.bind_eq_some_iff.mp H
    obtain ⟨⟨t157, t158⟩, A30, H⟩ := H
    replace H : (if t158 = 0 then (some (([] : List Int), 2)) else (if x4_1.length < 35184372088832 then (if 0 ≤ t158 then (if t158 ≤ (x0_1.size : Int) then (letterlockref1_Runes.l0 k1 (x0_1.extract (t158 : Int).toNat x0_1.size) (x4_1 ++ [t157])) else (none)) else (none)) else (none))) = some (r1, r2) := H
    have A3 := Aside0.mk A30
    clear A30
    by_cases c4 : t158 = 0
    ·rw [if_pos c4] at H
     have c4b0 : (t158 == 0) = true := beq_iff_eq.mpr c4
     have c4b1 : (t158 != 0) = false := bne_eq_false_iff_eq.mpr c4
     clear c4
     simp only [Option.some.injEq, Prod.mk.injEq] at H
     obtain ⟨rfl, rfl⟩ := H
     go_wp2_with (first | ((with_reducible refine gate_callee (f := 77) rfl ?_); refine goesL_ (some 11) rfl rfl Tryd.func77 (by kernel_rfl) rfl #[.string x0_1] rfl (by (try simp only [List.map_toArray, List.map_cons, List.map_nil]); first | done | rfl | (simp only [List.length_drop, List.length_take]; rfl)) ?_; (with_reducible refine (letterlockref1_first.calls k1 x0_1 t157 t158 _ A3.out).mono ?_); rintro e w' ⟨rfl, ⟨nd, rfl⟩⟩; refine ⟨_, rfl, ?_⟩))
     go_ret2
     exact ⟨_, by first | rfl | (simp [errW_none, errW_some] <;> rfl) | (simp [*, errW_none, errW_some] <;> rfl), by first | exact Kd.R_nil _ _ _ _ _ | exact Kd.N_nil _ _ _ _ _ | exact Kd.V_nil _ _ _ _ _ | exact Kd.Q_nil _ _ _ _ _ | exact Kd.S_nil _ _ _ _ _, by repeat (first | (with_reducible first | exact HB.out | apply below_alloc | apply pw_below_drewN | apply below_drew1) | exact HB.out)⟩
    ·rw [if_neg c4] at H
     have c4b0 : (t158 == 0) = false := beq_eq_false_iff_ne.mpr c4
     have c4b1 : (t158 != 0) = true := bne_iff_ne.mpr c4
     by_cases c5 : x4_1.length < 35184372088832
     ·rw [if_pos c5] at H
      have LMc5 := Aside0.mk c5
      clear c5
      obtain ⟨y159, hy159⟩ : ∃ y_ : List Int, y_ = (x4_1 ++ [t157]) := ⟨_, rfl⟩
      replace H : (if 0 ≤ t158 then (if t158 ≤ (x0_1.size : Int) then (letterlockref1_Runes.l0 k1 (x0_1.extract (t158 : Int).toNat x0_1.size) y159) else (none)) else (none)) = some (r1, r2) := by first | (rw [hy159]; with_reducible exact H) | (have H2_ := (Option.bind_some _ _).symm.trans H; rw [hy159]; with_reducible exact H2_) | (have H2_ := (Option.bind_some _ _).symm.trans H; with_reducible exact H2_) | with_reducible exact H | (rw [hy159]; exact H) | exact H
      have Ny159 := Aside0.mk hy159
      clear hy159
      by_cases c6 : 0 ≤ t158
      ·rw [if_pos c6] at H
       have c6b0 := eq_true c6
       have c6b1 : decide (0 ≤ t158) = true := decide_eq_true c6
       clear c6
       by_cases c7 : t158 ≤ (x0_1.size : Int)
       ·rw [if_pos c7] at H
        have c7b0 := eq_true c7
        have c7b1 : decide (t158 ≤ (x0_1.size : Int)) = true := decide_eq_true c7
        clear c7
        have H' := Aside0.mk H
        clear H
        go_wp2_with (first | ((with_reducible refine gate_callee (f := 77) rfl ?_); refine goesL_ (some 11) rfl rfl Tryd.func77 (by kernel_rfl) rfl #[.string x0_1] rfl (by (try simp only [List.map_toArray, List.map_cons, List.map_nil]); first | done | rfl | (simp only [List.length_drop, List.length_take]; rfl)) ?_; (with_reducible refine (letterlockref1_first.calls k1 x0_1 t157 t158 _ A3.out).mono ?_); rintro e w' ⟨rfl, ⟨nd, rfl⟩⟩; refine ⟨_, rfl, ?_⟩) | ((with_reducible refine gate_builtin (b := .append) (xs := #[.tmp 16, .tmp 18]) rfl ?_); at_builtin; refine Kd.R_append (Kd.int .i32) (w0 := w) w.heap.size rfl (.tmp 16) (.tmp 18) 93 21 (.int .i32 0) 4 rfl Tryd.underlying93 info21 rfl (by decide) (by omega) u4 x4_1 t157 [.int .i32 t157] (fun _ => True) (fun _ => False) rfl rfl ?aP (fun _ hk => hk.elim) ?aF ?aO ?aB ?aS ?aL ?_; (case aP => exact rfl); (case aB => exact (by repeat (first | (with_reducible first | exact HB.out | apply below_alloc | apply pw_below_drewN | apply below_drew1) | exact HB.out))); (case aF => exact (fun _ _ => trivial)); (case aO => exact (by (with_reducible repeat (first | apply Kd.R_alloc | apply Kd.R_drewN | apply Kd.R_drew)); exact HO_4.out)); (case aS => exact (below_size (by repeat (first | (with_reducible first | exact HB.out | apply below_alloc | apply pw_below_drewN | apply below_drew1) | exact HB.out)))); (case aL => have := LMc5.out; omega); intro v160 w8 ho hb hg hat; rw [← Ny159.out] at ho; have n0_ := Aside0.mk (hb); have n1_ := Aside0.mk (ho); clear HB; clear HO_4; have HB := n0_; have HO161 := n1_; clear n0_ n1_; clear ho hb hg hat))
        go_roundg k1
        case measure => have := HK1.out; omega
        case rel => exact ⟨(x0_1.extract (t158 : Int).toNat x0_1.size), (y159), (by first | rfl | (simp; done) | (simp [*]; done)), H', ⟨by have := HK1.out; omega⟩, ⟨by (with_reducible repeat (first | apply Kd.R_alloc | apply Kd.R_drewN | apply Kd.R_drew)); exact HO161.out⟩, ⟨by repeat (first | (with_reducible first | exact HB.out | apply below_alloc | apply pw_below_drewN | apply below_drew1) | exact HB.out)⟩⟩
       ·rw [if_neg c7] at H
        exact absurd H (by simp)
      ·rw [if_neg c6] at H
       exact absurd H (by simp)
     ·rw [if_neg c5] at H
      exact absurd H (by simp)
def letterlockref1_in.f (a0 : Int) (a1 : Int) (a2 : Int) : Option (Bool) := if a0 ≥ a1 then (some (decide (a0 ≤ a2))) else (some false)
set_option maxHeartbeats 8000000 in
set_option maxRecDepth 100000 in
theorem letterlockref1_in.calls (a0 : Int) (a1 : Int) (a2 : Int) (r : Bool) (w : World) (h : letterlockref1_in.f a0 a1 a2 = some r) :
  Calls Tryd.prog 78 #[.int .i32 a0, .int .i32 a1, .int .i32 a2] w fun e w' => e = .returned (.bool r) ∧ Drawn0 w w' := by
 have H : (if a0 ≥ a1 then (some (decide (a0 ≤ a2))) else (some false)) = some r := h
 clear h
 by_cases c4 : a0 ≥ a1
 ·rw [if_pos c4] at H
  have c4b0 : decide (a1 ≤ a0) = true := decide_eq_true c4
  clear c4
  obtain rfl := Option.some.inj H
  go_enter Tryd.func78, Tryd.ntmps78
  go_wp2
  go_ret
  exact ⟨by first | rfl | (simp; done) | (simp [*]; done), by repeat (first | exact Drawn0.refl _ | apply Drawn0.step)⟩
 ·rw [if_neg c4] at H
  have c4b0 : decide (a1 ≤ a0) = false := decide_eq_false c4
  clear c4
  obtain rfl := Option.some.inj H
  go_enter Tryd.func78, Tryd.ntmps78
  go_wp2
  go_ret
  exact ⟨by first | rfl | (simp; done) | (simp [*]; done), by repeat (first | exact Drawn0.refl _ | apply Drawn0.step)⟩
def letterlockref1_letter.f (a0 : Int) : Option (Bool) := (letterlockref1_in.f a0 97 122).bind fun t162 => (if t162 = true then (some true) else ((letterlockref1_in.f a0 48 57).bind fun t163 => (if t163 = true then (some true) else (if a0 = 45 then (some true) else ((letterlockref1_in.f a0 223 246).bind fun t164 => (if t164 = true then (some true) else ((letterlockref1_in.f a0 248 255).bind fun t165 => (if t165 = true then (some true) else ((letterlockref1_in.f a0 945 969).bind fun t166 => (if t166 = true then (some true) else ((letterlockref1_in.f a0 1072 1103).bind fun t167 => (some t167))))))))))))
set_option maxHeartbeats 8000000 in
set_option maxRecDepth 100000 in
theorem letterlockref1_letter.calls (a0 : Int) (r : Bool) (w : World) (h : letterlockref1_letter.f a0 = some r) :
  Calls Tryd.prog 69 #[.int .i32 a0] w fun e w' => e = .returned (.bool r) ∧ Drawn0 w w' := by
 have H : ((letterlockref1_in.f a0 97 122).bind fun t162 => (if t162 = true then (some true) else ((letterlockref1_in.f a0 48 57).bind fun t163 => (if t163 = true then (some true) else (if a0 = 45 then (some true) else ((letterlockref1_in.f a0 223 246).bind fun t164 => (if t164 = true then (some true) else ((letterlockref1_in.f a0 248 255).bind fun t165 => (if t165 = true then (some true) else ((letterlockref1_in.f a0 945 969).bind fun t166 => (if t166 = true then (some true) else ((letterlockref1_in.f a0 1072 1103).bind fun t167 => (some t167))))))))))))) = some r := h
 clear h
 replace H := Option.bind_eq_some_iff.mp H
 obtain ⟨t162, A20, H⟩ := H
 replace H : (if t162 = true then (some true) else ((letterlockref1_in.f a0 48 57).bind fun t163 => (if t163 = true then (some true) else (if a0 = 45 then (some true) else ((letterlockref1_in.f a0 223 246).bind fun t164 => (if t164 = true then (some true) else ((letterlockref1_in.f a0 248 255).bind fun t165 => (if t165 = true then (some true) else ((letterlockref1_in.f a0 945 969).bind fun t166 => (if t166 = true then (some true) else ((letterlockref1_in.f a0 1072 1103).bind fun t167 => (some t167)))))))))))) = some r := H
 have A2 := Aside0.mk A20
 clear A20
 by_cases c3 : t162 = true
 ·subst c3
  have H1 : (some true) = some r := by rw [if_pos rfl] at H; exact H
  clear H
  have H := H1
  clear H1
  obtain rfl := Option.some.inj H
  go_enter Tryd.func69, Tryd.ntmps69
  go_wp2_with (first | ((with_reducible refine gate_callee (f := 78) rfl ?_); refine goesL_ (some 4) rfl rfl Tryd.func78 (by kernel_rfl) rfl #[.int .i32 a0, .int .i32 97, .int .i32 122] rfl (by (try simp only [List.map_toArray, List.map_cons, List.map_nil]); first | done | rfl | (simp only [List.length_drop, List.length_take]; rfl)) ?_; (with_reducible refine (letterlockref1_in.calls a0 97 122 true _ A2.out).mono ?_); rintro e w' ⟨rfl, ⟨nd, rfl⟩⟩; refine ⟨_, rfl, ?_⟩))
  go_ret
  exact ⟨by first | rfl | (simp; done) | (simp [*]; done), by repeat (first | exact Drawn0.refl _ | apply Drawn0.step)⟩
 ·replace c3 := Bool.eq_false_iff.mpr c3
  subst c3
  have H1 : ((letterlockref1_in.f a0 48 57).bind fun t163 => (if t163 = true then (some true) else (if a0 = 45 then (some true) else ((letterlockref1_in.f a0 223 246).bind fun t164 => (if t164 = true then (some true) else ((letterlockref1_in.f a0 248 255).bind fun t165 => (if t165 = true then (some true) else ((letterlockref1_in.f a0 945 969).bind fun t166 => (if t166 = true then (some true) else ((letterlockref1_in.f a0 1072 1103).bind fun t167 => (some t167))))))))))) = some r := by rw [if_neg (show ¬ (false = true) by decide)] at H; exact H
  clear H
  have H := H1
  clear H1
  replace H := Option.bind_eq_some_iff.mp H
  obtain ⟨t163, A40, H⟩ := H
  replace H : (if t163 = true then (some true) else (if a0 = 45 then (some true) else ((letterlockref1_in.f a0 223 246).bind fun t164 => (if t164 = true then (some true) else ((letterlockref1_in.f a0 248 255).bind fun t165 => (if t165 = true then (some true) else ((letterlockref1_in.f a0 945 969).bind fun t166 => (if t166 = true then (some true) else ((letterlockref1_in.f a0 1072 1103).bind fun t167 => (some t167)))))))))) = some r := H
  have A4 := Aside0.mk A40
  clear A40
  by_cases c5 : t163 = true
  ·subst c5
   have H1 : (some true) = some r := by rw [if_pos rfl] at H; exact H
   clear H
   have H := H1
   clear H1
   obtain rfl := Option.some.inj H
   go_enter Tryd.func69, Tryd.ntmps69
   go_wp2_with (first | ((with_reducible refine gate_callee (f := 78) rfl ?_); refine goesL_ (some 4) rfl rfl Tryd.func78 (by kernel_rfl) rfl #[.int .i32 a0, .int .i32 97, .int .i32 122] rfl (by (try simp only [List.map_toArray, List.map_cons, List.map_nil]); first | done | rfl | (simp only [List.length_drop, List.length_take]; rfl)) ?_; (with_reducible refine (letterlockref1_in.calls a0 97 122 false _ A2.out).mono ?_); rintro e w' ⟨rfl, ⟨nd, rfl⟩⟩; refine ⟨_, rfl, ?_⟩) | (go_at_call 78; (with_reducible refine (letterlockref1_in.calls a0 48 57 true _ A4.out).mono ?_); rintro e w' ⟨rfl, ⟨nd, rfl⟩⟩))
   go_ret
   exact ⟨by first | rfl | (simp; done) | (simp [*]; done), by repeat (first | exact Drawn0.refl _ | apply Drawn0.step)⟩
  ·replace c5 := Bool.eq_false_iff.mpr c5
   subst c5
   have H1 : (if a0 = 45 then (some true) else ((letterlockref1_in.f a0 223 246).bind fun t164 => (if t164 = true then (some true) else ((letterlockref1_in.f a0 248 255).bind fun t165 => (if t165 = true then (some true) else ((letterlockref1_in.f a0 945 969).bind fun t166 => (if t166 = true then (some true) else ((letterlockref1_in.f a0 1072 1103).bind fun t167 => (some t167))))))))) = some r := by rw [if_neg (show ¬ (false = true) by decide)] at H; exact H
   clear H
   have H := H1
   clear H1
   by_cases c6 : a0 = 45
   ·rw [if_pos c6] at H
    have c6b0 : (a0 == 45) = true := beq_iff_eq.mpr c6
    have c6b1 : (a0 != 45) = false := bne_eq_false_iff_eq.mpr c6
    clear c6
    obtain rfl := Option.some.inj H
    go_enter Tryd.func69, Tryd.ntmps69
    go_wp2_with (first | ((with_reducible refine gate_callee (f := 78) rfl ?_); refine goesL_ (some 4) rfl rfl Tryd.func78 (by kernel_rfl) rfl #[.int .i32 a0, .int .i32 97, .int .i32 122] rfl (by (try simp only [List.map_toArray, List.map_cons, List.map_nil]); first | done | rfl | (simp only [List.length_drop, List.length_take]; rfl)) ?_; (with_reducible refine (letterlockref1_in.calls a0 97 122 false _ A2.out).mono ?_); rintro e w' ⟨rfl, ⟨nd, rfl⟩⟩; refine ⟨_, rfl, ?_⟩) | (go_at_call 78; (with_reducible refine (letterlockref1_in.calls a0 48 57 false _ A4.out).mono ?_); rintro e w' ⟨rfl, ⟨nd, rfl⟩⟩))
    go_ret
    exact ⟨by first | rfl | (simp; done) | (simp [*]; done), by repeat (first | exact Drawn0.refl _ | apply Drawn0.step)⟩
   ·rw [if_neg c6] at H
    have c6b0 : (a0 == 45) = false := beq_eq_false_iff_ne.mpr c6
    have c6b1 : (a0 != 45) = true := bne_iff_ne.mpr c6
    replace H := Option.bind_eq_some_iff.mp H
    obtain ⟨t164, A70, H⟩ := H
    replace H : (if t164 = true then (some true) else ((letterlockref1_in.f a0 248 255).bind fun t165 => (if t165 = true then (some true) else ((letterlockref1_in.f a0 945 969).bind fun t166 => (if t166 = true then (some true) else ((letterlockref1_in.f a0 1072 1103).bind fun t167 => (some t167))))))) = some r := H
    have A7 := Aside0.mk A70
    clear A70
    by_cases c8 : t164 = true
    ·subst c8
     have H1 : (some true) = some r := by rw [if_pos rfl] at H; exact H
     clear H
     have H := H1
     clear H1
     obtain rfl := Option.some.inj H
     go_enter Tryd.func69, Tryd.ntmps69
     go_wp2_with (first | ((with_reducible refine gate_callee (f := 78) rfl ?_); refine goesL_ (some 4) rfl rfl Tryd.func78 (by kernel_rfl) rfl #[.int .i32 a0, .int .i32 97, .int .i32 122] rfl (by (try simp only [List.map_toArray, List.map_cons, List.map_nil]); first | done | rfl | (simp only [List.length_drop, List.length_take]; rfl)) ?_; (with_reducible refine (letterlockref1_in.calls a0 97 122 false _ A2.out).mono ?_); rintro e w' ⟨rfl, ⟨nd, rfl⟩⟩; refine ⟨_, rfl, ?_⟩) | (go_at_call 78; (with_reducible refine (letterlockref1_in.calls a0 48 57 false _ A4.out).mono ?_); rintro e w' ⟨rfl, ⟨nd, rfl⟩⟩) | (go_at_call 78; (with_reducible refine (letterlockref1_in.calls a0 223 246 true _ A7.out).mono ?_); rintro e w' ⟨rfl, ⟨nd, rfl⟩⟩))
     go_ret
     exact ⟨by first | rfl | (simp; done) | (simp [*]; done), by repeat (first | exact Drawn0.refl _ | apply Drawn0.step)⟩
    ·replace c8 := Bool.eq_false_iff.mpr c8
     subst c8
     have H1 : ((letterlockref1_in.f a0 248 255).bind fun t165 => (if t165 = true then (some true) else ((letterlockref1_in.f a0 945 969).bind fun t166 => (if t166 = true then (some true) else ((letterlockref1_in.f a0 1072 1103).bind fun t167 => (some t167)))))) = some r := by rw [if_neg (show ¬ (false = true) by decide)] at H; exact H
     clear H
     have H := H1
     clear H1
     replace H := Option.bind_eq_some_iff.mp H
     obtain ⟨t165, A90, H⟩ := H
     replace H : (if t165 = true then (some true) else ((letterlockref1_in.f a0 945 969).bind fun t166 => (if t166 = true then (some true) else ((letterlockref1_in.f a0 1072 1103).bind fun t167 => (some t167))))) = some r := H
     have A9 := Aside0.mk A90
     clear A90
     by_cases c10 : t165 = true
     ·subst c10
      have H1 : (some true) = some r := by rw [if_pos rfl] at H; exact H
      clear H
      have H := H1
      clear H1
      obtain rfl := Option.some.inj H
      go_enter Tryd.func69, Tryd.ntmps69
      go_wp2_with (first | ((with_reducible refine gate_callee (f := 78) rfl ?_); refine goesL_ (some 4) rfl rfl Tryd.func78 (by kernel_rfl) rfl #[.int .i32 a0, .int .i32 97, .int .i32 122] rfl (by (try simp only [List.map_toArray, List.map_cons, List.map_nil]); first | done | rfl | (simp only [List.length_drop, List.length_take]; rfl)) ?_; (with_reducible refine (letterlockref1_in.calls a0 97 122 false _ A2.out).mono ?_); rintro e w' ⟨rfl, ⟨nd, rfl⟩⟩; refine ⟨_, rfl, ?_⟩) | (go_at_call 78; (with_reducible refine (letterlockref1_in.calls a0 48 57 false _ A4.out).mono ?_); rintro e w' ⟨rfl, ⟨nd, rfl⟩⟩) | (go_at_call 78; (with_reducible refine (letterlockref1_in.calls a0 223 246 false _ A7.out).mono ?_); rintro e w' ⟨rfl, ⟨nd, rfl⟩⟩) | (go_at_call 78; (with_reducible refine (letterlockref1_in.calls a0 248 255 true _ A9.out).mono ?_); rintro e w' ⟨rfl, ⟨nd, rfl⟩⟩))
      go_ret
      exact ⟨by first | rfl | (simp; done) | (simp [*]; done), by repeat (first | exact Drawn0.refl _ | apply Drawn0.step)⟩
     ·replace c10 := Bool.eq_false_iff.mpr c10
      subst c10
      have H1 : ((letterlockref1_in.f a0 945 969).bind fun t166 => (if t166 = true then (some true) else ((letterlockref1_in.f a0 1072 1103).bind fun t167 => (some t167)))) = some r := by rw [if_neg (show ¬ (false = true) by decide)] at H; exact H
      clear H
      have H := H1
      clear H1
      replace H := Option.bind_eq_some_iff.mp H
      obtain ⟨t166, A110, H⟩ := H
      replace H : (if t166 = true then (some true) else ((letterlockref1_in.f a0 1072 1103).bind fun t167 => (some t167))) = some r := H
      have A11 := Aside0.mk A110
      clear A110
      by_cases c12 : t166 = true
      ·subst c12
       have H1 : (some true) = some r := by rw [if_pos rfl] at H; exact H
       clear H
       have H := H1
       clear H1
       obtain rfl := Option.some.inj H
       go_enter Tryd.func69, Tryd.ntmps69
       go_wp2_with (first | ((with_reducible refine gate_callee (f := 78) rfl ?_); refine goesL_ (some 4) rfl rfl Tryd.func78 (by kernel_rfl) rfl #[.int .i32 a0, .int .i32 97, .int .i32 122] rfl (by (try simp only [List.map_toArray, List.map_cons, List.map_nil]); first | done | rfl | (simp only [List.length_drop, List.length_take]; rfl)) ?_; (with_reducible refine (letterlockref1_in.calls a0 97 122 false _ A2.out).mono ?_); rintro e w' ⟨rfl, ⟨nd, rfl⟩⟩; refine ⟨_, rfl, ?_⟩) | (go_at_call 78; (with_reducible refine (letterlockref1_in.calls a0 48 57 false _ A4.out).mono ?_); rintro e w' ⟨rfl, ⟨nd, rfl⟩⟩) | (go_at_call 78; (with_reducible refine (letterlockref1_in.calls a0 223 246 false _ A7.out).mono ?_); rintro e w' ⟨rfl, ⟨nd, rfl⟩⟩) | (go_at_call 78; (with_reducible refine (letterlockref1_in.calls a0 248 255 false _ A9.out).mono ?_); rintro e w' ⟨rfl, ⟨nd, rfl⟩⟩) | (go_at_call 78; (with_reducible refine (letterlockref1_in.calls a0 945 969 true _ A11.out).mono ?_); rintro e w' ⟨rfl, ⟨nd, rfl⟩⟩))
       go_ret
       exact ⟨by first | rfl | (simp; done) | (simp [*]; done), by repeat (first | exact Drawn0.refl _ | apply Drawn0.step)⟩
      ·replace c12 := Bool.eq_false_iff.mpr c12
       subst c12
       have H1 : ((letterlockref1_in.f a0 1072 1103).bind fun t167 => (some t167)) = some r := by rw [if_neg (show ¬ (false = true) by decide)] at H; exact H
       clear H
       have H := H1
       clear H1
       replace H := Option.bind_eq_some_iff.mp H
       obtain ⟨t167, A130, H⟩ := H
       replace H : (some t167) = some r := H
       have A13 := Aside0.mk A130
       clear A130
       obtain rfl := Option.some.inj H
       go_enter Tryd.func69, Tryd.ntmps69
       go_wp2_with (first | ((with_reducible refine gate_callee (f := 78) rfl ?_); refine goesL_ (some 4) rfl rfl Tryd.func78 (by kernel_rfl) rfl #[.int .i32 a0, .int .i32 97, .int .i32 122] rfl (by (try simp only [List.map_toArray, List.map_cons, List.map_nil]); first | done | rfl | (simp only [List.length_drop, List.length_take]; rfl)) ?_; (with_reducible refine (letterlockref1_in.calls a0 97 122 false _ A2.out).mono ?_); rintro e w' ⟨rfl, ⟨nd, rfl⟩⟩; refine ⟨_, rfl, ?_⟩) | (go_at_call 78; (with_reducible refine (letterlockref1_in.calls a0 48 57 false _ A4.out).mono ?_); rintro e w' ⟨rfl, ⟨nd, rfl⟩⟩) | (go_at_call 78; (with_reducible refine (letterlockref1_in.calls a0 223 246 false _ A7.out).mono ?_); rintro e w' ⟨rfl, ⟨nd, rfl⟩⟩) | (go_at_call 78; (with_reducible refine (letterlockref1_in.calls a0 248 255 false _ A9.out).mono ?_); rintro e w' ⟨rfl, ⟨nd, rfl⟩⟩) | (go_at_call 78; (with_reducible refine (letterlockref1_in.calls a0 945 969 false _ A11.out).mono ?_); rintro e w' ⟨rfl, ⟨nd, rfl⟩⟩) | (go_at_call 78; (with_reducible refine (letterlockref1_in.calls a0 1072 1103 t167 _ A13.out).mono ?_); rintro e w' ⟨rfl, ⟨nd, rfl⟩⟩))
       go_ret
       exact ⟨by first | rfl | (simp; done) | (simp [*]; done), by repeat (first | exact Drawn0.refl _ | apply Drawn0.step)⟩
mutual
def letterlockref1_Right.j0 : Nat → List Int → Bool → Option (Bool)
 | 0, _, _ => none
 | k + 1, x3, x22 => if x22 = true then (some false) else (letterlockref1_Right.l0 k x3 0)
def letterlockref1_Right.l0 : Nat → List Int → Int → Option (Bool)
 | 0, _, _ => none
 | k + 1, x3, x5 => if x5 < (x3.length : Int) then (if 0 ≤ x5 then ((letterlockref1_letter.f (rd x3 x5)).bind fun t173 => (if t173 = true then (letterlockref1_Right.l0 k x3 (wrap64 (x5 + 1))) else (some false))) else (none)) else (some true)
end
def letterlockref1_Right.f (k : Nat) (a0 : ByteArray) : Option (Bool) := (letterlockref1_Runes.f k a0).bind fun bt168 => (if bt168.2 = 0 then (if (bt168.1.length : Int) < 1 then (letterlockref1_Right.j0 k bt168.1 true) else (letterlockref1_Right.j0 k bt168.1 (decide ((bt168.1.length : Int) > 32)))) else (letterlockref1_Right.j0 k bt168.1 true))
set_option maxHeartbeats 8000000 in
set_option maxRecDepth 100000 in
theorem letterlockref1_Right.calls (k : Nat) (a0 : ByteArray) (r : Bool) (w : World) (h : letterlockref1_Right.f k a0 = some r) :
  Calls Tryd.prog 47 #[.string a0] w fun e w' => e = .returned (.bool r) ∧ Below w.heap.size w w' := by
 have HB := Aside0.mk (Below.refl w.heap.size w)
 have H : ((letterlockref1_Runes.f k a0).bind fun bt168 => (if bt168.2 = 0 then (if (bt168.1.length : Int) < 1 then (letterlockref1_Right.j0 k bt168.1 true) else (letterlockref1_Right.j0 k bt168.1 (decide ((bt168.1.length : Int) > 32)))) else (letterlockref1_Right.j0 k bt168.1 true))) = some r := h
 clear h
 replace H := Option.bind_eq_some_iff.mp H
 obtain ⟨⟨t168, t169⟩, A20, H⟩ := H
 replace H : (if t169 = 0 then (if (t168.length : Int) < 1 then (letterlockref1_Right.j0 k t168 true) else (letterlockref1_Right.j0 k t168 (decide ((t168.length : Int) > 32)))) else (letterlockref1_Right.j0 k t168 true)) = some r := H
 have A2 := Aside0.mk A20
 clear A20
 have HC3 := Aside0.mk H
 clear H
 go_enter Tryd.func47, Tryd.ntmps47
 go_upto_region 2 with (first | ((with_reducible refine gate_callee (f := 68) rfl ?_); refine goesL_ (some 8) rfl rfl Tryd.func68 (by kernel_rfl) rfl #[.string a0] rfl (by (try simp only [List.map_toArray, List.map_cons, List.map_nil]); first | done | rfl | (simp only [List.length_drop, List.length_take]; rfl)) ?_; (with_reducible refine (letterlockref1_Runes.calls k a0 t168 t169 _ A2.out).mono ?_); rintro e w4 ⟨v170, rfl, ho0, hb⟩; refine ⟨_, rfl, ?_⟩; have n0_ := Aside0.mk (Kd.R_lower ho0 (below_size (by repeat (first | (with_reducible first | exact HB.out | apply below_alloc | apply pw_below_drewN | apply below_drew1) | exact HB.out)))); have n1_ := Aside0.mk (below_step (by repeat (first | (with_reducible first | exact HB.out | apply below_alloc | apply pw_below_drewN | apply below_drew1) | exact HB.out)) hb); clear HB; have HO171 := n0_; have HB := n1_; clear n0_ n1_; (try clear hb); (try clear hb2); (try clear hk); (try clear hi); (try clear ho0)))
 (try simp only [Act.put, List.setIfInBounds_toArray, List.set_cons_zero, List.set_cons_succ])
 go_cut [22] (fun v22 wc => ∃ (kq : Nat) (x22_2 : Bool), v22 = .bool x22_2 ∧ Aside0 (letterlockref1_Right.j0 kq t168 x22_2 = some r) ∧ Aside0 (kq ≤ k) ∧ Aside0 (Kd.R (Kd.int .i32) 21 wc w.heap.size (fun _ => True) v170 t168) ∧ Aside0 (Below w.heap.size w wc))
 case first =>
  have H := HC3.out
  clear HC3
  by_cases c5 : t169 = 0
  ·rw [if_pos c5] at H
   have c5b0 : (t169 == 0) = true := beq_iff_eq.mpr c5
   have c5b1 : (t169 != 0) = false := bne_eq_false_iff_eq.mpr c5
   clear c5
   (first | rw [c5b0] | (simp only [i64_w, i32_w]; rw [c5b0]) | skip)
   by_cases c6 : (t168.length : Int) < 1
   ·rw [if_pos c6] at H
    have c6b0 : decide ((t168.length : Int) < 1) = true := decide_eq_true c6
    have c6b1 : decide (t168.length < 1) = true := decide_eq_true (by omega)
    clear c6
    have H' := Aside0.mk H
    clear H
    obtain ⟨Ao7, co7, eo7⟩ := Kd.R_slice HO171.out
    subst eo7
    go_wp2
    go_meet
    case rel => exact ⟨_, (true), (by first | rfl | (simp; done) | (simp [*]; done)), H', ⟨by first | omega | exact Nat.le_refl _⟩, ⟨by (with_reducible repeat (first | apply Kd.R_alloc | apply Kd.R_drewN | apply Kd.R_drew)); exact HO171.out⟩, ⟨by repeat (first | (with_reducible first | exact HB.out | apply below_alloc | apply pw_below_drewN | apply below_drew1) | exact HB.out)⟩⟩
   ·rw [if_neg c6] at H
    have c6b0 : decide ((t168.length : Int) < 1) = false := decide_eq_false c6
    have c6b1 : decide (t168.length < 1) = false := decide_eq_false (by omega)
    clear c6
    have H' := Aside0.mk H
    clear H
    obtain ⟨Ao8, co8, eo8⟩ := Kd.R_slice HO171.out
    subst eo8
    go_wp2
    go_meet
    case rel => exact ⟨_, (decide ((t168.length : Int) > 32)), (by first | rfl | (simp; done) | (simp [*]; done)), H', ⟨by first | omega | exact Nat.le_refl _⟩, ⟨by (with_reducible repeat (first | apply Kd.R_alloc | apply Kd.R_drewN | apply Kd.R_drew)); exact HO171.out⟩, ⟨by repeat (first | (with_reducible first | exact HB.out | apply below_alloc | apply pw_below_drewN | apply below_drew1) | exact HB.out)⟩⟩
  ·rw [if_neg c5] at H
   have c5b0 : (t169 == 0) = false := beq_eq_false_iff_ne.mpr c5
   have c5b1 : (t169 != 0) = true := bne_iff_ne.mpr c5
   (first | rw [c5b0] | (simp only [i64_w, i32_w]; rw [c5b0]) | skip)
   have H' := Aside0.mk H
   clear H
   go_wp2
   go_meet
   case rel => exact ⟨_, (true), (by first | rfl | (simp; done) | (simp [*]; done)), H', ⟨by first | omega | exact Nat.le_refl _⟩, ⟨by (with_reducible repeat (first | apply Kd.R_alloc | apply Kd.R_drewN | apply Kd.R_drew)); exact HO171.out⟩, ⟨by repeat (first | (with_reducible first | exact HB.out | apply below_alloc | apply pw_below_drewN | apply below_drew1) | exact HB.out)⟩⟩
 case rest =>
  clear HC3
  try clear p2
  try clear c4
  try clear c5
  try clear c5b0
  try clear c5b1
  try clear c6
  try clear c6b0
  try clear c6b1
  obtain ⟨kq, x22_2, rfl, HA, HJ2, HO_3, HB⟩ := hcut
  cases kq with
  | zero => exact absurd HA.out (by simp [letterlockref1_Right.j0])
  | succ kj2 =>
   have H := HA.out
   clear HA
   simp only [letterlockref1_Right.j0] at H
   by_cases c9 : x22_2 = true
   ·subst c9
    have H1 : (some false) = some r := by rw [if_pos rfl] at H; exact H
    clear H
    have H := H1
    clear H1
    obtain rfl := Option.some.inj H
    go_wp2
    go_ret
    exact ⟨by first | rfl | (simp [errW_none, errW_some] <;> rfl) | (simp [*, errW_none, errW_some] <;> rfl), by repeat (first | (with_reducible first | exact HB.out | apply below_alloc | apply pw_below_drewN | apply below_drew1) | exact HB.out)⟩
   ·replace c9 := Bool.eq_false_iff.mpr c9
    subst c9
    have H1 : (letterlockref1_Right.l0 kj2 t168 0) = some r := by rw [if_neg (show ¬ (false = true) by decide)] at H; exact H
    clear H
    have H := H1
    clear H1
    have H' := Aside0.mk H
    clear H
    go_wp2
    go_loopg [5] kj2 (fun kq v5 w' => ∃ (x5_2 : Int), v5 = .int .i64 x5_2 ∧ Aside0 (letterlockref1_Right.l0 kq t168 x5_2 = some r) ∧ Aside0 (kq ≤ kj2) ∧ Aside0 (Kd.R (Kd.int .i32) 21 w' w.heap.size (fun _ => True) v170 t168) ∧ Aside0 (Below w.heap.size w w'))
    case atStart => exact ⟨(0), (by first | rfl | (simp; done) | (simp [*]; done)), H', ⟨Nat.le_refl _⟩, ⟨by (with_reducible repeat (first | apply Kd.R_alloc | apply Kd.R_drewN | apply Kd.R_drew)); exact HO_3.out⟩, ⟨by repeat (first | (with_reducible first | exact HB.out | apply below_alloc | apply pw_below_drewN | apply below_drew1) | exact HB.out)⟩⟩
    case round =>
     clear H'
     try clear p2
     try clear c4
     try clear c5
     try clear c5b0
     try clear c5b1
     try clear c6
     try clear c6b0
     try clear c6b1
     try clear c9
     try clear p2
     obtain ⟨x5_2, rfl, HA, HK2, HO_3, HB⟩ := hrel
     cases gk with
     | zero => exact absurd HA.out (by simp [letterlockref1_Right.l0])
     | succ k2 =>
      have H := HA.out
      clear HA
      simp only [letterlockref1_Right.l0] at H
      by_cases c10 : x5_2 < (t168.length : Int)
      ·rw [if_pos c10] at H
       have c10b0 : decide (x5_2 < (t168.length : Int)) = true := decide_eq_true c10
       clear c10
       by_cases c11 : 0 ≤ x5_2
       ·rw [if_pos c11] at H
        have c11b0 : decide (0 ≤ x5_2) = true := decide_eq_true c11
        clear c11
        replace H := Option.bind_eq_some_iff.mp H
        obtain ⟨t173, A120, H⟩ := H
        replace H : (if t173 = true then (letterlockref1_Right.l0 k2 t168 (wrap64 (x5_2 + 1))) else (some false)) = some r := H
        have A12 := Aside0.mk A120
        clear A120
        by_cases c13 : t173 = true
        ·subst c13
         have H1 : (letterlockref1_Right.l0 k2 t168 (wrap64 (x5_2 + 1))) = some r := by rw [if_pos rfl] at H; exact H
         clear H
         have H := H1
         clear H1
         have H' := Aside0.mk H
         clear H
         obtain ⟨Ao14, co14, eo14⟩ := Kd.R_slice HO_3.out
         subst eo14
         have p172 : 0 ≤ (x5_2 : Int) := of_decide_eq_true (by first | (with_reducible assumption) | assumption)
         have q172 : x5_2 < (t168.length : Int) := of_decide_eq_true (by first | (with_reducible assumption) | assumption)
         obtain ⟨ad172, e172, hx172_0⟩ := Kd.at_int (Kd.R_reads' HO_3.out).2.2 x5_2 p172 q172
         cases e172
         replace p172 := eq_true p172
         replace q172 := eq_true q172
         go_wp2_with (first | ((with_reducible refine gate_callee (f := 69) rfl ?_); refine goesL_ (some 33) rfl rfl Tryd.func69 (by kernel_rfl) rfl #[.int .i32 (rd t168 x5_2)] rfl (by (try simp only [List.map_toArray, List.map_cons, List.map_nil]); first | done | rfl | (simp only [List.length_drop, List.length_take]; rfl)) ?_; (with_reducible refine (letterlockref1_letter.calls (rd t168 x5_2) true _ A12.out).mono ?_); rintro e w' ⟨rfl, ⟨nd, rfl⟩⟩; refine ⟨_, rfl, ?_⟩))
         go_roundg k2
         case measure => have := HJ2.out; have := HK2.out; omega
         case rel => exact ⟨(wrap64 (x5_2 + 1)), (by first | rfl | (simp; done) | (simp [*]; done)), H', ⟨by have := HJ2.out; have := HK2.out; omega⟩, ⟨by (with_reducible repeat (first | apply Kd.R_alloc | apply Kd.R_drewN | apply Kd.R_drew)); exact HO_3.out⟩, ⟨by repeat (first | (with_reducible first | exact HB.out | apply below_alloc | apply pw_below_drewN | apply below_drew1) | exact HB.out)⟩⟩
        ·replace c13 := Bool.eq_false_iff.mpr c13
         subst c13
         have H1 : (some false) = some r := by rw [if_neg (show ¬ (false = true) by decide)] at H; exact H
         clear H
         have H := H1
         clear H1
         obtain rfl := Option.some.inj H
         obtain ⟨Ao15, co15, eo15⟩ := Kd.R_slice HO_3.out
         subst eo15
         have p172 : 0 ≤ (x5_2 : Int) := of_decide_eq_true (by first | (with_reducible assumption) | assumption)
         have q172 : x5_2 < (t168.length : Int) := of_decide_eq_true (by first | (with_reducible assumption) | assumption)
         obtain ⟨ad172, e172, hx172_0⟩ := Kd.at_int (Kd.R_reads' HO_3.out).2.2 x5_2 p172 q172
         cases e172
         replace p172 := eq_true p172
         replace q172 := eq_true q172
         go_wp2_with (first | ((with_reducible refine gate_callee (f := 69) rfl ?_); refine goesL_ (some 33) rfl rfl Tryd.func69 (by kernel_rfl) rfl #[.int .i32 (rd t168 x5_2)] rfl (by (try simp only [List.map_toArray, List.map_cons, List.map_nil]); first | done | rfl | (simp only [List.length_drop, List.length_take]; rfl)) ?_; (with_reducible refine (letterlockref1_letter.calls (rd t168 x5_2) false _ A12.out).mono ?_); rintro e w' ⟨rfl, ⟨nd, rfl⟩⟩; refine ⟨_, rfl, ?_⟩))
         go_ret
         exact ⟨by first | rfl | (simp [errW_none, errW_some] <;> rfl) | (simp [*, errW_none, errW_some] <;> rfl), by repeat (first | (with_reducible first | exact HB.out | apply below_alloc | apply pw_below_drewN | apply below_drew1) | exact HB.out)⟩
       ·rw [if_neg c11] at H
        exact absurd H (by simp)
      ·rw [if_neg c10] at H
       have c10b0 : decide (x5_2 < (t168.length : Int)) = false := decide_eq_false c10
       clear c10
       obtain rfl := Option.some.inj H
       obtain ⟨Ao16, co16, eo16⟩ := Kd.R_slice HO_3.out
       subst eo16
       go_wp2
       go_ret
       exact ⟨by first | rfl | (simp [errW_none, errW_some] <;> rfl) | (simp [*, errW_none, errW_some] <;> rfl), by repeat (first | (with_reducible first | exact HB.out | apply below_alloc | apply pw_below_drewN | apply below_drew1) | exact HB.out)⟩
mutual
def letterlockref1_Less.l0 : Nat → ByteArray → ByteArray → Int → Option (Bool)
 | 0, _, _, _ => none
 | k + 1, x0, x1, x5 => if x5 < (x0.size : Int) then (letterlockref1_Less.j1 k x0 x1 x5 (decide (x5 < (x1.size : Int)))) else (letterlockref1_Less.j1 k x0 x1 x5 false)
def letterlockref1_Less.j1 : Nat → ByteArray → ByteArray → Int → Bool → Option (Bool)
 | 0, _, _, _, _ => none
 | k + 1, x0, x1, x5, x15 => if x15 = true then (if 0 ≤ x5 then (if x5 < (x0.size : Int) then (if x5 < (x1.size : Int) then (if (bt x0 x5) = (bt x1 x5) then (letterlockref1_Less.l0 k x0 x1 (wrap64 (x5 + 1))) else (some (decide ((bt x0 x5) < (bt x1 x5))))) else (none)) else (none)) else (none)) else (some (decide ((x0.size : Int) < (x1.size : Int))))
end
def letterlockref1_Less.f (k : Nat) (a0 : ByteArray) (a1 : ByteArray) : Option (Bool) := letterlockref1_Less.l0 k a0 a1 0
set_option maxHeartbeats 8000000 in
set_option maxRecDepth 100000 in
theorem letterlockref1_Less.calls (k : Nat) (a0 : ByteArray) (a1 : ByteArray) (r : Bool) (w : World) (h : letterlockref1_Less.f k a0 a1 = some r) :
  Calls Tryd.prog 70 #[.string a0, .string a1] w fun e w' => e = .returned (.bool r) ∧ Drawn0 w w' := by
 have H : (letterlockref1_Less.l0 k a0 a1 0) = some r := h
 clear h
 have H' := Aside0.mk H
 clear H
 go_enter Tryd.func70, Tryd.ntmps70
 go_wp2
 repeat (go_quiet (fail); try go_wp2)
 go_loopg [5] k (fun kq v5 w' => ∃ (x5_1 : Int), v5 = .int .i64 x5_1 ∧ Aside0 (letterlockref1_Less.l0 kq a0 a1 x5_1 = some r) ∧ Aside0 (kq ≤ k) ∧ Drawn0 w w')
 case atStart => exact ⟨(0), (by first | rfl | (simp; done) | (simp [*]; done)), H', ⟨Nat.le_refl _⟩, by repeat (first | exact Drawn0.refl _ | apply Drawn0.step)⟩
 case round =>
  clear H'
  try clear p2
  obtain ⟨x5_1, rfl, HA, HK1, ⟨m1, rfl⟩⟩ := hrel
  cases gk with
  | zero => exact absurd HA.out (by simp [letterlockref1_Less.l0])
  | succ k1 =>
   have H := HA.out
   clear HA
   simp only [letterlockref1_Less.l0] at H
   have HC3 := Aside0.mk H
   clear H
   go_upto_region 2 with (fail)
   repeat (go_quiet (fail); go_upto_region 2 with (fail))
   go_cut [15] (fun v15 wc => ∃ (kq : Nat) (x15_2 : Bool), v15 = .bool x15_2 ∧ Aside0 (letterlockref1_Less.j1 kq a0 a1 x5_1 x15_2 = some r) ∧ Aside0 (kq ≤ k1) ∧ Drawn0 w wc)
   case first =>
    have H := HC3.out
    clear HC3
    by_cases c4 : x5_1 < (a0.size : Int)
    ·rw [if_pos c4] at H
     have c4b0 : decide (x5_1 < (a0.size : Int)) = true := decide_eq_true c4
     clear c4
     (first | rw [c4b0] | (simp only [i64_w, i32_w]; rw [c4b0]) | skip)
     have H' := Aside0.mk H
     clear H
     go_wp2
     repeat (go_quiet (fail); try go_wp2)
     go_meet
     case rel => exact ⟨_, (decide (x5_1 < (a1.size : Int))), (by first | rfl | (simp; done) | (simp [*]; done)), H', ⟨by have := HK1.out; first | omega | exact Nat.le_refl _⟩, by repeat (first | exact Drawn0.refl _ | apply Drawn0.step)⟩
    ·rw [if_neg c4] at H
     have c4b0 : decide (x5_1 < (a0.size : Int)) = false := decide_eq_false c4
     clear c4
     (first | rw [c4b0] | (simp only [i64_w, i32_w]; rw [c4b0]) | skip)
     have H' := Aside0.mk H
     clear H
     go_wp2
     repeat (go_quiet (fail); try go_wp2)
     go_meet
     case rel => exact ⟨_, (false), (by first | rfl | (simp; done) | (simp [*]; done)), H', ⟨by have := HK1.out; first | omega | exact Nat.le_refl _⟩, by repeat (first | exact Drawn0.refl _ | apply Drawn0.step)⟩
   case rest =>
    clear HC3
    try clear p2
    try clear c4
    try clear c4b0
    try clear p2
    obtain ⟨kq, x15_2, rfl, HA, HJ2, ⟨mc2, rfl⟩⟩ := hcut
    cases kq with
    | zero => exact absurd HA.out (by simp [letterlockref1_Less.j1])
    | succ kj2 =>
     have H := HA.out
     clear HA
     simp only [letterlockref1_Less.j1] at H
     by_cases c5 : x15_2 = true
     ·subst c5
      have H1 : (if 0 ≤ x5_1 then (if x5_1 < (a0.size : Int) then (if x5_1 < (a1.size : Int) then (if (bt a0 x5_1) = (bt a1 x5_1) then (letterlockref1_Less.l0 kj2 a0 a1 (wrap64 (x5_1 + 1))) else (some (decide ((bt a0 x5_1) < (bt a1 x5_1))))) else (none)) else (none)) else (none)) = some r := by rw [if_pos rfl] at H; exact H
      clear H
      have H := H1
      clear H1
      by_cases c6 : 0 ≤ x5_1
      ·rw [if_pos c6] at H
       have c6b0 : decide (0 ≤ x5_1) = true := decide_eq_true c6
       clear c6
       by_cases c7 : x5_1 < (a0.size : Int)
       ·rw [if_pos c7] at H
        have c7b0 : decide (x5_1 < (a0.size : Int)) = true := decide_eq_true c7
        clear c7
        by_cases c9 : x5_1 < (a1.size : Int)
        ·rw [if_pos c9] at H
         have c9b0 : decide (x5_1 < (a1.size : Int)) = true := decide_eq_true c9
         clear c9
         by_cases c11 : (bt a0 x5_1) = (bt a1 x5_1)
         ·rw [if_pos c11] at H
          have c11b0 : ((bt a0 x5_1) == (bt a1 x5_1)) = true := beq_iff_eq.mpr c11
          have c11b1 : ((bt a0 x5_1) != (bt a1 x5_1)) = false := bne_eq_false_iff_eq.mpr c11
          clear c11
          have H' := Aside0.mk H
          clear H
          have p8 : 0 ≤ (x5_1 : Int) := of_decide_eq_true (by first | (with_reducible assumption) | assumption)
          have q8 : x5_1 < (a0.size : Int) := of_decide_eq_true (by first | (with_reducible assumption) | assumption)
          have hx8 := bt_at a0 x5_1
          replace p8 := eq_true p8
          replace q8 := eq_true q8
          have p10 : 0 ≤ (x5_1 : Int) := of_decide_eq_true (by first | (with_reducible assumption) | assumption)
          have q10 : x5_1 < (a1.size : Int) := of_decide_eq_true (by first | (with_reducible assumption) | assumption)
          have hx10 := bt_at a1 x5_1
          replace p10 := eq_true p10
          replace q10 := eq_true q10
          go_wp2
          repeat (go_quiet (fail); try go_wp2)
          go_roundg kj2
          case measure => have := HK1.out; have := HJ2.out; omega
          case rel => exact ⟨(wrap64 (x5_1 + 1)), (by first | rfl | (simp; done) | (simp [*]; done)), H', ⟨by have := HK1.out; have := HJ2.out; omega⟩, by repeat (first | exact Drawn0.refl _ | apply Drawn0.step)⟩
         ·rw [if_neg c11] at H
          have c11b0 : ((bt a0 x5_1) == (bt a1 x5_1)) = false := beq_eq_false_iff_ne.mpr c11
          have c11b1 : ((bt a0 x5_1) != (bt a1 x5_1)) = true := bne_iff_ne.mpr c11
          obtain rfl := Option.some.inj H
          have p8 : 0 ≤ (x5_1 : Int) := of_decide_eq_true (by first | (with_reducible assumption) | assumption)
          have q8 : x5_1 < (a0.size : Int) := of_decide_eq_true (by first | (with_reducible assumption) | assumption)
          have hx8 := bt_at a0 x5_1
          replace p8 := eq_true p8
          replace q8 := eq_true q8
          have p10 : 0 ≤ (x5_1 : Int) := of_decide_eq_true (by first | (with_reducible assumption) | assumption)
          have q10 : x5_1 < (a1.size : Int) := of_decide_eq_true (by first | (with_reducible assumption) | assumption)
          have hx10 := bt_at a1 x5_1
          replace p10 := eq_true p10
          replace q10 := eq_true q10
          have p12 : 0 ≤ (x5_1 : Int) := of_decide_eq_true (by first | (with_reducible assumption) | assumption)
          have q12 : x5_1 < (a0.size : Int) := of_decide_eq_true (by first | (with_reducible assumption) | assumption)
          have hx12 := bt_at a0 x5_1
          replace p12 := eq_true p12
          replace q12 := eq_true q12
          have p13 : 0 ≤ (x5_1 : Int) := of_decide_eq_true (by first | (with_reducible assumption) | assumption)
          have q13 : x5_1 < (a1.size : Int) := of_decide_eq_true (by first | (with_reducible assumption) | assumption)
          have hx13 := bt_at a1 x5_1
          replace p13 := eq_true p13
          replace q13 := eq_true q13
          go_wp2
          repeat (go_quiet (fail); try go_wp2)
          go_ret
          exact ⟨by first | rfl | (simp; done) | (simp [*]; done), by repeat (first | exact Drawn0.refl _ | apply Drawn0.step)⟩
        ·rw [if_neg c9] at H
         exact absurd H (by simp)
       ·rw [if_neg c7] at H
        exact absurd H (by simp)
      ·rw [if_neg c6] at H
       exact absurd H (by simp)
     ·replace c5 := Bool.eq_false_iff.mpr c5
      subst c5
      have H1 : (some (decide ((a0.size : Int) < (a1.size : Int)))) = some r := by rw [if_neg (show ¬ (false = true) by decide)] at H; exact H
      clear H
      have H := H1
      clear H1
      obtain rfl := Option.some.inj H
      go_wp2
      repeat (go_quiet (fail); try go_wp2)
      go_ret
      exact ⟨by first | rfl | (simp; done) | (simp [*]; done), by repeat (first | exact Drawn0.refl _ | apply Drawn0.step)⟩
def letterlockref7_Has.l0 : Nat → List ByteArray → ByteArray → Int → Option (Bool)
 | 0, _, _, _ => none
 | k + 1, x0, x1, x5 => if x5 < (x0.length : Int) then (if 0 ≤ x5 then (if (rdOf ByteArray.empty x0 x5).toList = x1.toList then (some true) else (letterlockref7_Has.l0 k x0 x1 (wrap64 (x5 + 1)))) else (none)) else (some false)
def letterlockref7_Has.f (k : Nat) (l0 : List ByteArray) (a1 : ByteArray) : Option (Bool) := letterlockref7_Has.l0 k l0 a1 0
set_option maxHeartbeats 8000000 in
set_option maxRecDepth 100000 in
theorem letterlockref7_Has.calls (k : Nat) (A0 : Option Addr) (c0 : Nat) (l0 : List ByteArray) (a1 : ByteArray) (r : Bool) (w : World) (hr0 : Kd.C Kd.string w A0 l0.length l0) (hc0 : l0.length ≤ c0) (h : letterlockref7_Has.f k l0 a1 = some r) :
  Calls Tryd.prog 48 #[.slice A0 l0.length c0, .string a1] w fun e w' => e = .returned (.bool r) ∧ Drawn0 w w' := by
 have HR0 := Aside0.mk hr0
 have HC0 := Aside0.mk hc0
 clear hr0 hc0
 have H : (letterlockref7_Has.l0 k l0 a1 0) = some r := h
 clear h
 have H' := Aside0.mk H
 clear H
 go_enter Tryd.func48, Tryd.ntmps48
 go_wp2
 go_loopg [5] k (fun kq v5 w' => ∃ (x5_1 : Int), v5 = .int .i64 x5_1 ∧ Aside0 (letterlockref7_Has.l0 kq l0 a1 x5_1 = some r) ∧ Aside0 (kq ≤ k) ∧ Drawn0 w w')
 case atStart => exact ⟨(0), (by first | rfl | (simp; done) | (simp [*]; done)), H', ⟨Nat.le_refl _⟩, by repeat (first | exact Drawn0.refl _ | apply Drawn0.step)⟩
 case round =>
  clear H'
  try clear p2
  obtain ⟨x5_1, rfl, HA, HK1, ⟨m1, rfl⟩⟩ := hrel
  cases gk with
  | zero => exact absurd HA.out (by simp [letterlockref7_Has.l0])
  | succ k1 =>
   have H := HA.out
   clear HA
   simp only [letterlockref7_Has.l0] at H
   by_cases c3 : x5_1 < (l0.length : Int)
   ·rw [if_pos c3] at H
    have c3b0 : decide (x5_1 < (l0.length : Int)) = true := decide_eq_true c3
    clear c3
    by_cases c4 : 0 ≤ x5_1
    ·rw [if_pos c4] at H
     have c4b0 : decide (0 ≤ x5_1) = true := decide_eq_true c4
     clear c4
     by_cases c5 : (rdOf ByteArray.empty l0 x5_1).toList = a1.toList
     ·rw [if_pos c5] at H
      have c5b0 : ((rdOf ByteArray.empty l0 x5_1).toList == a1.toList) = true := beq_iff_eq.mpr c5
      have c5b1 : ((rdOf ByteArray.empty l0 x5_1).toList != a1.toList) = false := bne_eq_false_iff_eq.mpr c5
      clear c5
      obtain rfl := Option.some.inj H
      have p174 : 0 ≤ (x5_1 : Int) := of_decide_eq_true (by first | (with_reducible assumption) | assumption)
      have q174 : x5_1 < (l0.length : Int) := of_decide_eq_true (by first | (with_reducible assumption) | assumption)
      obtain ⟨ad174, e174, hx174_0⟩ := Kd.at_string HR0.out x5_1 p174 q174
      cases e174
      replace p174 := eq_true p174
      replace q174 := eq_true q174
      go_wp2
      go_ret
      exact ⟨by first | rfl | (simp; done) | (simp [*]; done), by repeat (first | exact Drawn0.refl _ | apply Drawn0.step)⟩
     ·rw [if_neg c5] at H
      have c5b0 : ((rdOf ByteArray.empty l0 x5_1).toList == a1.toList) = false := beq_eq_false_iff_ne.mpr c5
      have c5b1 : ((rdOf ByteArray.empty l0 x5_1).toList != a1.toList) = true := bne_iff_ne.mpr c5
      have H' := Aside0.mk H
      clear H
      have p174 : 0 ≤ (x5_1 : Int) := of_decide_eq_true (by first | (with_reducible assumption) | assumption)
      have q174 : x5_1 < (l0.length : Int) := of_decide_eq_true (by first | (with_reducible assumption) | assumption)
      obtain ⟨ad174, e174, hx174_0⟩ := Kd.at_string HR0.out x5_1 p174 q174
      cases e174
      replace p174 := eq_true p174
      replace q174 := eq_true q174
      go_wp2
      go_roundg k1
      case measure => have := HK1.out; omega
      case rel => exact ⟨(wrap64 (x5_1 + 1)), (by first | rfl | (simp; done) | (simp [*]; done)), H', ⟨by have := HK1.out; omega⟩, by repeat (first | exact Drawn0.refl _ | apply Drawn0.step)⟩
    ·rw [if_neg c4] at H
     exact absurd H (by simp)
   ·rw [if_neg c3] at H
    have c3b0 : decide (x5_1 < (l0.length : Int)) = false := decide_eq_false c3
    clear c3
    obtain rfl := Option.some.inj H
    go_wp2
    go_ret
    exact ⟨by first | rfl | (simp; done) | (simp [*]; done), by repeat (first | exact Drawn0.refl _ | apply Drawn0.step)⟩
end Go.Proofs.YtfhanoloaejmkaaDoor.PA
end
section

namespace Go.Proofs.YtfhanoloaejmkaaDoor.Ref
open Go.RowKit Go.Proofs.YtfhanoloaejmkaaDoor Go.Proofs.YtfhanoloaejmkaaDoor.PA Go.Proofs.YtfhanoloaejmkaaDoorW.PrintWords Go.Proofs.YtfhanoloaejmkaaDoorW.PrintLast
set_option linter.unusedVariables false
def runesF (s : ByteArray) : List Int × Int := (if Lib.validD (bytes s) = true then runesD (bytes s) else [], if Lib.validD (bytes s) = true then 0 else 2)
theorem runesF_valid {s : ByteArray} (h : Lib.validD (bytes s) = true) : runesF s = (runesD (bytes s), 0) := by unfold runesF; rw [if_pos h, if_pos h]
theorem runesF_bad {s : ByteArray} (h : Lib.validD (bytes s) = false) : runesF s = ([], 2) := by unfold runesF; rw [h]; rfl
theorem valid_ref (r : Int) : letterlockref1_valid.f r = some (decide (ValidR r)) := by
 unfold letterlockref1_valid.f
 by_cases h0 : r ≥ 0
 ·rw [if_pos h0]
  by_cases h1 : r ≤ 1114111
  ·rw [if_pos h1]
   by_cases h2 : r < 55296
   ·rw [if_pos h2, decide_eq_true (show ValidR r from Or.inl ⟨h0, h2⟩)]
   ·rw [if_neg h2]
    by_cases h3 : r > 57343
    ·rw [decide_eq_true h3, decide_eq_true (show ValidR r from Or.inr ⟨h3, h1⟩)]
    ·rw [decide_eq_false h3, decide_eq_false (fun h => by unfold ValidR at h; omega)]
  ·rw [if_neg h1, decide_eq_false (fun h => by unfold ValidR at h; omega)]
 ·rw [if_neg h0, decide_eq_false (fun h => by unfold ValidR at h; omega)]
theorem w32 {n : Int} (h0 : -2147483648 ≤ n) (h1 : n ≤ 2147483647) : wrap32 n = n := by unfold wrap32; omega
end Go.Proofs.YtfhanoloaejmkaaDoor.Ref
end
section

namespace Go.Proofs.YtfhanoloaejmkaaDoor.Ref
open Go.RowKit Go.Proofs.YtfhanoloaejmkaaDoor Go.Proofs.YtfhanoloaejmkaaDoor.PA Go.Proofs.YtfhanoloaejmkaaDoorW.PrintWords Go.Proofs.YtfhanoloaejmkaaDoorW.PrintLast
set_option linter.unusedVariables false
def B (s : ByteArray) (i : Nat) : Nat := ((bytes s).getD i 0).toNat
theorem bt_B (s : ByteArray) (i : Nat) (h : i < s.size) : bt s (i : Int) = (B s i : Int) := by
 rw [bt_bytes s i h]
 unfold B
 rw [List.getD_eq_getElem?_getD, List.getElem?_eq_getElem (by rw [bytes_length]; exact h)]; rfl
theorem B_lt (s : ByteArray) (i : Nat) : B s i < 256 := UInt8.toNat_lt _
theorem decode_B (s : ByteArray) : Lib.decodeL (bytes s) = Lib.decodeN s.size (B s 0) (B s 1) (B s 2) (B s 3) := by rw [Lib.decodeL_N, bytes_length]; rfl
theorem cont_ok {s : ByteArray} {w x5 x6 : Int} {i : Nat} {r : Int × Int} (hw : (i : Int) < w) (hs : i < s.size) (h1 : 128 ≤ B s i) (h2 : B s i ≤ 191) (h0 : 0 ≤ x5) (h3 : 64 * x5 + 64 ≤ 2147483647) (hi : i ≤ 10)
  (h : Ev (fun k => letterlockref1_first.l0 k s w (64 * x5 + ((B s i : Int) - 128)) x6 ((i + 1 : Nat) : Int)) r) : Ev (fun k => letterlockref1_first.l0 k s w x5 x6 (i : Int)) r := by
 refine Ev.step (fun _ => rfl) (Ev.pos hw (Ev.pos (by omega) (Ev.pos (by omega) ?_)))
 rw [bt_B s i hs]
 refine Ev.neg (by omega) (Ev.neg (by omega) ?_)
 rw [w32 (n := 64 * x5) (by omega) (by omega), show ((B s i : Int) - 128) % 256 = (B s i : Int) - 128 from by omega, w32 (by omega) (by omega), w64 (by omega) (by omega)]
 exact h
theorem cont_bad {s : ByteArray} {w x5 x6 : Int} {i : Nat} (hw : (i : Int) < w) (hs : i < s.size) (h1 : ¬ (128 ≤ B s i ∧ B s i ≤ 191)) : Ev (fun k => letterlockref1_first.l0 k s w x5 x6 (i : Int)) (0, 0) := by
 refine Ev.step (fun _ => rfl) (Ev.pos hw (Ev.pos (by omega) (Ev.pos (by omega) ?_)))
 rw [bt_B s i hs]
 by_cases c : (B s i : Int) < 128
 ·exact Ev.pos c (Ev.now _)
 ·exact Ev.neg c (Ev.pos (by omega) (Ev.now _))
def endF (w x5 x6 : Int) : Int × Int := if x5 < x6 then (0, 0) else if ValidR x5 then (x5, w) else (0, 0)
theorem cont_end {s : ByteArray} {w x5 x6 : Int} {i : Nat} (hw : ¬ (i : Int) < w) : Ev (fun k => letterlockref1_first.l0 k s w x5 x6 (i : Int)) (endF w x5 x6) := by
 refine Ev.step (fun _ => rfl) (Ev.neg hw ?_)
 by_cases c : x5 < x6
 ·exact ev_cast (Ev.pos c (Ev.now _)) (by unfold endF; rw [if_pos c])
 ·refine Ev.neg c (Ev.put (valid_ref x5) ?_)
  by_cases h : ValidR x5
  ·exact ev_cast (Ev.pos (decide_eq_true h) (Ev.now _)) (by unfold endF; rw [if_neg c, if_pos h])
  ·exact ev_cast (Ev.neg (by simpa using h) (Ev.now _)) (by unfold endF; rw [if_neg c, if_neg h])
theorem enough {s : ByteArray} {w x5 x6 : Int} {r : Int × Int} (h0 : w ≠ 0) (h1 : w ≤ (s.size : Int)) (h : Ev (fun k => letterlockref1_first.l0 k s w x5 x6 ((1 : Nat) : Int)) r) : Ev (fun k => letterlockref1_first.j2 k s w x5 x6) r := by
 refine Ev.step (fun _ => rfl) (Ev.neg h0 ?_)
 rw [decide_eq_false (by omega)]
 exact Ev.step (fun _ => rfl) h
theorem short {s : ByteArray} {w x5 x6 : Int} (h : w = 0 ∨ (s.size : Int) < w) : Ev (fun k => letterlockref1_first.j2 k s w x5 x6) (0, 0) := by
 refine Ev.step (fun _ => rfl) ?_
 by_cases h0 : w = 0
 ·exact Ev.pos h0 (Ev.step (fun _ => rfl) (Ev.now _))
 ·refine Ev.neg h0 ?_
  rw [decide_eq_true (by rcases h with h | h; exact absurd h h0; exact h)]
  exact Ev.step (fun _ => rfl) (Ev.now _)
def firstF (l : Bs) : Int × Int := if l = [] then (0, 0) else if Bad l then (0, 0) else (((Lib.decodeL l).1 : Int), ((Lib.decodeL l).2 : Int))
def ofD (d : Nat × Nat) : Int × Int := if d.1 = 65533 ∧ d.2 = 1 then (0, 0) else ((d.1 : Int), (d.2 : Int))
theorem first_ofD {s : ByteArray} (h : 0 < s.size) : firstF (bytes s) = ofD (Lib.decodeN s.size (B s 0) (B s 1) (B s 2) (B s 3)) := by
 unfold firstF ofD
 rw [if_neg (fun e => by have := congrArg List.length e; rw [bytes_length, List.length_nil] at this; omega), ← decode_B]
 by_cases hb : Bad (bytes s)
 ·rw [if_pos hb]; exact (if_pos hb).symm
 ·rw [if_neg hb]; exact (if_neg hb).symm
theorem ofD_bad : ofD (65533, 1) = (0, 0) := by unfold ofD; rw [if_pos ⟨rfl, rfl⟩]
theorem ofD_ok {a b : Nat} (h : b ≠ 1) : ofD (a, b) = ((a : Int), (b : Int)) := by unfold ofD; rw [if_neg (fun e => h e.2)]
theorem first_ev (s : ByteArray) : Ev (fun k => letterlockref1_first.f k s) (firstF (bytes s)) := by
 unfold letterlockref1_first.f
 by_cases he : s.toList = ([] : List UInt8)
 ·rw [bytes_toList] at he
  rw [show firstF (bytes s) = (0, 0) by unfold firstF; rw [if_pos he]]
  exact Ev.pos (by rw [bytes_toList]; exact he) (Ev.now _)
 refine Ev.neg he ?_
 rw [bytes_toList] at he
 have hs : 0 < s.size := by rw [← bytes_length]; exact List.length_pos_iff.2 he
 rw [first_ofD hs]
 have h0 := B_lt s 0
 have h1 := B_lt s 1
 have h2 := B_lt s 2
 have h3 := B_lt s 3
 have hb0 : bt s 0 = (B s 0 : Int) := bt_B s 0 hs
 refine Ev.pos (by omega) ?_
 rw [hb0]
 by_cases c0 : B s 0 < 128
 ·have e : Lib.decodeN s.size (B s 0) (B s 1) (B s 2) (B s 3) = (B s 0, 1) := by unfold Lib.decodeN; rw [if_pos c0]
  rw [e]
  have : ofD (B s 0, 1) = ((B s 0 : Int), 1) := by unfold ofD; rw [if_neg (fun h => by have := h.1; simp only at this; omega)]; rfl
  rw [this, w32 (by omega) (by omega)]
  exact Ev.pos (by omega) (Ev.now _)
 refine Ev.neg (by omega) ?_
 by_cases c2 : 192 ≤ B s 0 ∧ B s 0 < 224
 ·refine Ev.pos (by omega) ?_
  rw [decide_eq_true (by omega)]
  refine Ev.step (fun _ => rfl) (Ev.pos (by omega) ?_)
  rw [hb0, show ((B s 0 : Int) - 192) % 256 = (B s 0 : Int) - 192 from by omega]
  by_cases n2 : 2 ≤ s.size
  ·refine enough (by omega) (by omega) ?_
   by_cases d1 : 128 ≤ B s 1 ∧ B s 1 ≤ 191
   ·refine cont_ok (by omega) (by omega) d1.1 d1.2 (by omega) (by omega) (by omega) ?_
    refine ev_cast (cont_end (by omega)) ?_
    unfold Lib.decodeN
    rw [if_neg c0, if_pos ⟨by omega, by omega, by omega⟩]
    by_cases g : 64 * ((B s 0 : Int) - 192) + ((B s 1 : Int) - 128) < 128
    ·rw [if_neg (by omega), ofD_bad]; unfold endF; rw [if_pos g]
    ·rw [if_pos (by omega), ofD_ok (by omega)]
     unfold endF
     rw [if_neg g, if_pos (by unfold ValidR; omega)]
     exact Prod.ext (by show _ = ((_ : Nat) : Int); omega) rfl
   ·refine ev_cast (cont_bad (by omega) (by omega) d1) ?_
    unfold Lib.decodeN
    rw [if_neg c0, if_neg (by omega), if_neg (by omega), if_neg (by omega), ofD_bad]
  ·refine ev_cast (short (Or.inr (by omega))) ?_
   unfold Lib.decodeN
   rw [if_neg c0, if_neg (by omega), if_neg (by omega), if_neg (by omega), ofD_bad]
 have hj0 : ∀ r, Ev (fun k => letterlockref1_first.j0 k s 0 0 0 false) r → Ev (fun k => if (B s 0 : Int) ≥ 192 then letterlockref1_first.j0 k s 0 0 0 (decide ((B s 0 : Int) < 224)) else letterlockref1_first.j0 k s 0 0 0 false) r := by
  intro r h
  by_cases g : (B s 0 : Int) ≥ 192
  ·refine Ev.pos g ?_
   rw [decide_eq_false (by omega)]; exact h
  ·exact Ev.neg g h
 refine hj0 _ (Ev.step (fun _ => rfl) (Ev.pos (by omega) ?_))
 rw [hb0]
 by_cases c3 : 224 ≤ B s 0 ∧ B s 0 < 240
 ·refine Ev.pos (by omega) ?_
  rw [decide_eq_true (by omega)]
  refine Ev.step (fun _ => rfl) (Ev.pos (by omega) ?_)
  rw [hb0, show ((B s 0 : Int) - 224) % 256 = (B s 0 : Int) - 224 from by omega]
  by_cases n3 : 3 ≤ s.size
  ·refine enough (by omega) (by omega) ?_
   by_cases d1 : 128 ≤ B s 1 ∧ B s 1 ≤ 191
   ·refine cont_ok (by omega) (by omega) d1.1 d1.2 (by omega) (by omega) (by omega) ?_
    by_cases d2 : 128 ≤ B s 2 ∧ B s 2 ≤ 191
    ·refine cont_ok (i := 2) (by omega) (by omega) d2.1 d2.2 (by omega) (by omega) (by omega) ?_
     refine ev_cast (cont_end (by omega)) ?_
     unfold Lib.decodeN
     rw [if_neg c0, if_neg (by omega), if_pos ⟨by omega, ⟨by omega, by omega⟩, by omega, by omega⟩]
     by_cases g : 64 * (64 * ((B s 0 : Int) - 224) + ((B s 1 : Int) - 128)) + ((B s 2 : Int) - 128) < 2048
     ·rw [if_neg (by omega), ofD_bad]; unfold endF; rw [if_pos g]
     ·by_cases v : ValidR (64 * (64 * ((B s 0 : Int) - 224) + ((B s 1 : Int) - 128)) + ((B s 2 : Int) - 128))
      ·rw [if_pos (by unfold ValidR at v; omega), ofD_ok (by omega)]
       unfold endF
       rw [if_neg g, if_pos v]
       exact Prod.ext (by show _ = ((_ : Nat) : Int); omega) rfl
      ·rw [if_neg (by unfold ValidR at v; omega), ofD_bad]
       unfold endF
       rw [if_neg g, if_neg v]
    ·refine ev_cast (cont_bad (i := 2) (by omega) (by omega) d2) ?_
     unfold Lib.decodeN
     rw [if_neg c0, if_neg (by omega), if_neg (by omega), if_neg (by omega), ofD_bad]
   ·refine ev_cast (cont_bad (by omega) (by omega) d1) ?_
    unfold Lib.decodeN
    rw [if_neg c0, if_neg (by omega), if_neg (by omega), if_neg (by omega), ofD_bad]
  ·refine ev_cast (short (Or.inr (by omega))) ?_
   unfold Lib.decodeN
   rw [if_neg c0, if_neg (by omega), if_neg (by omega), if_neg (by omega), ofD_bad]
 have hj1 : ∀ r, Ev (fun k => letterlockref1_first.j1 k s 0 0 0 false) r → Ev (fun k => if (B s 0 : Int) ≥ 224 then letterlockref1_first.j1 k s 0 0 0 (decide ((B s 0 : Int) < 240)) else letterlockref1_first.j1 k s 0 0 0 false) r := by
  intro r h
  by_cases g : (B s 0 : Int) ≥ 224
  ·refine Ev.pos g ?_
   rw [decide_eq_false (by omega)]; exact h
  ·exact Ev.neg g h
 refine hj1 _ (Ev.step (fun _ => rfl) (Ev.pos (by omega) ?_))
 rw [hb0]
 by_cases c4 : 240 ≤ B s 0 ∧ B s 0 < 248
 ·refine Ev.pos (by omega) (Ev.pos (by omega) ?_)
  rw [show ((B s 0 : Int) - 240) % 256 = (B s 0 : Int) - 240 from by omega]
  by_cases n4 : 4 ≤ s.size
  ·refine enough (by omega) (by omega) ?_
   by_cases d1 : 128 ≤ B s 1 ∧ B s 1 ≤ 191
   ·refine cont_ok (by omega) (by omega) d1.1 d1.2 (by omega) (by omega) (by omega) ?_
    by_cases d2 : 128 ≤ B s 2 ∧ B s 2 ≤ 191
    ·refine cont_ok (i := 2) (by omega) (by omega) d2.1 d2.2 (by omega) (by omega) (by omega) ?_
     by_cases d3 : 128 ≤ B s 3 ∧ B s 3 ≤ 191
     ·refine cont_ok (i := 3) (by omega) (by omega) d3.1 d3.2 (by omega) (by omega) (by omega) ?_
      refine ev_cast (cont_end (by omega)) ?_
      unfold Lib.decodeN
      rw [if_neg c0, if_neg (by omega), if_neg (by omega), if_pos ⟨by omega, ⟨by omega, by omega⟩, ⟨by omega, by omega⟩, by omega, by omega⟩]
      by_cases g : 64 * (64 * (64 * ((B s 0 : Int) - 240) + ((B s 1 : Int) - 128)) + ((B s 2 : Int) - 128)) + ((B s 3 : Int) - 128) < 65536
      ·rw [if_neg (by omega), ofD_bad]; unfold endF; rw [if_pos g]
      ·by_cases v : ValidR (64 * (64 * (64 * ((B s 0 : Int) - 240) + ((B s 1 : Int) - 128)) + ((B s 2 : Int) - 128)) + ((B s 3 : Int) - 128))
       ·rw [if_pos (by unfold ValidR at v; omega), ofD_ok (by omega)]
        unfold endF
        rw [if_neg g, if_pos v]
        exact Prod.ext (by show _ = ((_ : Nat) : Int); omega) rfl
       ·rw [if_neg (by unfold ValidR at v; omega), ofD_bad]
        unfold endF
        rw [if_neg g, if_neg v]
     ·refine ev_cast (cont_bad (i := 3) (by omega) (by omega) d3) ?_
      unfold Lib.decodeN
      rw [if_neg c0, if_neg (by omega), if_neg (by omega), if_neg (by omega), ofD_bad]
    ·refine ev_cast (cont_bad (i := 2) (by omega) (by omega) d2) ?_
     unfold Lib.decodeN
     rw [if_neg c0, if_neg (by omega), if_neg (by omega), if_neg (by omega), ofD_bad]
   ·refine ev_cast (cont_bad (by omega) (by omega) d1) ?_
    unfold Lib.decodeN
    rw [if_neg c0, if_neg (by omega), if_neg (by omega), if_neg (by omega), ofD_bad]
  ·refine ev_cast (short (Or.inr (by omega))) ?_
   unfold Lib.decodeN
   rw [if_neg c0, if_neg (by omega), if_neg (by omega), if_neg (by omega), ofD_bad]
 ·have e : Lib.decodeN s.size (B s 0) (B s 1) (B s 2) (B s 3) = (65533, 1) := by
   unfold Lib.decodeN
   rw [if_neg c0, if_neg (by omega), if_neg (by omega), if_neg (by omega)]
  rw [e, ofD_bad]
  by_cases g : (B s 0 : Int) ≥ 240
  ·exact Ev.pos g (Ev.neg (by omega) (short (Or.inl rfl)))
  ·exact Ev.neg g (short (Or.inl rfl))
end Go.Proofs.YtfhanoloaejmkaaDoor.Ref
end
