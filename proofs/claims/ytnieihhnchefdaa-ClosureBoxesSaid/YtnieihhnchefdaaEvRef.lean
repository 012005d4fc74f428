/- What the printed words of the reference for wire come to: the same numbers and texts. What the printed words of the reference for term come to: how long a term is, and whether it is right. What the printed words of the reference for term's makers come to: the same terms. The term that a law grows out of numbers: it is right. -/
import Derived.Test.YtnieihhnchefdaaEvBase
import Derived.Test.YtnieihhnchefdaaHubR
section
namespace Go.Proofs.Ytnieihhnchefdaa.Ref
open Go.RowKit Go.Proofs.Ytnieihhnchefdaa Go.Proofs.Ytnieihhnchefdaa.PA Go.Proofs.YtnieihhnchefdaaW.PrintWords Go.Proofs.YtnieihhnchefdaaW.PrintLast
set_option linter.unusedVariables false

theorem refPut_loop (n : Nat) (acc : List Int) (hn : n < 18446744073709551616) (ha : acc.length + (beBytes n).length ≤ 8) :
    Ev (fun k => letterlockref2_Put.l0 k (n : Int) acc) (ofBytes (UInt8.ofNat (acc.length + (beBytes n).length) :: (beBytes n ++ bytes (strOfNums acc)))) := by
  induction n using Nat.strongRecOn generalizing acc with
  | _ n ih =>
    by_cases h0 : n = 0
    · subst h0
      rw [beBytes_zero] at ha ⊢
      refine Ev.step (fun _ => rfl) (Ev.neg (by simp) (Ev.put rfl (Ev.pos ?_ (Ev.const ?_))))
      · rw [← bytes_length, ← bytes_length, nums_bytes, nums_bytes, List.length_map, List.length_map]
        simp only [List.length_singleton]
        omega
      · refine congrArg some (bs_inj ?_)
        rw [bytes_append, nums_bytes, bytes_ofBytes]
        simp only [List.map_cons, List.map_nil, List.length_nil, Nat.add_zero, List.nil_append, List.singleton_append]
        congr 2
        omega
    · refine Ev.step (fun _ => rfl) (Ev.pos (by omega) (Ev.put rfl (Ev.pos ?_ ?_)))
      · simp only [List.length_singleton]; omega
      · have h1 : IntKind.u64.wrap (Int.tdiv (n : Int) 256) = ((n / 256 : Nat) : Int) := by
          rw [IntKind.wrap_u64, Int.tdiv_eq_ediv_of_nonneg (by omega)]; omega
        have h2 : Int.tmod (n : Int) 256 % 256 = ((n % 256 : Nat) : Int) := by
          rw [Int.tmod_eq_emod_of_nonneg (by omega)]; omega
        rw [h1, h2]
        rw [beBytes_pos h0, List.length_append, List.length_singleton] at ha
        refine ev_cast (ih (n / 256) (by omega) _ (by omega) (by simp only [List.length_append, List.length_singleton]; omega)) ?_
        rw [beBytes_pos h0]
        simp only [List.length_append, List.length_singleton]
        rw [show 1 + acc.length + (beBytes (n / 256)).length = acc.length + ((beBytes (n / 256)).length + 1) from by omega, List.append_assoc]
        congr 3
theorem refPut_ev (n : Nat) (h : n < 18446744073709551616) : Ev (fun k => letterlockref2_Put.f k (n : Int)) (numB n) := by
  have h8 := beBytes_len8 h
  unfold letterlockref2_Put.f
  refine ev_cast (refPut_loop n [] h (by simpa using h8)) ?_
  unfold numB putL
  rw [nums_bytes]
  simp

theorem bt_bytes (s : ByteArray) (j : Nat) (h : j < s.size) : bt s (j : Int) = (((bytes s)[j]'(by rw [bytes_length]; exact h)).toNat : Int) := by
  rw [← bt_at s (j : Int) (by rw [Int.toNat_natCast]; exact h)]
  rfl

theorem refTake_loop (s : ByteArray) (j c m : Nat) (hm : j + m = c) (hj : 1 ≤ j) (hc : c ≤ s.size) (hc9 : c ≤ 9) :
    Ev (fun k => letterlockref2_Take.l0 k s ((beNum (((bytes s).drop 1).take (j - 1)) : Nat) : Int) (c : Int) (j : Int)) (((beNum (((bytes s).drop 1).take (c - 1)) : Nat) : Int), s.extract c s.size, 0) := by
  induction m generalizing j with
  | zero =>
    obtain rfl : j = c := by omega
    exact Ev.step (fun _ => rfl) (Ev.neg (by omega) (Ev.pos (by omega) (Ev.pos (by omega) (Ev.now _))))
  | succ m ih =>
    have hl : j - 1 < ((bytes s).drop 1).length := by rw [List.length_drop, bytes_length]; omega
    have hb : bt s (j : Int) = ((((bytes s).drop 1)[j - 1]).toNat : Int) := by
      rw [bt_bytes s j (by omega), List.getElem_drop]
      congr 2
      congr 1
      omega
    have hlt := beNum_lt (((bytes s).drop 1).take (j - 1))
    have hlen : (((bytes s).drop 1).take (j - 1)).length = j - 1 := by rw [List.length_take]; omega
    rw [hlen] at hlt
    have h7 : 256 ^ (j - 1) ≤ 256 ^ 7 := Nat.pow_le_pow_right (by decide) (by omega)
    have h7' : (256 : Nat) ^ 7 = 72057594037927936 := by decide
    have hbb := (((bytes s).drop 1)[j - 1]).toNat_lt
    have hst : beNum (((bytes s).drop 1).take (j + 1 - 1)) = beNum (((bytes s).drop 1).take (j - 1)) * 256 + (((bytes s).drop 1)[j - 1]).toNat := by
      rw [show j + 1 - 1 = (j - 1) + 1 from by omega, take_succ_get _ _ hl, beNum_snoc]
    refine Ev.step (fun _ => rfl) (Ev.pos (by omega) (Ev.pos (by omega) (Ev.pos (by omega) ?_)))
    have h1 : IntKind.u64.wrap (IntKind.u64.wrap (256 * ((beNum (((bytes s).drop 1).take (j - 1)) : Nat) : Int)) + IntKind.u64.wrap (bt s (j : Int))) = ((beNum (((bytes s).drop 1).take (j + 1 - 1)) : Nat) : Int) := by
      rw [hst, hb, IntKind.wrap_u64, IntKind.wrap_u64, IntKind.wrap_u64]
      omega
    rw [h1, w64 (n := (j : Int) + 1) (by omega) (by omega)]
    exact ih (j + 1) (by omega) (by omega)

theorem refTake_ev (s : ByteArray) : Ev (fun k => letterlockref2_Take.f k s) (takeF s) := by
  unfold letterlockref2_Take.f
  cases hs : bytes s with
  | nil =>
    have ht : takeF s = (0, ⟨#[]⟩, 2) := by unfold takeF; rw [hs]; rfl
    rw [ht]
    exact Ev.pos (by rw [bytes_toList, hs]) (Ev.step (fun _ => rfl) (Ev.now _))
  | cons c r =>
    have hsz : s.size = r.length + 1 := by rw [← bytes_length, hs, List.length_cons]
    have hb0 : bt s 0 = (c.toNat : Int) := by
      have := bt_bytes s 0 (by omega)
      simp only [hs, List.getElem_cons_zero] at this
      exact this
    have hlt := c.toNat_lt
    refine Ev.neg (by rw [bytes_toList, hs]; simp) (Ev.pos (by omega) ?_)
    rw [hb0]
    have hw : wrap64 (1 + wrap64 (c.toNat : Int)) = ((c.toNat + 1 : Nat) : Int) := by rw [w64 (n := (c.toNat : Int)) (by omega) (by omega), w64 (by omega) (by omega)]; omega
    rw [hw]
    have ht : takeF s = (match (if 8 < c.toNat then none else if r.length < c.toNat then none else if 0 < c.toNat ∧ r.head? = some 0 then none else some (beNum (r.take c.toNat), r.drop c.toNat)) with | none => (0, ⟨#[]⟩, 2) | some (n, r) => ((n : Int), ofBytes r, 0)) := by
      unfold takeF; rw [hs]; rfl
    by_cases h1 : 8 < c.toNat
    · rw [if_pos h1] at ht
      rw [ht]
      exact Ev.pos (by omega) (Ev.step (fun _ => rfl) (Ev.now _))
    rw [if_neg h1] at ht
    refine Ev.neg (by omega) ?_
    by_cases h2 : r.length < c.toNat
    · rw [if_pos h2] at ht
      rw [ht]
      exact Ev.pos (by omega) (Ev.step (fun _ => rfl) (Ev.now _))
    rw [if_neg h2] at ht
    refine Ev.neg (by omega) ?_
    have hgo : Ev (fun k => letterlockref2_Take.l0 k s 0 ((c.toNat + 1 : Nat) : Int) 1) (((beNum (r.take c.toNat) : Nat) : Int), ofBytes (r.drop c.toNat), 0) := by
      have := refTake_loop s 1 (c.toNat + 1) c.toNat (by omega) (by omega) (by omega) (by omega)
      rw [hs] at this
      refine ev_cast this ?_
      rw [show s.extract (c.toNat + 1) s.size = ofBytes (r.drop c.toNat) from bs_inj (by rw [bytes_from, hs, bytes_ofBytes]; rfl)]
      rfl
    by_cases h3 : 0 < c.toNat
    · refine Ev.pos (by omega) ?_
      have hr0 : 0 < r.length := by omega
      have hb1 : bt s 1 = ((r[0]).toNat : Int) := by
        have := bt_bytes s 1 (by omega)
        simp only [hs, List.getElem_cons_succ] at this
        exact this
      have hh : r.head? = some r[0] := by rw [List.head?_eq_getElem?, List.getElem?_eq_getElem hr0]
      refine Ev.pos (by omega) ?_
      rw [hb1]
      by_cases h4 : r[0] = 0
      · rw [if_pos ⟨h3, by rw [hh, h4]⟩] at ht
        rw [ht, h4]
        exact Ev.step (fun _ => rfl) (Ev.now _)
      · have h5 : ¬ (r[0]).toNat = 0 := fun e => h4 (UInt8.toNat_inj.1 e)
        rw [if_neg (fun e => h4 (by have := e.2; rw [hh] at this; exact Option.some.inj this))] at ht
        rw [ht, beq_eq_false_iff_ne.mpr (by omega)]
        refine Ev.step (fun _ => rfl) (Ev.pos (by omega) ?_)
        rw [hb0, hw]
        exact hgo
    · rw [if_neg (fun e => h3 e.1)] at ht
      rw [ht]
      refine Ev.neg (by omega) (Ev.step (fun _ => rfl) (Ev.pos (by omega) ?_))
      rw [hb0, hw]
      exact hgo

theorem refTakeText_ev (s : ByteArray) (h : s.size ≤ 1000000) : Ev (fun k => letterlockref2_TakeText.f k s 4000) (takeTextF 4000 s) := by
  unfold letterlockref2_TakeText.f takeTextF
  refine Ev.bind (refTake_ev s) ?_
  unfold takeF
  cases ht : takeL (bytes s) with
  | none => exact Ev.neg (by simp) (Ev.now _)
  | some x =>
    obtain ⟨n, r⟩ := x
    have hn := (take_inv ht).2
    have hr : r.length ≤ 1000000 := by
      have := congrArg List.length (take_inv ht).1
      rw [bytes_length, List.length_append] at this
      omega
    refine Ev.pos rfl ?_
    simp only
    rw [show IntKind.u64.wrap (mx 4000 0) = 4000 from rfl, size_ofBytes, show IntKind.u64.wrap (r.length : Int) = (r.length : Int) from by rw [IntKind.wrap_u64]; omega]
    by_cases h1 : 4000 < n
    · rw [if_pos h1]; exact Ev.pos (by omega) (Ev.now _)
    rw [if_neg h1]
    refine Ev.neg (by omega) ?_
    by_cases h2 : r.length < n
    · rw [if_pos h2]; exact Ev.pos (by omega) (Ev.now _)
    rw [if_neg h2]
    refine Ev.neg (by omega) (Ev.pos (by omega) (Ev.pos (by omega) (Ev.const ?_)))
    rw [Int.toNat_natCast, show (ofBytes r).extract 0 n = ofBytes (r.take n) from bs_inj (by rw [bytes_to, bytes_ofBytes, bytes_ofBytes]),
      show (ofBytes r).extract n r.length = ofBytes (r.drop n) from bs_inj (by rw [← size_ofBytes r, bytes_from, bytes_ofBytes, bytes_ofBytes])]

end Go.Proofs.Ytnieihhnchefdaa.Ref
end

section
namespace Go.Proofs.Ytnieihhnchefdaa.Ref
open Go.RowKit Go.Proofs.Ytnieihhnchefdaa Go.Proofs.Ytnieihhnchefdaa.PA Go.Proofs.YtnieihhnchefdaaW.PrintWords Go.Proofs.YtnieihhnchefdaaW.PrintLast
set_option linter.unusedVariables false

def manyC (c : UInt8) : Int := if c = 97 then 0 else if c = 116 then 0 else match kind1 c with | some _ => 1 | none => match kind2 c with | some _ => 2 | none => -1
theorem many_fin : ∀ c : Fin 256, letterlockref3_many.f 2 ((c.val : Nat) : Int) = some (manyC (UInt8.ofNat c.val)) := by decide +kernel
theorem many_ev (c : UInt8) : Ev (fun k => letterlockref3_many.f k (c.toNat : Int)) (manyC c) := by
  refine Ev.of (k := 2) (letterlockref3_many.mono _) ?_
  have := many_fin ⟨c.toNat, c.toNat_lt⟩
  simpa using this

def sizeF (d : Nat) (l : Bs) : Int := match parse d l with | some (t, _) => ((enc t).length : Int) | none => 0

theorem size_end {s : ByteArray} {c : UInt8} {l : Bs} (hs : bytes s = c :: l) (a x : Int) (m : Int) (hm : manyC c ≤ m) : Ev (fun k => letterlockref3_size.l0 k s a x m) x := by
  have hsz : s.size = l.length + 1 := by rw [← bytes_length, hs, List.length_cons]
  have hb0 : bt s 0 = (c.toNat : Int) := by
    have := bt_bytes s 0 (by omega)
    simp only [hs, List.getElem_cons_zero] at this
    exact this
  refine Ev.step (fun _ => rfl) (Ev.pos (by omega) ?_)
  rw [hb0]
  exact Ev.bind (many_ev c) (Ev.neg (by omega) (Ev.now _))
theorem size_more {s : ByteArray} {c : UInt8} {l : Bs} (hs : bytes s = c :: l) (a x m v : Int) (hm : m < manyC c) (hb : c ≠ 98 ∨ m ≠ 0) (h : Ev (fun k => letterlockref3_size.j3 k s a x m false) v) :
    Ev (fun k => letterlockref3_size.l0 k s a x m) v := by
  have hsz : s.size = l.length + 1 := by rw [← bytes_length, hs, List.length_cons]
  have hb0 : bt s 0 = (c.toNat : Int) := by
    have := bt_bytes s 0 (by omega)
    simp only [hs, List.getElem_cons_zero] at this
    exact this
  refine Ev.step (fun _ => rfl) (Ev.pos (by omega) ?_)
  rw [hb0]
  refine Ev.bind (many_ev c) (Ev.pos hm ?_)
  by_cases h98 : c = 98
  · refine Ev.pos (by rw [h98]; rfl) (Ev.neg ?_ h)
    rcases hb with hb | hb
    · exact absurd h98 hb
    · exact hb
  · refine Ev.neg (fun e => h98 (UInt8.toNat_inj.1 (by omega : c.toNat = 98))) h

/-- What the reference tells of depth d. -/
def Told (d : Nat) : Prop := ∀ s : ByteArray, s.size ≤ 4000 → Ev (fun k => letterlockref3_size.f k s (d : Int)) (sizeF d (bytes s))
theorem part_none {d : Nat} (ih : Told d) (hd : d ≤ 40) {s : ByteArray} (hs : s.size ≤ 4000) {x : Nat} (hx : x ≤ s.size) (m : Int) (hp : parse d ((bytes s).drop x) = none) :
    Ev (fun k => letterlockref3_size.j3 k s ((d + 1 : Nat) : Int) (x : Int) m false) 0 := by
  refine Ev.step (fun _ => rfl) (Ev.pos (by omega) ?_)
  rw [Int.toNat_natCast, show wrap64 (((d + 1 : Nat) : Int) - 1) = (d : Int) from by rw [w64 (by omega) (by omega)]; omega]
  have h := ih (s.extract x s.size) (by rw [← bytes_length, bytes_from, List.length_drop, bytes_length]; omega)
  rw [bytes_from, show sizeF d ((bytes s).drop x) = 0 from by unfold sizeF; rw [hp]] at h
  exact Ev.bind h (Ev.pos rfl (Ev.now _))
theorem part_some {d : Nat} (ih : Told d) (hd : d ≤ 40) {s : ByteArray} (hs : s.size ≤ 4000) {x : Nat} (hx : x ≤ s.size) (m : Nat) (hm : m ≤ 5) {t : T} {r : Bs} (hp : parse d ((bytes s).drop x) = some (t, r)) {v : Int}
    (h1 : Ev (fun k => letterlockref3_size.l0 k s ((d + 1 : Nat) : Int) ((x + (enc t).length : Nat) : Int) ((m + 1 : Nat) : Int)) v) :
    Ev (fun k => letterlockref3_size.j3 k s ((d + 1 : Nat) : Int) (x : Int) (m : Int) false) v := by
  refine Ev.step (fun _ => rfl) (Ev.pos (by omega) ?_)
  rw [Int.toNat_natCast, show wrap64 (((d + 1 : Nat) : Int) - 1) = (d : Int) from by rw [w64 (by omega) (by omega)]; omega]
  have h := ih (s.extract x s.size) (by rw [← bytes_length, bytes_from, List.length_drop, bytes_length]; omega)
  have hz : sizeF d ((bytes s).drop x) = ((enc t).length : Int) := by unfold sizeF; rw [hp]
  rw [bytes_from, hz] at h
  have hl := enc_pos t
  have hl2 : (enc t).length ≤ 4000 := by
    have := congrArg List.length (parse_inv _ _ _ _ hp).1
    rw [List.length_drop, bytes_length, List.length_append] at this
    omega
  refine Ev.bind h (Ev.neg (by omega) ?_)
  rw [w64 (n := (x : Int) + _) (by omega) (by omega), w64 (n := (m : Int) + 1) (by omega) (by omega)]
  exact h1

theorem told (d : Nat) (hd : d ≤ 40) : Told d := by
  induction d with
  | zero =>
    intro s hs
    refine Ev.step (fun _ => rfl) ?_
    by_cases h0 : s.toList = ([] : List UInt8)
    · exact Ev.pos h0 (Ev.step (fun _ => rfl) (Ev.now _))
    · exact Ev.neg h0 (Ev.step (fun _ => rfl) (Ev.now _))
  | succ d ih =>
    have ih := ih (by omega)
    intro s hs
    refine Ev.step (fun _ => rfl) ?_
    cases hb : bytes s with
    | nil => exact Ev.pos (by rw [bytes_toList, hb]) (Ev.step (fun _ => rfl) (Ev.now _))
    | cons c l =>
      have hsz : s.size = l.length + 1 := by rw [← bytes_length, hb, List.length_cons]
      have hb0 : bt s 0 = (c.toNat : Int) := by
        have := bt_bytes s 0 (by omega)
        simp only [hb, List.getElem_cons_zero] at this
        exact this
      have hx : s.extract 1 s.size = ofBytes l := bs_inj (by rw [bytes_from, hb, bytes_ofBytes]; rfl)
      have hd1 : (bytes s).drop 1 = l := by rw [hb]; rfl
      refine Ev.neg (by rw [bytes_toList, hb]; simp) (Ev.neg (by omega) (Ev.pos (by omega) ?_))
      rw [hb0]
      refine Ev.bind (many_ev c) ?_
      unfold sizeF
      simp only [parse]
      by_cases h97 : c = 97
      · subst h97
        rw [show manyC 97 = 0 from rfl, if_pos rfl]
        refine Ev.step (fun _ => rfl) (Ev.pos (by omega) ?_)
        rw [hb0]
        refine Ev.pos rfl (Ev.step (fun _ => rfl) (Ev.pos (by omega) ?_))
        rw [hx, hb0]
        refine Ev.bind (refTake_ev (ofBytes l)) (Ev.pos (by omega) (Ev.neg (by decide) ?_))
        unfold takeF
        rw [bytes_ofBytes]
        cases ht : takeL l with
        | none => exact Ev.neg (by simp) (Ev.now _)
        | some y =>
          obtain ⟨n, r⟩ := y
          have := congrArg List.length (take_inv ht).1
          rw [List.length_append] at this
          refine Ev.pos rfl (Ev.const ?_)
          simp only [Option.map_some, size_ofBytes, enc, List.length_cons]
          rw [w64 (by omega) (by omega)]
          congr 1
          omega
      rw [if_neg h97]
      have hn97 : ¬ (c.toNat : Int) = 97 := fun e => h97 (UInt8.toNat_inj.1 (by omega : c.toNat = 97))
      by_cases h116 : c = 116
      · subst h116
        rw [show manyC 116 = 0 from rfl, if_pos rfl]
        refine Ev.step (fun _ => rfl) (Ev.pos (by omega) ?_)
        rw [hb0]
        refine Ev.neg (by decide) (Ev.step (fun _ => rfl) (Ev.pos (by omega) ?_))
        rw [hx, hb0]
        refine Ev.bind (refTake_ev (ofBytes l)) (Ev.pos (by omega) (Ev.pos rfl (Ev.bind (refTakeText_ev (ofBytes l) (by rw [size_ofBytes]; omega)) ?_)))
        unfold takeTextF takeT
        rw [bytes_ofBytes]
        cases ht : takeL l with
        | none => exact Ev.neg (by simp) (Ev.now _)
        | some y =>
          obtain ⟨n, r⟩ := y
          simp only
          by_cases h1 : 4000 < n
          · rw [if_pos h1, if_pos h1]; exact Ev.neg (by simp) (Ev.now _)
          rw [if_neg h1, if_neg h1]
          by_cases h2 : r.length < n
          · rw [if_pos h2, if_pos h2]; exact Ev.neg (by simp) (Ev.now _)
          rw [if_neg h2, if_neg h2]
          have := congrArg List.length (take_inv ht).1
          rw [List.length_append] at this
          refine Ev.pos rfl (Ev.const ?_)
          have hlt : (r.take n).length = n := by rw [List.length_take]; omega
          simp only [Option.map_some, size_ofBytes, enc, List.length_cons, putT, List.length_append, hlt, List.length_drop]
          rw [w64 (by omega) (by omega)]
          congr 1
          omega
      rw [if_neg h116]
      have hn116 : ((c.toNat : Int) == 116) = false := beq_eq_false_iff_ne.mpr fun e => h116 (UInt8.toNat_inj.1 (by omega : c.toNat = 116))
      have hgo : ∀ v, 0 ≤ manyC c → Ev (fun k => letterlockref3_size.l0 k s ((d + 1 : Nat) : Int) ((1 : Nat) : Int) ((0 : Nat) : Int)) v → Ev (fun k => letterlockref3_size.j0 k s ((d + 1 : Nat) : Int) (decide (manyC c < 0))) v := by
        intro v hm h
        rw [decide_eq_false (by omega)]
        refine Ev.step (fun _ => rfl) (Ev.pos (by omega) ?_)
        rw [hb0, hn116]
        exact Ev.neg hn97 (Ev.step (fun _ => rfl) h)
      cases hk1 : kind1 c with
      | some k =>
        have hm : manyC c = 1 := by unfold manyC; rw [if_neg h97, if_neg h116, hk1]
        have hc98 : c ≠ 98 := by rintro rfl; simp [kind1] at hk1
        refine hgo _ (by omega) (size_more hb _ _ _ _ (by omega) (Or.inl hc98) ?_)
        cases hp : parse d l with
        | none => exact part_none ih (by omega) hs (by omega) _ (by rw [hd1]; exact hp)
        | some y =>
          obtain ⟨t, r⟩ := y
          refine part_some ih (by omega) hs (by omega) 0 (by omega) (by rw [hd1]; exact hp) ?_
          refine ev_cast (size_end hb _ _ _ (by omega)) ?_
          simp only [Option.map_some, enc, List.length_cons]
          omega
      | none =>
        simp only
        cases hk2 : kind2 c with
        | none =>
          have hm : manyC c = -1 := by unfold manyC; rw [if_neg h97, if_neg h116, hk1]; simp only; rw [hk2]
          rw [hm]
          exact Ev.step (fun _ => rfl) (Ev.now _)
        | some k =>
          have hm : manyC c = 2 := by unfold manyC; rw [if_neg h97, if_neg h116, hk1]; simp only; rw [hk2]
          refine hgo _ (by omega) ?_
          have hc98 : c = 98 ↔ k = .b := by
            rw [kind2_inv hk2]
            cases k <;> decide
          -- the parts, where nothing bars a box
          have hparts : (k = .b → l.head? = some 117) → Ev (fun k => letterlockref3_size.j3 k s ((d + 1 : Nat) : Int) ((1 : Nat) : Int) ((0 : Nat) : Int) false)
              (match (parse d l).bind fun x => (parse d x.2).bind fun y => if k = .b ∧ x.1.isPub = false then none else some (T.two k x.1 y.1, y.2) with | some (t, _) => ((enc t).length : Int) | none => 0) := by
            intro hpub
            cases hp : parse d l with
            | none => exact part_none ih (by omega) hs (by omega) _ (by rw [hd1]; exact hp)
            | some y =>
              obtain ⟨t, r⟩ := y
              have hi := (parse_inv _ _ _ _ hp).1
              have hl := congrArg List.length hi
              rw [List.length_append] at hl
              refine part_some ih (by omega) hs (by omega) 0 (by omega) (by rw [hd1]; exact hp) (size_more hb _ _ _ _ (by omega) (Or.inr (by omega)) ?_)
              have hd2 : (bytes s).drop (1 + (enc t).length) = r := by rw [← List.drop_drop, hd1, hi, List.drop_left]
              simp only [Option.bind_some]
              cases hq : parse d r with
              | none => exact part_none ih (by omega) hs (by omega) _ (by rw [hd2]; exact hq)
              | some y =>
                obtain ⟨u, q⟩ := y
                refine part_some ih (by omega) hs (by omega) 1 (by omega) (by rw [hd2]; exact hq) ?_
                refine ev_cast (size_end hb _ _ _ (by omega)) ?_
                simp only [Option.bind_some]
                rw [if_neg]
                · simp only [enc, List.length_cons, List.length_append]
                  omega
                · rintro ⟨e1, e2⟩
                  have h3 := hpub e1
                  rw [hi] at h3
                  cases t with
                  | atom n => simp [enc] at h3
                  | text n => simp [enc] at h3
                  | one k2 a => cases k2 <;> simp [enc, K1.code, T.isPub] at h3 e2
                  | two k2 a b => cases k2 <;> simp [enc, K2.code] at h3
          by_cases hkb : k = .b
          · have hc := hc98.2 hkb
            have hbad : l.head? ≠ some 117 → (match (parse d l).bind fun x => (parse d x.2).bind fun y => if k = .b ∧ x.1.isPub = false then none else some (T.two k x.1 y.1, y.2) with | some (t, _) => ((enc t).length : Int) | none => 0) = 0 := by
              intro hh
              cases hp : parse d l with
              | none => rfl
              | some y =>
                obtain ⟨t, r⟩ := y
                have hi := (parse_inv _ _ _ _ hp).1
                have hnp : t.isPub = false := by
                  cases t with
                  | atom n => rfl
                  | text n => rfl
                  | one k2 a =>
                    cases k2 with
                    | h => rfl
                    | u => rw [hi] at hh; exact absurd rfl hh
                  | two k2 a b => rfl
                simp only [Option.bind_some]
                cases parse d r with
                | none => rfl
                | some y =>
                  simp only [Option.bind_some]
                  rw [if_pos ⟨hkb, hnp⟩]
            refine Ev.step (fun _ => rfl) (Ev.pos (by omega) ?_)
            rw [hb0]
            refine Ev.bind (many_ev c) (Ev.pos (by omega) (Ev.pos (by rw [hc]; rfl) (Ev.pos rfl ?_)))
            cases hl : l with
            | nil =>
              subst hl
              rw [hbad (by simp)]
              exact Ev.pos (by simp only [List.length_nil] at hsz; omega) (Ev.step (fun _ => rfl) (Ev.now _))
            | cons c1 l1 =>
              have hb1 : bt s ((1 : Nat) : Int) = (c1.toNat : Int) := by
                have := bt_bytes s 1 (by rw [hsz, hl, List.length_cons]; omega)
                simp only [hb, hl, List.getElem_cons_succ, List.getElem_cons_zero] at this
                exact this
              have hl1 : l.length = l1.length + 1 := by rw [hl, List.length_cons]
              refine Ev.neg (by omega) (Ev.pos (by omega) (Ev.pos (by omega) ?_))
              rw [hb1, ← hl]
              by_cases h117 : c1 = 117
              · rw [show ((c1.toNat : Int) != 117) = false from by rw [h117]; rfl]
                exact hparts fun _ => by rw [hl, h117]; rfl
              · rw [show ((c1.toNat : Int) != 117) = true from bne_iff_ne.mpr fun e => h117 (UInt8.toNat_inj.1 (by omega : c1.toNat = 117)), hbad (by rw [hl]; simpa using h117)]
                exact Ev.step (fun _ => rfl) (Ev.now _)
          · exact size_more hb _ _ _ _ (by omega) (Or.inl (fun e => hkb (hc98.1 e))) (hparts fun e => absurd e hkb)

theorem refRight_ev (s : ByteArray) : Ev (fun k => letterlockref3_Right.f k s) (right s) := by
  unfold letterlockref3_Right.f
  by_cases h0 : s.toList = ([] : List UInt8)
  · refine ev_cast (Ev.pos h0 (Ev.now _)) ?_
    rw [bytes_toList] at h0
    unfold right termOf
    rw [h0]; rfl
  refine Ev.neg h0 ?_
  by_cases h1 : s.size ≤ 4000
  · refine Ev.pos (by omega) (Ev.bind (told 40 (by omega) s h1) (Ev.const (congrArg some ?_)))
    unfold right termOf sizeF
    rw [if_pos (by rw [bytes_length]; exact h1)]
    cases hp : parse 40 (bytes s) with
    | none =>
      simp only [Option.isSome_none]
      refine beq_eq_false_iff_ne.mpr fun e => h0 ?_
      rw [bytes_toList]
      refine List.length_eq_zero_iff.1 ?_
      rw [bytes_length]; omega
    | some y =>
      obtain ⟨t, r⟩ := y
      have hl := congrArg List.length (parse_inv _ _ _ _ hp).1
      rw [bytes_length, List.length_append] at hl
      cases r with
      | nil =>
        simp only [List.length_nil, Option.isSome_some] at hl ⊢
        exact beq_iff_eq.mpr (by omega)
      | cons c r =>
        simp only [List.length_cons, Option.isSome_none] at hl ⊢
        exact beq_eq_false_iff_ne.mpr (by omega)
  · rw [right_big (by omega)]
    exact Ev.neg (by omega) (Ev.now _)

end Go.Proofs.Ytnieihhnchefdaa.Ref
end

section
namespace Go.Proofs.Ytnieihhnchefdaa.Ref
open Go.RowKit Go.Proofs.Ytnieihhnchefdaa Go.Proofs.Ytnieihhnchefdaa.PA Go.Proofs.YtnieihhnchefdaaW.PrintWords Go.Proofs.YtnieihhnchefdaaW.PrintLast
set_option linter.unusedVariables false

theorem made_ev (s : ByteArray) : Ev (fun k => letterlockref3_made.f k s) (if right s = true then (s, 0) else (⟨#[]⟩, 10)) := by
  unfold letterlockref3_made.f
  refine Ev.bind (refRight_ev s) ?_
  by_cases h : right s = true
  · simp only [if_pos h]; exact Ev.now _
  · simp only [if_neg h]; exact Ev.now _
theorem refText_ev (s : ByteArray) (h : s.size ≤ 100000000000000) : Ev (fun k => letterlockref3_OfText.f k s) (textF s) := by
  have hw : IntKind.u64.wrap (s.size : Int) = (s.size : Int) := by rw [IntKind.wrap_u64]; omega
  have h1 := size_numB (n := s.size) (by omega)
  have h2 : (numB s.size ++ s).size ≤ 100000000000009 := by rw [ByteArray.size_append]; omega
  have hp : Ev (fun k => letterlockref2_PutText.f k s) (numB s.size ++ s) := by
    unfold letterlockref2_PutText.f
    rw [hw]
    exact Ev.bind (refPut_ev s.size (by omega)) (Ev.pos (by omega) (Ev.now _))
  unfold letterlockref3_OfText.f
  refine Ev.bind hp (Ev.pos (by omega) (Ev.bind (made_ev (textB s)) (ev_cast (Ev.now _) ?_)))
  rw [textF_right]
theorem one_ev (c : UInt8) (s : ByteArray) : Ev (fun k => letterlockref3_one.f k ⟨#[c]⟩ s) (ofF ⟨#[c]⟩ [s]) := by
  unfold letterlockref3_one.f ofF
  refine Ev.bind (refRight_ev s) ?_
  cases h : right s with
  | false =>
    rw [if_neg (by simp [h])]
    exact Ev.neg (by simp) (Ev.now _)
  | true =>
    rw [if_pos (by simp [h])]
    have hs := right_size h
    refine Ev.pos rfl (Ev.pos (by rw [size_one]; omega) (Ev.bind (made_ev (⟨#[c]⟩ ++ s)) (ev_cast (Ev.now _) ?_)))
    rfl
theorem two_ev (c : UInt8) (s t : ByteArray) : Ev (fun k => letterlockref3_two.f k ⟨#[c]⟩ s t) (ofF ⟨#[c]⟩ [s, t]) := by
  unfold letterlockref3_two.f ofF
  refine Ev.bind (refRight_ev s) ?_
  cases h : right s with
  | false =>
    rw [if_neg (by simp [h])]
    exact Ev.neg (by simp) (Ev.now _)
  | true =>
    refine Ev.pos rfl (Ev.bind (refRight_ev t) ?_)
    cases h2 : right t with
    | false =>
      rw [if_neg (by simp [h2])]
      exact Ev.neg (by simp) (Ev.now _)
    | true =>
      rw [if_pos (by simp [h, h2])]
      have hs := right_size h
      have ht := right_size h2
      refine Ev.pos rfl (Ev.pos (by rw [size_one]; omega) (Ev.pos (by rw [ByteArray.size_append, size_one]; omega) (Ev.bind (made_ev ((⟨#[c]⟩ ++ s) ++ t)) (ev_cast (Ev.now _) ?_))))
      rfl
theorem refHash_ev (s : ByteArray) : Ev (fun k => letterlockref3_OfHash.f k s) (hashF s) := by
  unfold letterlockref3_OfHash.f
  exact Ev.bind (one_ev 104 s) (Ev.now _)
theorem refPublic_ev (s : ByteArray) : Ev (fun k => letterlockref3_OfPublic.f k s) (ofF ⟨#[117]⟩ [s]) := by
  unfold letterlockref3_OfPublic.f
  exact Ev.bind (one_ev 117 s) (Ev.now _)
theorem refPair_ev (s t : ByteArray) : Ev (fun k => letterlockref3_OfPair.f k s t) (pairF s t) := by
  unfold letterlockref3_OfPair.f
  exact Ev.bind (two_ev 112 s t) (Ev.now _)
theorem refSeal_ev (s t : ByteArray) : Ev (fun k => letterlockref3_Seal.f k s t) (ofF ⟨#[115]⟩ [s, t]) := by
  unfold letterlockref3_Seal.f
  exact Ev.bind (two_ev 115 s t) (Ev.now _)
theorem refSign_ev (s t : ByteArray) : Ev (fun k => letterlockref3_Sign.f k s t) (ofF ⟨#[103]⟩ [s, t]) := by
  unfold letterlockref3_Sign.f
  exact Ev.bind (two_ev 103 s t) (Ev.now _)
def boxF (s t : ByteArray) : ByteArray × Int := if right s = true then (if bt s 0 = 117 then ofF ⟨#[98]⟩ [s, t] else (⟨#[]⟩, 1)) else (⟨#[]⟩, 1)
theorem right_pos {s : ByteArray} (h : right s = true) : 0 < s.size := by
  obtain ⟨t, h1, h2⟩ := right_inv h
  rw [← bytes_length, h2]
  exact enc_pos t
theorem refBox_ev (s t : ByteArray) : Ev (fun k => letterlockref3_Box.f k s t) (boxF s t) := by
  unfold letterlockref3_Box.f boxF
  refine Ev.bind (refRight_ev s) ?_
  cases h : right s with
  | false =>
    rw [if_neg (by simp)]
    exact Ev.neg (by simp) (Ev.now _)
  | true =>
    have := right_pos h
    rw [if_pos rfl]
    refine Ev.pos rfl (Ev.pos (by omega) ?_)
    by_cases hb : bt s 0 = 117
    · rw [if_pos hb]
      exact Ev.pos hb (Ev.bind (two_ev 98 s t) (Ev.now _))
    · rw [if_neg hb]
      exact Ev.neg hb (Ev.now _)
theorem boxF_right {s t : ByteArray} (h : (boxF s t).2 = 0) : right (boxF s t).1 = true := by
  unfold boxF at h ⊢
  split
  · rename_i h1
    rw [if_pos h1] at h
    split
    · rename_i h2
      rw [if_pos h2] at h
      exact ofF_right h
    · rename_i h2
      rw [if_neg h2] at h
      exact absurd h (by simp)
  · rename_i h1
    rw [if_neg h1] at h
    exact absurd h (by simp)
theorem refAtom_ev (n : Nat) (h : n < 18446744073709551616) : Ev (fun k => letterlockref3_OfAtom.f k (n : Int)) (atomB n) := by
  unfold letterlockref3_OfAtom.f
  have := size_numB h
  exact Ev.bind (refPut_ev n h) (Ev.pos (by omega) (Ev.now _))
theorem rdOf_mem {α : Type} (d : α) (xs : List α) (i : Int) (h : i.toNat < xs.length) : rdOf d xs i ∈ xs := by
  unfold rdOf
  rw [List.getD_eq_getElem?_getD, List.getElem?_eq_getElem h]
  exact List.getElem_mem h
theorem rd_mem (xs : List Int) (i : Int) (h : i.toNat < xs.length) : rd xs i ∈ xs := rdOf_mem 0 xs i h
theorem lit64 {n : Int} (h0 : -9223372036854775808 ≤ n) (h1 : n ≤ 9223372036854775807) : (Lit.int .i64 n).wf = true := by
  simp [Lit.wf, IntKind.min, IntKind.max, IntKind.bits, IntKind.signed]; omega


end Go.Proofs.Ytnieihhnchefdaa.Ref
end
