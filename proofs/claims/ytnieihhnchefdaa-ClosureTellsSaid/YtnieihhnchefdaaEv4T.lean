/- What the printed words of wire and term come to: numbers, texts, pairs, hashes, at right terms too. What closure's contracts come to at right terms. What the printed words of the reference for wire come to: the same numbers and texts. What the printed words of the reference for term come to: how long a term is, and whether it is right. What the printed words of the reference for term's makers come to: the same terms. The term that a law grows out of numbers: it is right. What follows of what can be told, in plain Lean: of more, of what can be put together and is held too, of parts, of keys. No program is in sight. The example at the head of chapter 4's statements, and what closure.Apart comes to at right terms. The terms that a law grows out of numbers: they are right, and their numbers are less than five. -/
import Derived.Test.YtnieihhnchefdaaClose
import Derived.Test.YtnieihhnchefdaaHubGT
section
namespace Go.Proofs.Ytnieihhnchefdaa.Ref
open Go.RowKit Go.Proofs.Ytnieihhnchefdaa Go.Proofs.Ytnieihhnchefdaa.PA Go.Proofs.YtnieihhnchefdaaW.PrintWords Go.Proofs.YtnieihhnchefdaaW.PrintLast
set_option linter.unusedVariables false


theorem Ev.pos {α : Type} {c : Prop} [Decidable c] {f g : Nat → Option α} {r : α} (h : c) (k : Ev f r) : Ev (fun n => if c then f n else g n) r := by
  simp only [if_pos h]; exact k
theorem Ev.neg {α : Type} {c : Prop} [Decidable c] {f g : Nat → Option α} {r : α} (h : ¬ c) (k : Ev g r) : Ev (fun n => if c then f n else g n) r := by
  simp only [if_neg h]; exact k
theorem Ev.const {α : Type} {g : Option α} {r : α} (h : g = some r) : Ev (fun _ => g) r := ⟨0, fun _ _ => h⟩
theorem Ev.put {α β : Type} {g : Option α} {f : Nat → α → Option β} {a : α} {r : β} (h : g = some a) (k : Ev (fun n => f n a) r) : Ev (fun n => g.bind (f n)) r := Ev.bind (Ev.const h) k
theorem ev_cast {α : Type} {g : Nat → Option α} {r s : α} (h : Ev g r) (e : r = s) : Ev g s := e ▸ h

theorem w64 {n : Int} (h0 : -9223372036854775808 ≤ n) (h1 : n ≤ 9223372036854775807) : wrap64 n = n := by unfold wrap64; omega
theorem nums_bytes (l : List Int) : bytes (strOfNums l) = l.map fun n => UInt8.ofNat n.toNat := strOfNums_data l
/-! ### wire.Put -/
def numB (n : Nat) : ByteArray := ofBytes (putL n)
theorem size_numB {n : Nat} (h : n < 18446744073709551616) : (numB n).size ≤ 9 := by
  unfold numB; rw [size_ofBytes]; exact putL_len h

/-! ### Texts, atoms, hashes, pairs -/
def textB (s : ByteArray) : ByteArray := (⟨#[116]⟩ : ByteArray) ++ (numB s.size ++ s)
def textF (s : ByteArray) : ByteArray × Int := if (textB s).size > 4000 then (⟨#[]⟩, 10) else (textB s, 0)
def atomB (n : Nat) : ByteArray := (⟨#[97]⟩ : ByteArray) ++ numB n
theorem size_one (c : UInt8) : (⟨#[c]⟩ : ByteArray).size = 1 := rfl
theorem size_atomB {n : Nat} (h : n < 18446744073709551616) : (atomB n).size ≤ 10 := by
  unfold atomB
  have := size_numB h
  rw [ByteArray.size_append, size_one]; omega
def hashF (s : ByteArray) : ByteArray × Int := ofF (⟨#[104]⟩ : ByteArray) [s]
def pairF (a b : ByteArray) : ByteArray × Int := ofF (⟨#[112]⟩ : ByteArray) [a, b]
/-! ### Right terms -/
theorem right_big {s : ByteArray} (h : 4000 < s.size) : right s = false := by
  cases hr : right s with
  | false => rfl
  | true => have := right_size hr; omega
theorem empty_wrong : right (⟨#[]⟩ : ByteArray) = false := by decide
theorem right_of {s : ByteArray} {t : T} (h : bytes s = enc t) (hw : Wf t) : right s = true := by
  unfold right; rw [h, termOf_enc hw]; rfl
theorem right_inv {s : ByteArray} (h : right s = true) : ∃ t, Wf t ∧ bytes s = enc t := by
  obtain ⟨t, ht⟩ := Option.isSome_iff_exists.1 h
  obtain ⟨h1, h2⟩ := termOf_inv ht
  exact ⟨t, h2, h1⟩
theorem bytes_numB (n : Nat) : bytes (numB n) = putL n := bytes_ofBytes _
theorem bytes_one (c : UInt8) : bytes (⟨#[c]⟩ : ByteArray) = [c] := rfl
theorem bytes_textB (s : ByteArray) : bytes (textB s) = enc (.text (bytes s)) := by
  unfold textB
  rw [bytes_append, bytes_append, bytes_one, bytes_numB]
  show _ = 116 :: putT (bytes s)
  unfold putT
  rw [bytes_length]; rfl
theorem bytes_atomB (n : Nat) : bytes (atomB n) = enc (.atom n) := by
  unfold atomB
  rw [bytes_append, bytes_one, bytes_numB]; rfl
theorem right_textB (s : ByteArray) : right (textB s) = decide ((textB s).size ≤ 4000) := by
  by_cases h : (textB s).size ≤ 4000
  · rw [decide_eq_true h]
    refine right_of (bytes_textB s) ⟨?_, ?_⟩
    · show (bytes s).length ≤ 4000
      have : s.size ≤ (textB s).size := by unfold textB; rw [ByteArray.size_append, ByteArray.size_append]; omega
      rw [bytes_length]; omega
    · rw [← bytes_textB, bytes_length]; exact h
  · rw [decide_eq_false h]
    exact right_big (by omega)
theorem textF_right (s : ByteArray) : textF s = if right (textB s) = true then (textB s, 0) else (⟨#[]⟩, 10) := by
  unfold textF
  rw [right_textB]
  by_cases h : (textB s).size ≤ 4000
  · rw [if_neg (by omega), decide_eq_true h, if_pos rfl]
  · rw [if_pos (by omega), decide_eq_false h, if_neg (by simp)]
def tm (t : T) : ByteArray := ofBytes (enc t)
theorem bytes_tm (t : T) : bytes (tm t) = enc t := bytes_ofBytes _
theorem size_tm (t : T) : (tm t).size = (enc t).length := size_ofBytes _
theorem right_tm {t : T} (h : Wf t) : right (tm t) = true := right_of (bytes_tm t) h
theorem textB_tm (s : ByteArray) : textB s = tm (.text (bytes s)) := bs_inj (by rw [bytes_textB, bytes_tm])
theorem atomB_tm (n : Nat) : atomB n = tm (.atom n) := bs_inj (by rw [bytes_atomB, bytes_tm])
theorem len_text (s : ByteArray) (h : s.size ≤ 4000) : (enc (.text (bytes s))).length ≤ 10 + s.size := by
  rw [← bytes_textB, bytes_length]
  have := size_numB (n := s.size) (by omega)
  unfold textB
  rw [ByteArray.size_append, ByteArray.size_append, size_one]; omega
theorem len_atom (n : Nat) (h : n < 18446744073709551616) : (enc (.atom n)).length ≤ 10 := by
  rw [← bytes_atomB, bytes_length]; exact size_atomB h
theorem right_tm_of {s : ByteArray} (h : right s = true) : ∃ t, Wf t ∧ s = tm t := by
  obtain ⟨t, h1, h2⟩ := right_inv h
  exact ⟨t, h1, bs_inj (by rw [h2, bytes_tm])⟩
end Go.Proofs.Ytnieihhnchefdaa.Ref
end

section
namespace Go.Proofs.Ytnieihhnchefdaa.Ref
open Go.RowKit Go.Proofs.Ytnieihhnchefdaa Go.Proofs.Ytnieihhnchefdaa.PA Go.Proofs.YtnieihhnchefdaaW.PrintWords Go.Proofs.YtnieihhnchefdaaW.PrintLast
set_option linter.unusedVariables false

theorem right_all {ts : List T} (h : ∀ t ∈ ts, Wf t) : (ts.map tm).all right = true := by
  refine List.all_eq_true.2 fun s hs => ?_
  obtain ⟨t, ht, rfl⟩ := List.mem_map.1 hs
  exact right_tm (h t ht)
theorem termsOf_tm {ts : List T} (h : ∀ t ∈ ts, Wf t) : termsOf (ts.map tm) = ts := by
  induction ts with
  | nil => rfl
  | cons t ts ih =>
    have h1 := ih (fun x hx => h x (List.mem_cons_of_mem _ hx))
    have h2 : termOf (bytes (tm t)) = some t := by rw [bytes_tm]; exact termOf_enc (h t List.mem_cons_self)
    unfold termsOf at h1 ⊢
    rw [List.map_cons, List.filterMap_cons, h2]
    simp only
    rw [h1]
theorem derives_tm {ts : List T} {t : T} (h : ∀ t ∈ ts, Wf t) (hl : ts.length ≤ 200) (ht : Wf t) : closure_Derives.f (ts.map tm) (tm t) = some (tog (hadL ts) t, 0) := by
  unfold closure_Derives.f
  rw [if_pos]
  · unfold derivesF
    rw [if_pos (right_all h), if_neg (by rw [List.length_map]; omega), if_pos (right_tm ht), termsOf_tm h]
    rw [show tm t = tB t from rfl, togB_tB _ ht]
  · refine ⟨by rw [List.length_map]; omega, List.all_eq_true.2 fun s hs => ?_, by rw [size_tm]; have := ht.2; omega⟩
    obtain ⟨u, hu, rfl⟩ := List.mem_map.1 hs
    rw [size_tm]
    have := (h u hu).2
    exact decide_eq_true (by omega)
theorem contains_false {S : List T} {t : T} (h : t ∉ S) : S.contains t = false := by
  cases hc : S.contains t with
  | false => rfl
  | true => exact absurd (List.contains_iff_mem.1 hc) h
/-! ### What is made of right terms -/
def code1 (k : K1) : ByteArray := ⟨#[k.code]⟩
def code2 (k : K2) : ByteArray := ⟨#[k.code]⟩
theorem cat_one (k : K1) (t : T) : catB (code1 k) [tm t] = tm (.one k t) := bs_inj (by
  show bytes (code1 k ++ tm t) = _
  rw [bytes_append, bytes_tm, bytes_tm]; rfl)
theorem cat_two (k : K2) (a b : T) : catB (code2 k) [tm a, tm b] = tm (.two k a b) := bs_inj (by
  show bytes ((code2 k ++ tm a) ++ tm b) = _
  rw [bytes_append, bytes_append, bytes_tm, bytes_tm, bytes_tm]
  simp only [enc, List.append_assoc]
  rfl)
theorem wf_one {k : K1} {t : T} (h : Wf (.one k t)) : Wf t := ⟨ok_mono (d := 39) (show ok 39 t from h.1) (by omega), by have := h.2; simp only [enc, List.length_cons] at this; omega⟩
theorem wf_two {k : K2} {a b : T} (h : Wf (.two k a b)) : Wf a ∧ Wf b :=
  ⟨⟨ok_mono (d := 39) h.1.1 (by omega), by have := h.2; simp only [enc, List.length_cons, List.length_append] at this; omega⟩,
   ⟨ok_mono (d := 39) h.1.2.1 (by omega), by have := h.2; simp only [enc, List.length_cons, List.length_append] at this; omega⟩⟩
theorem wf_inj {s t : T} (hs : Wf s) (ht : Wf t) (h : tm s = tm t) : s = t := enc_inj hs.1 ht.1 (by rw [← bytes_tm, ← bytes_tm, h])
theorem wf_of_tm {t : T} {d : Nat} (hd : ok d t) (h : right (tm t) = true) : Wf t := by
  obtain ⟨u, hu, he⟩ := right_inv h
  rw [bytes_tm] at he
  have := enc_inj (d := max d 40) (ok_mono hd (Nat.le_max_left _ _)) (ok_mono hu.1 (Nat.le_max_right _ _)) he
  rw [this]; exact hu
/-- Of right terms: it is made, and right, or too great. -/
theorem one_cases (k : K1) {t : T} (ht : Wf t) : (ofF (code1 k) [tm t] = (tm (.one k t), 0) ∧ Wf (.one k t)) ∨ ofF (code1 k) [tm t] = (⟨#[]⟩, 10) := by
  unfold ofF
  rw [cat_one, if_pos (by simp [right_tm ht])]
  cases hr : right (tm (.one k t)) with
  | true => exact Or.inl ⟨by rw [if_pos rfl], wf_of_tm (d := 41) ht.1 hr⟩
  | false => exact Or.inr (by rw [if_neg (by simp)])
theorem two_cases (k : K2) {a b : T} (ha : Wf a) (hb : Wf b) (hp : k = .b → a.isPub = true) : (ofF (code2 k) [tm a, tm b] = (tm (.two k a b), 0) ∧ Wf (.two k a b)) ∨ ofF (code2 k) [tm a, tm b] = (⟨#[]⟩, 10) := by
  unfold ofF
  rw [cat_two, if_pos (by simp [right_tm ha, right_tm hb])]
  cases hr : right (tm (.two k a b)) with
  | true => exact Or.inl ⟨by rw [if_pos rfl], wf_of_tm (d := 41) ⟨ha.1, hb.1, hp⟩ hr⟩
  | false => exact Or.inr (by rw [if_neg (by simp)])
theorem tm_size_le {t : T} (h : Wf t) : (tm t).size ≤ 4000 := by rw [size_tm]; exact h.2

end Go.Proofs.Ytnieihhnchefdaa.Ref
end

section
section
namespace Go.Proofs.Ytnieihhnchefdaa.Ref
open Go.RowKit Go.Proofs.Ytnieihhnchefdaa Go.Proofs.Ytnieihhnchefdaa.PA Go.Proofs.YtnieihhnchefdaaW.PrintWords Go.Proofs.YtnieihhnchefdaaW.PrintLast
set_option linter.unusedVariables false

theorem refPut_loop (n : Nat) (acc : List Int) (hn : n < 18446744073709551616) (ha : acc.length + (beBytes n).length ≤ 8) :
    Ev (fun k => letterlockref2_Put.l0 k (n : Int) acc) (ofBytes (UInt8.ofNat (acc.length + (beBytes n).length) :: (beBytes n ++ bytes (strOfNums acc)))) := by
  induction n using Nat.strongRecOn generalizing acc with
  | _ n ih =>
    by_cases h0 : n = 0
    · subst h0
      rw [beBytes_zero] at ha ⊢
      refine Ev.step (fun _ => rfl) (Ev.neg (by simp) (Ev.put rfl (Ev.pos ?_ (Ev.const ?_))))
      · rw [← bytes_length, ← bytes_length, nums_bytes, nums_bytes, List.length_map, List.length_map]
        simp only [List.length_singleton]
        omega
      · refine congrArg some (bs_inj ?_)
        rw [bytes_append, nums_bytes, bytes_ofBytes]
        simp only [List.map_cons, List.map_nil, List.length_nil, Nat.add_zero, List.nil_append, List.singleton_append]
        congr 2
        omega
    · refine Ev.step (fun _ => rfl) (Ev.pos (by omega) (Ev.put rfl (Ev.pos ?_ ?_)))
      · simp only [List.length_singleton]; omega
      · have h1 : IntKind.u64.wrap (Int.tdiv (n : Int) 256) = ((n / 256 : Nat) : Int) := by
          rw [IntKind.wrap_u64, Int.tdiv_eq_ediv_of_nonneg (by omega)]; omega
        have h2 : Int.tmod (n : Int) 256 % 256 = ((n % 256 : Nat) : Int) := by
          rw [Int.tmod_eq_emod_of_nonneg (by omega)]; omega
        rw [h1, h2]
        rw [beBytes_pos h0, List.length_append, List.length_singleton] at ha
        refine ev_cast (ih (n / 256) (by omega) _ (by omega) (by simp only [List.length_append, List.length_singleton]; omega)) ?_
        rw [beBytes_pos h0]
        simp only [List.length_append, List.length_singleton]
        rw [show 1 + acc.length + (beBytes (n / 256)).length = acc.length + ((beBytes (n / 256)).length + 1) from by omega, List.append_assoc]
        congr 3
theorem refPut_ev (n : Nat) (h : n < 18446744073709551616) : Ev (fun k => letterlockref2_Put.f k (n : Int)) (numB n) := by
  have h8 := beBytes_len8 h
  unfold letterlockref2_Put.f
  refine ev_cast (refPut_loop n [] h (by simpa using h8)) ?_
  unfold numB putL
  rw [nums_bytes]
  simp

theorem bt_bytes (s : ByteArray) (j : Nat) (h : j < s.size) : bt s (j : Int) = (((bytes s)[j]'(by rw [bytes_length]; exact h)).toNat : Int) := by
  rw [← bt_at s (j : Int) (by rw [Int.toNat_natCast]; exact h)]
  rfl

theorem refTake_loop (s : ByteArray) (j c m : Nat) (hm : j + m = c) (hj : 1 ≤ j) (hc : c ≤ s.size) (hc9 : c ≤ 9) :
    Ev (fun k => letterlockref2_Take.l0 k s ((beNum (((bytes s).drop 1).take (j - 1)) : Nat) : Int) (c : Int) (j : Int)) (((beNum (((bytes s).drop 1).take (c - 1)) : Nat) : Int), s.extract c s.size, 0) := by
  induction m generalizing j with
  | zero =>
    obtain rfl : j = c := by omega
    exact Ev.step (fun _ => rfl) (Ev.neg (by omega) (Ev.pos (by omega) (Ev.pos (by omega) (Ev.now _))))
  | succ m ih =>
    have hl : j - 1 < ((bytes s).drop 1).length := by rw [List.length_drop, bytes_length]; omega
    have hb : bt s (j : Int) = ((((bytes s).drop 1)[j - 1]).toNat : Int) := by
      rw [bt_bytes s j (by omega), List.getElem_drop]
      congr 2
      congr 1
      omega
    have hlt := beNum_lt (((bytes s).drop 1).take (j - 1))
    have hlen : (((bytes s).drop 1).take (j - 1)).length = j - 1 := by rw [List.length_take]; omega
    rw [hlen] at hlt
    have h7 : 256 ^ (j - 1) ≤ 256 ^ 7 := Nat.pow_le_pow_right (by decide) (by omega)
    have h7' : (256 : Nat) ^ 7 = 72057594037927936 := by decide
    have hbb := (((bytes s).drop 1)[j - 1]).toNat_lt
    have hst : beNum (((bytes s).drop 1).take (j + 1 - 1)) = beNum (((bytes s).drop 1).take (j - 1)) * 256 + (((bytes s).drop 1)[j - 1]).toNat := by
      rw [show j + 1 - 1 = (j - 1) + 1 from by omega, take_succ_get _ _ hl, beNum_snoc]
    refine Ev.step (fun _ => rfl) (Ev.pos (by omega) (Ev.pos (by omega) (Ev.pos (by omega) ?_)))
    have h1 : IntKind.u64.wrap (IntKind.u64.wrap (256 * ((beNum (((bytes s).drop 1).take (j - 1)) : Nat) : Int)) + IntKind.u64.wrap (bt s (j : Int))) = ((beNum (((bytes s).drop 1).take (j + 1 - 1)) : Nat) : Int) := by
      rw [hst, hb, IntKind.wrap_u64, IntKind.wrap_u64, IntKind.wrap_u64]
      omega
    rw [h1, w64 (n := (j : Int) + 1) (by omega) (by omega)]
    exact ih (j + 1) (by omega) (by omega)

theorem refTake_ev (s : ByteArray) : Ev (fun k => letterlockref2_Take.f k s) (takeF s) := by
  unfold letterlockref2_Take.f
  cases hs : bytes s with
  | nil =>
    have ht : takeF s = (0, ⟨#[]⟩, 2) := by unfold takeF; rw [hs]; rfl
    rw [ht]
    exact Ev.pos (by rw [bytes_toList, hs]) (Ev.step (fun _ => rfl) (Ev.now _))
  | cons c r =>
    have hsz : s.size = r.length + 1 := by rw [← bytes_length, hs, List.length_cons]
    have hb0 : bt s 0 = (c.toNat : Int) := by
      have := bt_bytes s 0 (by omega)
      simp only [hs, List.getElem_cons_zero] at this
      exact this
    have hlt := c.toNat_lt
    refine Ev.neg (by rw [bytes_toList, hs]; simp) (Ev.pos (by omega) ?_)
    rw [hb0]
    have hw : wrap64 (1 + wrap64 (c.toNat : Int)) = ((c.toNat + 1 : Nat) : Int) := by rw [w64 (n := (c.toNat : Int)) (by omega) (by omega), w64 (by omega) (by omega)]; omega
    rw [hw]
    have ht : takeF s = (match (if 8 < c.toNat then none else if r.length < c.toNat then none else if 0 < c.toNat ∧ r.head? = some 0 then none else some (beNum (r.take c.toNat), r.drop c.toNat)) with | none => (0, ⟨#[]⟩, 2) | some (n, r) => ((n : Int), ofBytes r, 0)) := by
      unfold takeF; rw [hs]; rfl
    by_cases h1 : 8 < c.toNat
    · rw [if_pos h1] at ht
      rw [ht]
      exact Ev.pos (by omega) (Ev.step (fun _ => rfl) (Ev.now _))
    rw [if_neg h1] at ht
    refine Ev.neg (by omega) ?_
    by_cases h2 : r.length < c.toNat
    · rw [if_pos h2] at ht
      rw [ht]
      exact Ev.pos (by omega) (Ev.step (fun _ => rfl) (Ev.now _))
    rw [if_neg h2] at ht
    refine Ev.neg (by omega) ?_
    have hgo : Ev (fun k => letterlockref2_Take.l0 k s 0 ((c.toNat + 1 : Nat) : Int) 1) (((beNum (r.take c.toNat) : Nat) : Int), ofBytes (r.drop c.toNat), 0) := by
      have := refTake_loop s 1 (c.toNat + 1) c.toNat (by omega) (by omega) (by omega) (by omega)
      rw [hs] at this
      refine ev_cast this ?_
      rw [show s.extract (c.toNat + 1) s.size = ofBytes (r.drop c.toNat) from bs_inj (by rw [bytes_from, hs, bytes_ofBytes]; rfl)]
      rfl
    by_cases h3 : 0 < c.toNat
    · refine Ev.pos (by omega) ?_
      have hr0 : 0 < r.length := by omega
      have hb1 : bt s 1 = ((r[0]).toNat : Int) := by
        have := bt_bytes s 1 (by omega)
        simp only [hs, List.getElem_cons_succ] at this
        exact this
      have hh : r.head? = some r[0] := by rw [List.head?_eq_getElem?, List.getElem?_eq_getElem hr0]
      refine Ev.pos (by omega) ?_
      rw [hb1]
      by_cases h4 : r[0] = 0
      · rw [if_pos ⟨h3, by rw [hh, h4]⟩] at ht
        rw [ht, h4]
        exact Ev.step (fun _ => rfl) (Ev.now _)
      · have h5 : ¬ (r[0]).toNat = 0 := fun e => h4 (UInt8.toNat_inj.1 e)
        rw [if_neg (fun e => h4 (by have := e.2; rw [hh] at this; exact Option.some.inj this))] at ht
        rw [ht, beq_eq_false_iff_ne.mpr (by omega)]
        refine Ev.step (fun _ => rfl) (Ev.pos (by omega) ?_)
        rw [hb0, hw]
        exact hgo
    · rw [if_neg (fun e => h3 e.1)] at ht
      rw [ht]
      refine Ev.neg (by omega) (Ev.step (fun _ => rfl) (Ev.pos (by omega) ?_))
      rw [hb0, hw]
      exact hgo

theorem refTakeText_ev (s : ByteArray) (h : s.size ≤ 1000000) : Ev (fun k => letterlockref2_TakeText.f k s 4000) (takeTextF 4000 s) := by
  unfold letterlockref2_TakeText.f takeTextF
  refine Ev.bind (refTake_ev s) ?_
  unfold takeF
  cases ht : takeL (bytes s) with
  | none => exact Ev.neg (by simp) (Ev.now _)
  | some x =>
    obtain ⟨n, r⟩ := x
    have hn := (take_inv ht).2
    have hr : r.length ≤ 1000000 := by
      have := congrArg List.length (take_inv ht).1
      rw [bytes_length, List.length_append] at this
      omega
    refine Ev.pos rfl ?_
    simp only
    rw [show IntKind.u64.wrap (mx 4000 0) = 4000 from rfl, size_ofBytes, show IntKind.u64.wrap (r.length : Int) = (r.length : Int) from by rw [IntKind.wrap_u64]; omega]
    by_cases h1 : 4000 < n
    · rw [if_pos h1]; exact Ev.pos (by omega) (Ev.now _)
    rw [if_neg h1]
    refine Ev.neg (by omega) ?_
    by_cases h2 : r.length < n
    · rw [if_pos h2]; exact Ev.pos (by omega) (Ev.now _)
    rw [if_neg h2]
    refine Ev.neg (by omega) (Ev.pos (by omega) (Ev.pos (by omega) (Ev.const ?_)))
    rw [Int.toNat_natCast, show (ofBytes r).extract 0 n = ofBytes (r.take n) from bs_inj (by rw [bytes_to, bytes_ofBytes, bytes_ofBytes]),
      show (ofBytes r).extract n r.length = ofBytes (r.drop n) from bs_inj (by rw [← size_ofBytes r, bytes_from, bytes_ofBytes, bytes_ofBytes])]

end Go.Proofs.Ytnieihhnchefdaa.Ref
end

section
namespace Go.Proofs.Ytnieihhnchefdaa.Ref
open Go.RowKit Go.Proofs.Ytnieihhnchefdaa Go.Proofs.Ytnieihhnchefdaa.PA Go.Proofs.YtnieihhnchefdaaW.PrintWords Go.Proofs.YtnieihhnchefdaaW.PrintLast
set_option linter.unusedVariables false

def manyC (c : UInt8) : Int := if c = 97 then 0 else if c = 116 then 0 else match kind1 c with | some _ => 1 | none => match kind2 c with | some _ => 2 | none => -1
theorem many_fin : ∀ c : Fin 256, letterlockref3_many.f 2 ((c.val : Nat) : Int) = some (manyC (UInt8.ofNat c.val)) := by decide +kernel
theorem many_ev (c : UInt8) : Ev (fun k => letterlockref3_many.f k (c.toNat : Int)) (manyC c) := by
  refine Ev.of (k := 2) (letterlockref3_many.mono _) ?_
  have := many_fin ⟨c.toNat, c.toNat_lt⟩
  simpa using this

def sizeF (d : Nat) (l : Bs) : Int := match parse d l with | some (t, _) => ((enc t).length : Int) | none => 0

theorem size_end {s : ByteArray} {c : UInt8} {l : Bs} (hs : bytes s = c :: l) (a x : Int) (m : Int) (hm : manyC c ≤ m) : Ev (fun k => letterlockref3_size.l0 k s a x m) x := by
  have hsz : s.size = l.length + 1 := by rw [← bytes_length, hs, List.length_cons]
  have hb0 : bt s 0 = (c.toNat : Int) := by
    have := bt_bytes s 0 (by omega)
    simp only [hs, List.getElem_cons_zero] at this
    exact this
  refine Ev.step (fun _ => rfl) (Ev.pos (by omega) ?_)
  rw [hb0]
  exact Ev.bind (many_ev c) (Ev.neg (by omega) (Ev.now _))
theorem size_more {s : ByteArray} {c : UInt8} {l : Bs} (hs : bytes s = c :: l) (a x m v : Int) (hm : m < manyC c) (hb : c ≠ 98 ∨ m ≠ 0) (h : Ev (fun k => letterlockref3_size.j3 k s a x m false) v) :
    Ev (fun k => letterlockref3_size.l0 k s a x m) v := by
  have hsz : s.size = l.length + 1 := by rw [← bytes_length, hs, List.length_cons]
  have hb0 : bt s 0 = (c.toNat : Int) := by
    have := bt_bytes s 0 (by omega)
    simp only [hs, List.getElem_cons_zero] at this
    exact this
  refine Ev.step (fun _ => rfl) (Ev.pos (by omega) ?_)
  rw [hb0]
  refine Ev.bind (many_ev c) (Ev.pos hm ?_)
  by_cases h98 : c = 98
  · refine Ev.pos (by rw [h98]; rfl) (Ev.neg ?_ h)
    rcases hb with hb | hb
    · exact absurd h98 hb
    · exact hb
  · refine Ev.neg (fun e => h98 (UInt8.toNat_inj.1 (by omega : c.toNat = 98))) h

/-- What the reference tells of depth d. -/
def Told (d : Nat) : Prop := ∀ s : ByteArray, s.size ≤ 4000 → Ev (fun k => letterlockref3_size.f k s (d : Int)) (sizeF d (bytes s))
theorem part_none {d : Nat} (ih : Told d) (hd : d ≤ 40) {s : ByteArray} (hs : s.size ≤ 4000) {x : Nat} (hx : x ≤ s.size) (m : Int) (hp : parse d ((bytes s).drop x) = none) :
    Ev (fun k => letterlockref3_size.j3 k s ((d + 1 : Nat) : Int) (x : Int) m false) 0 := by
  refine Ev.step (fun _ => rfl) (Ev.pos (by omega) ?_)
  rw [Int.toNat_natCast, show wrap64 (((d + 1 : Nat) : Int) - 1) = (d : Int) from by rw [w64 (by omega) (by omega)]; omega]
  have h := ih (s.extract x s.size) (by rw [← bytes_length, bytes_from, List.length_drop, bytes_length]; omega)
  rw [bytes_from, show sizeF d ((bytes s).drop x) = 0 from by unfold sizeF; rw [hp]] at h
  exact Ev.bind h (Ev.pos rfl (Ev.now _))
theorem part_some {d : Nat} (ih : Told d) (hd : d ≤ 40) {s : ByteArray} (hs : s.size ≤ 4000) {x : Nat} (hx : x ≤ s.size) (m : Nat) (hm : m ≤ 5) {t : T} {r : Bs} (hp : parse d ((bytes s).drop x) = some (t, r)) {v : Int}
    (h1 : Ev (fun k => letterlockref3_size.l0 k s ((d + 1 : Nat) : Int) ((x + (enc t).length : Nat) : Int) ((m + 1 : Nat) : Int)) v) :
    Ev (fun k => letterlockref3_size.j3 k s ((d + 1 : Nat) : Int) (x : Int) (m : Int) false) v := by
  refine Ev.step (fun _ => rfl) (Ev.pos (by omega) ?_)
  rw [Int.toNat_natCast, show wrap64 (((d + 1 : Nat) : Int) - 1) = (d : Int) from by rw [w64 (by omega) (by omega)]; omega]
  have h := ih (s.extract x s.size) (by rw [← bytes_length, bytes_from, List.length_drop, bytes_length]; omega)
  have hz : sizeF d ((bytes s).drop x) = ((enc t).length : Int) := by unfold sizeF; rw [hp]
  rw [bytes_from, hz] at h
  have hl := enc_pos t
  have hl2 : (enc t).length ≤ 4000 := by
    have := congrArg List.length (parse_inv _ _ _ _ hp).1
    rw [List.length_drop, bytes_length, List.length_append] at this
    omega
  refine Ev.bind h (Ev.neg (by omega) ?_)
  rw [w64 (n := (x : Int) + _) (by omega) (by omega), w64 (n := (m : Int) + 1) (by omega) (by omega)]
  exact h1

theorem told (d : Nat) (hd : d ≤ 40) : Told d := by
  induction d with
  | zero =>
    intro s hs
    refine Ev.step (fun _ => rfl) ?_
    by_cases h0 : s.toList = ([] : List UInt8)
    · exact Ev.pos h0 (Ev.step (fun _ => rfl) (Ev.now _))
    · exact Ev.neg h0 (Ev.step (fun _ => rfl) (Ev.now _))
  | succ d ih =>
    have ih := ih (by omega)
    intro s hs
    refine Ev.step (fun _ => rfl) ?_
    cases hb : bytes s with
    | nil => exact Ev.pos (by rw [bytes_toList, hb]) (Ev.step (fun _ => rfl) (Ev.now _))
    | cons c l =>
      have hsz : s.size = l.length + 1 := by rw [← bytes_length, hb, List.length_cons]
      have hb0 : bt s 0 = (c.toNat : Int) := by
        have := bt_bytes s 0 (by omega)
        simp only [hb, List.getElem_cons_zero] at this
        exact this
      have hx : s.extract 1 s.size = ofBytes l := bs_inj (by rw [bytes_from, hb, bytes_ofBytes]; rfl)
      have hd1 : (bytes s).drop 1 = l := by rw [hb]; rfl
      refine Ev.neg (by rw [bytes_toList, hb]; simp) (Ev.neg (by omega) (Ev.pos (by omega) ?_))
      rw [hb0]
      refine Ev.bind (many_ev c) ?_
      unfold sizeF
      simp only [parse]
      by_cases h97 : c = 97
      · subst h97
        rw [show manyC 97 = 0 from rfl, if_pos rfl]
        refine Ev.step (fun _ => rfl) (Ev.pos (by omega) ?_)
        rw [hb0]
        refine Ev.pos rfl (Ev.step (fun _ => rfl) (Ev.pos (by omega) ?_))
        rw [hx, hb0]
        refine Ev.bind (refTake_ev (ofBytes l)) (Ev.pos (by omega) (Ev.neg (by decide) ?_))
        unfold takeF
        rw [bytes_ofBytes]
        cases ht : takeL l with
        | none => exact Ev.neg (by simp) (Ev.now _)
        | some y =>
          obtain ⟨n, r⟩ := y
          have := congrArg List.length (take_inv ht).1
          rw [List.length_append] at this
          refine Ev.pos rfl (Ev.const ?_)
          simp only [Option.map_some, size_ofBytes, enc, List.length_cons]
          rw [w64 (by omega) (by omega)]
          congr 1
          omega
      rw [if_neg h97]
      have hn97 : ¬ (c.toNat : Int) = 97 := fun e => h97 (UInt8.toNat_inj.1 (by omega : c.toNat = 97))
      by_cases h116 : c = 116
      · subst h116
        rw [show manyC 116 = 0 from rfl, if_pos rfl]
        refine Ev.step (fun _ => rfl) (Ev.pos (by omega) ?_)
        rw [hb0]
        refine Ev.neg (by decide) (Ev.step (fun _ => rfl) (Ev.pos (by omega) ?_))
        rw [hx, hb0]
        refine Ev.bind (refTake_ev (ofBytes l)) (Ev.pos (by omega) (Ev.pos rfl (Ev.bind (refTakeText_ev (ofBytes l) (by rw [size_ofBytes]; omega)) ?_)))
        unfold takeTextF takeT
        rw [bytes_ofBytes]
        cases ht : takeL l with
        | none => exact Ev.neg (by simp) (Ev.now _)
        | some y =>
          obtain ⟨n, r⟩ := y
          simp only
          by_cases h1 : 4000 < n
          · rw [if_pos h1, if_pos h1]; exact Ev.neg (by simp) (Ev.now _)
          rw [if_neg h1, if_neg h1]
          by_cases h2 : r.length < n
          · rw [if_pos h2, if_pos h2]; exact Ev.neg (by simp) (Ev.now _)
          rw [if_neg h2, if_neg h2]
          have := congrArg List.length (take_inv ht).1
          rw [List.length_append] at this
          refine Ev.pos rfl (Ev.const ?_)
          have hlt : (r.take n).length = n := by rw [List.length_take]; omega
          simp only [Option.map_some, size_ofBytes, enc, List.length_cons, putT, List.length_append, hlt, List.length_drop]
          rw [w64 (by omega) (by omega)]
          congr 1
          omega
      rw [if_neg h116]
      have hn116 : ((c.toNat : Int) == 116) = false := beq_eq_false_iff_ne.mpr fun e => h116 (UInt8.toNat_inj.1 (by omega : c.toNat = 116))
      have hgo : ∀ v, 0 ≤ manyC c → Ev (fun k => letterlockref3_size.l0 k s ((d + 1 : Nat) : Int) ((1 : Nat) : Int) ((0 : Nat) : Int)) v → Ev (fun k => letterlockref3_size.j0 k s ((d + 1 : Nat) : Int) (decide (manyC c < 0))) v := by
        intro v hm h
        rw [decide_eq_false (by omega)]
        refine Ev.step (fun _ => rfl) (Ev.pos (by omega) ?_)
        rw [hb0, hn116]
        exact Ev.neg hn97 (Ev.step (fun _ => rfl) h)
      cases hk1 : kind1 c with
      | some k =>
        have hm : manyC c = 1 := by unfold manyC; rw [if_neg h97, if_neg h116, hk1]
        have hc98 : c ≠ 98 := by rintro rfl; simp [kind1] at hk1
        refine hgo _ (by omega) (size_more hb _ _ _ _ (by omega) (Or.inl hc98) ?_)
        cases hp : parse d l with
        | none => exact part_none ih (by omega) hs (by omega) _ (by rw [hd1]; exact hp)
        | some y =>
          obtain ⟨t, r⟩ := y
          refine part_some ih (by omega) hs (by omega) 0 (by omega) (by rw [hd1]; exact hp) ?_
          refine ev_cast (size_end hb _ _ _ (by omega)) ?_
          simp only [Option.map_some, enc, List.length_cons]
          omega
      | none =>
        simp only
        cases hk2 : kind2 c with
        | none =>
          have hm : manyC c = -1 := by unfold manyC; rw [if_neg h97, if_neg h116, hk1]; simp only; rw [hk2]
          rw [hm]
          exact Ev.step (fun _ => rfl) (Ev.now _)
        | some k =>
          have hm : manyC c = 2 := by unfold manyC; rw [if_neg h97, if_neg h116, hk1]; simp only; rw [hk2]
          refine hgo _ (by omega) ?_
          have hc98 : c = 98 ↔ k = .b := by
            rw [kind2_inv hk2]
            cases k <;> decide
          -- the parts, where nothing bars a box
          have hparts : (k = .b → l.head? = some 117) → Ev (fun k => letterlockref3_size.j3 k s ((d + 1 : Nat) : Int) ((1 : Nat) : Int) ((0 : Nat) : Int) false)
              (match (parse d l).bind fun x => (parse d x.2).bind fun y => if k = .b ∧ x.1.isPub = false then none else some (T.two k x.1 y.1, y.2) with | some (t, _) => ((enc t).length : Int) | none => 0) := by
            intro hpub
            cases hp : parse d l with
            | none => exact part_none ih (by omega) hs (by omega) _ (by rw [hd1]; exact hp)
            | some y =>
              obtain ⟨t, r⟩ := y
              have hi := (parse_inv _ _ _ _ hp).1
              have hl := congrArg List.length hi
              rw [List.length_append] at hl
              refine part_some ih (by omega) hs (by omega) 0 (by omega) (by rw [hd1]; exact hp) (size_more hb _ _ _ _ (by omega) (Or.inr (by omega)) ?_)
              have hd2 : (bytes s).drop (1 + (enc t).length) = r := by rw [← List.drop_drop, hd1, hi, List.drop_left]
              simp only [Option.bind_some]
              cases hq : parse d r with
              | none => exact part_none ih (by omega) hs (by omega) _ (by rw [hd2]; exact hq)
              | some y =>
                obtain ⟨u, q⟩ := y
                refine part_some ih (by omega) hs (by omega) 1 (by omega) (by rw [hd2]; exact hq) ?_
                refine ev_cast (size_end hb _ _ _ (by omega)) ?_
                simp only [Option.bind_some]
                rw [if_neg]
                · simp only [enc, List.length_cons, List.length_append]
                  omega
                · rintro ⟨e1, e2⟩
                  have h3 := hpub e1
                  rw [hi] at h3
                  cases t with
                  | atom n => simp [enc] at h3
                  | text n => simp [enc] at h3
                  | one k2 a => cases k2 <;> simp [enc, K1.code, T.isPub] at h3 e2
                  | two k2 a b => cases k2 <;> simp [enc, K2.code] at h3
          by_cases hkb : k = .b
          · have hc := hc98.2 hkb
            have hbad : l.head? ≠ some 117 → (match (parse d l).bind fun x => (parse d x.2).bind fun y => if k = .b ∧ x.1.isPub = false then none else some (T.two k x.1 y.1, y.2) with | some (t, _) => ((enc t).length : Int) | none => 0) = 0 := by
              intro hh
              cases hp : parse d l with
              | none => rfl
              | some y =>
                obtain ⟨t, r⟩ := y
                have hi := (parse_inv _ _ _ _ hp).1
                have hnp : t.isPub = false := by
                  cases t with
                  | atom n => rfl
                  | text n => rfl
                  | one k2 a =>
                    cases k2 with
                    | h => rfl
                    | u => rw [hi] at hh; exact absurd rfl hh
                  | two k2 a b => rfl
                simp only [Option.bind_some]
                cases parse d r with
                | none => rfl
                | some y =>
                  simp only [Option.bind_some]
                  rw [if_pos ⟨hkb, hnp⟩]
            refine Ev.step (fun _ => rfl) (Ev.pos (by omega) ?_)
            rw [hb0]
            refine Ev.bind (many_ev c) (Ev.pos (by omega) (Ev.pos (by rw [hc]; rfl) (Ev.pos rfl ?_)))
            cases hl : l with
            | nil =>
              subst hl
              rw [hbad (by simp)]
              exact Ev.pos (by simp only [List.length_nil] at hsz; omega) (Ev.step (fun _ => rfl) (Ev.now _))
            | cons c1 l1 =>
              have hb1 : bt s ((1 : Nat) : Int) = (c1.toNat : Int) := by
                have := bt_bytes s 1 (by rw [hsz, hl, List.length_cons]; omega)
                simp only [hb, hl, List.getElem_cons_succ, List.getElem_cons_zero] at this
                exact this
              have hl1 : l.length = l1.length + 1 := by rw [hl, List.length_cons]
              refine Ev.neg (by omega) (Ev.pos (by omega) (Ev.pos (by omega) ?_))
              rw [hb1, ← hl]
              by_cases h117 : c1 = 117
              · rw [show ((c1.toNat : Int) != 117) = false from by rw [h117]; rfl]
                exact hparts fun _ => by rw [hl, h117]; rfl
              · rw [show ((c1.toNat : Int) != 117) = true from bne_iff_ne.mpr fun e => h117 (UInt8.toNat_inj.1 (by omega : c1.toNat = 117)), hbad (by rw [hl]; simpa using h117)]
                exact Ev.step (fun _ => rfl) (Ev.now _)
          · exact size_more hb _ _ _ _ (by omega) (Or.inl (fun e => hkb (hc98.1 e))) (hparts fun e => absurd e hkb)

theorem refRight_ev (s : ByteArray) : Ev (fun k => letterlockref3_Right.f k s) (right s) := by
  unfold letterlockref3_Right.f
  by_cases h0 : s.toList = ([] : List UInt8)
  · refine ev_cast (Ev.pos h0 (Ev.now _)) ?_
    rw [bytes_toList] at h0
    unfold right termOf
    rw [h0]; rfl
  refine Ev.neg h0 ?_
  by_cases h1 : s.size ≤ 4000
  · refine Ev.pos (by omega) (Ev.bind (told 40 (by omega) s h1) (Ev.const (congrArg some ?_)))
    unfold right termOf sizeF
    rw [if_pos (by rw [bytes_length]; exact h1)]
    cases hp : parse 40 (bytes s) with
    | none =>
      simp only [Option.isSome_none]
      refine beq_eq_false_iff_ne.mpr fun e => h0 ?_
      rw [bytes_toList]
      refine List.length_eq_zero_iff.1 ?_
      rw [bytes_length]; omega
    | some y =>
      obtain ⟨t, r⟩ := y
      have hl := congrArg List.length (parse_inv _ _ _ _ hp).1
      rw [bytes_length, List.length_append] at hl
      cases r with
      | nil =>
        simp only [List.length_nil, Option.isSome_some] at hl ⊢
        exact beq_iff_eq.mpr (by omega)
      | cons c r =>
        simp only [List.length_cons, Option.isSome_none] at hl ⊢
        exact beq_eq_false_iff_ne.mpr (by omega)
  · rw [right_big (by omega)]
    exact Ev.neg (by omega) (Ev.now _)

end Go.Proofs.Ytnieihhnchefdaa.Ref
end

section
namespace Go.Proofs.Ytnieihhnchefdaa.Ref
open Go.RowKit Go.Proofs.Ytnieihhnchefdaa Go.Proofs.Ytnieihhnchefdaa.PA Go.Proofs.YtnieihhnchefdaaW.PrintWords Go.Proofs.YtnieihhnchefdaaW.PrintLast
set_option linter.unusedVariables false

theorem made_ev (s : ByteArray) : Ev (fun k => letterlockref3_made.f k s) (if right s = true then (s, 0) else (⟨#[]⟩, 10)) := by
  unfold letterlockref3_made.f
  refine Ev.bind (refRight_ev s) ?_
  by_cases h : right s = true
  · simp only [if_pos h]; exact Ev.now _
  · simp only [if_neg h]; exact Ev.now _
theorem refText_ev (s : ByteArray) (h : s.size ≤ 100000000000000) : Ev (fun k => letterlockref3_OfText.f k s) (textF s) := by
  have hw : IntKind.u64.wrap (s.size : Int) = (s.size : Int) := by rw [IntKind.wrap_u64]; omega
  have h1 := size_numB (n := s.size) (by omega)
  have h2 : (numB s.size ++ s).size ≤ 100000000000009 := by rw [ByteArray.size_append]; omega
  have hp : Ev (fun k => letterlockref2_PutText.f k s) (numB s.size ++ s) := by
    unfold letterlockref2_PutText.f
    rw [hw]
    exact Ev.bind (refPut_ev s.size (by omega)) (Ev.pos (by omega) (Ev.now _))
  unfold letterlockref3_OfText.f
  refine Ev.bind hp (Ev.pos (by omega) (Ev.bind (made_ev (textB s)) (ev_cast (Ev.now _) ?_)))
  rw [textF_right]
theorem one_ev (c : UInt8) (s : ByteArray) : Ev (fun k => letterlockref3_one.f k ⟨#[c]⟩ s) (ofF ⟨#[c]⟩ [s]) := by
  unfold letterlockref3_one.f ofF
  refine Ev.bind (refRight_ev s) ?_
  cases h : right s with
  | false =>
    rw [if_neg (by simp [h])]
    exact Ev.neg (by simp) (Ev.now _)
  | true =>
    rw [if_pos (by simp [h])]
    have hs := right_size h
    refine Ev.pos rfl (Ev.pos (by rw [size_one]; omega) (Ev.bind (made_ev (⟨#[c]⟩ ++ s)) (ev_cast (Ev.now _) ?_)))
    rfl
theorem two_ev (c : UInt8) (s t : ByteArray) : Ev (fun k => letterlockref3_two.f k ⟨#[c]⟩ s t) (ofF ⟨#[c]⟩ [s, t]) := by
  unfold letterlockref3_two.f ofF
  refine Ev.bind (refRight_ev s) ?_
  cases h : right s with
  | false =>
    rw [if_neg (by simp [h])]
    exact Ev.neg (by simp) (Ev.now _)
  | true =>
    refine Ev.pos rfl (Ev.bind (refRight_ev t) ?_)
    cases h2 : right t with
    | false =>
      rw [if_neg (by simp [h2])]
      exact Ev.neg (by simp) (Ev.now _)
    | true =>
      rw [if_pos (by simp [h, h2])]
      have hs := right_size h
      have ht := right_size h2
      refine Ev.pos rfl (Ev.pos (by rw [size_one]; omega) (Ev.pos (by rw [ByteArray.size_append, size_one]; omega) (Ev.bind (made_ev ((⟨#[c]⟩ ++ s) ++ t)) (ev_cast (Ev.now _) ?_))))
      rfl
theorem refHash_ev (s : ByteArray) : Ev (fun k => letterlockref3_OfHash.f k s) (hashF s) := by
  unfold letterlockref3_OfHash.f
  exact Ev.bind (one_ev 104 s) (Ev.now _)
theorem refPublic_ev (s : ByteArray) : Ev (fun k => letterlockref3_OfPublic.f k s) (ofF ⟨#[117]⟩ [s]) := by
  unfold letterlockref3_OfPublic.f
  exact Ev.bind (one_ev 117 s) (Ev.now _)
theorem refPair_ev (s t : ByteArray) : Ev (fun k => letterlockref3_OfPair.f k s t) (pairF s t) := by
  unfold letterlockref3_OfPair.f
  exact Ev.bind (two_ev 112 s t) (Ev.now _)
theorem refSeal_ev (s t : ByteArray) : Ev (fun k => letterlockref3_Seal.f k s t) (ofF ⟨#[115]⟩ [s, t]) := by
  unfold letterlockref3_Seal.f
  exact Ev.bind (two_ev 115 s t) (Ev.now _)
theorem refSign_ev (s t : ByteArray) : Ev (fun k => letterlockref3_Sign.f k s t) (ofF ⟨#[103]⟩ [s, t]) := by
  unfold letterlockref3_Sign.f
  exact Ev.bind (two_ev 103 s t) (Ev.now _)
def boxF (s t : ByteArray) : ByteArray × Int := if right s = true then (if bt s 0 = 117 then ofF ⟨#[98]⟩ [s, t] else (⟨#[]⟩, 1)) else (⟨#[]⟩, 1)
theorem right_pos {s : ByteArray} (h : right s = true) : 0 < s.size := by
  obtain ⟨t, h1, h2⟩ := right_inv h
  rw [← bytes_length, h2]
  exact enc_pos t
theorem refBox_ev (s t : ByteArray) : Ev (fun k => letterlockref3_Box.f k s t) (boxF s t) := by
  unfold letterlockref3_Box.f boxF
  refine Ev.bind (refRight_ev s) ?_
  cases h : right s with
  | false =>
    rw [if_neg (by simp)]
    exact Ev.neg (by simp) (Ev.now _)
  | true =>
    have := right_pos h
    rw [if_pos rfl]
    refine Ev.pos rfl (Ev.pos (by omega) ?_)
    by_cases hb : bt s 0 = 117
    · rw [if_pos hb]
      exact Ev.pos hb (Ev.bind (two_ev 98 s t) (Ev.now _))
    · rw [if_neg hb]
      exact Ev.neg hb (Ev.now _)
theorem refAtom_ev (n : Nat) (h : n < 18446744073709551616) : Ev (fun k => letterlockref3_OfAtom.f k (n : Int)) (atomB n) := by
  unfold letterlockref3_OfAtom.f
  have := size_numB h
  exact Ev.bind (refPut_ev n h) (Ev.pos (by omega) (Ev.now _))
theorem rdOf_mem {α : Type} (d : α) (xs : List α) (i : Int) (h : i.toNat < xs.length) : rdOf d xs i ∈ xs := by
  unfold rdOf
  rw [List.getD_eq_getElem?_getD, List.getElem?_eq_getElem h]
  exact List.getElem_mem h
theorem rd_mem (xs : List Int) (i : Int) (h : i.toNat < xs.length) : rd xs i ∈ xs := rdOf_mem 0 xs i h
theorem lit64 {n : Int} (h0 : -9223372036854775808 ≤ n) (h1 : n ≤ 9223372036854775807) : (Lit.int .i64 n).wf = true := by
  simp [Lit.wf, IntKind.min, IntKind.max, IntKind.bits, IntKind.signed]; omega


end Go.Proofs.Ytnieihhnchefdaa.Ref
end
end

section
namespace Go.Proofs.Ytnieihhnchefdaa
set_option linter.unusedVariables false

theorem contains_not {S : List T} {t : T} (h : t ∉ S) : S.contains t = false := by
  cases hc : S.contains t with
  | false => rfl
  | true => exact absurd (List.contains_iff_mem.1 hc) h
theorem tog_of_mem {S : List T} {t : T} (h : t ∈ S) : tog S t = true := by
  have h := List.contains_iff_mem.2 h
  cases t with
  | atom n => exact h
  | text n => rfl
  | one k a => simp only [tog]; rw [h, Bool.true_or]
  | two k a b => simp only [tog]; rw [h, Bool.true_or]
/-- What is closed is all that is had of it. -/
theorem tog_closedT {ts : List T} (h : ClosedT ts) (t : T) : tog (hadL ts) t = tog ts t :=
  tog_congr (fun x => (hadL_iff (h := ts) (C := ts) (fun x hx => hx) h (fun x hx => hadL_sup ts x hx) x).symm) t
end Go.Proofs.Ytnieihhnchefdaa
end

section
namespace Go.Proofs.Ytnieihhnchefdaa.Ref
open Go.RowKit Go.Proofs.Ytnieihhnchefdaa Go.Proofs.Ytnieihhnchefdaa.PA Go.Proofs.YtnieihhnchefdaaW.PrintWords Go.Proofs.YtnieihhnchefdaaW.PrintLast
set_option linter.unusedVariables false

theorem putL_zero : putL 0 = [0] := by unfold putL; rw [beBytes_zero]; rfl
theorem putL_one : putL 1 = [1, 1] := by unfold putL; rw [beBytes_pos (by decide), show 1 / 256 = 0 from rfl, beBytes_zero]; rfl
theorem shown4_val : letterlocklaw4_shown.f = some true := by
  have e1 : (⟨#[115, 97, 0, 116, 1, 1, 120]⟩ : ByteArray) = tm (.two .s (.atom 0) (.text [120])) := bs_inj (by
    rw [bytes_tm]; simp only [enc, putT, List.length_singleton, putL_zero, putL_one]; rfl)
  have e2 : (⟨#[97, 0]⟩ : ByteArray) = tm (.atom 0) := bs_inj (by rw [bytes_tm]; simp only [enc, putL_zero]; rfl)
  have e3 : (⟨#[116, 1, 1, 120]⟩ : ByteArray) = tm (.text [120]) := bs_inj (by rw [bytes_tm]; simp only [enc, putT, List.length_singleton, putL_one]; rfl)
  have e4 : (⟨#[115, 97, 0, 97, 1, 1]⟩ : ByteArray) = tm (.two .s (.atom 0) (.atom 1)) := bs_inj (by rw [bytes_tm]; simp only [enc, putL_zero, putL_one]; rfl)
  have e5 : (⟨#[97, 1, 1]⟩ : ByteArray) = tm (.atom 1) := bs_inj (by rw [bytes_tm]; simp only [enc, putL_one]; rfl)
  have hw : ∀ t : T, ok 2 t → (enc t).length ≤ 4000 → Wf t := fun t h1 h2 => ⟨ok_mono h1 (by omega), h2⟩
  have o0 : ∀ d n : Nat, n < 2 → ok (d + 1) (.atom n) := fun d n h => show n < 18446744073709551616 by omega
  have ot : ∀ d : Nat, ok (d + 1) (.text [120]) := fun d => show [(120 : UInt8)].length ≤ 4000 by simp
  have w1 : Wf (.two .s (.atom 0) (.text [120])) := hw _ ⟨o0 0 0 (by omega), ot 0, fun e => by simp at e⟩ (by simp [enc, putT, putL_zero, putL_one])
  have w2 : Wf (.atom 0) := hw _ (o0 1 0 (by omega)) (by simp [enc, putL_zero])
  have w3 : Wf (.text [120]) := hw _ (ot 1) (by simp [enc, putT, putL_one])
  have w4 : Wf (.two .s (.atom 0) (.atom 1)) := hw _ ⟨o0 0 0 (by omega), o0 0 1 (by omega), fun e => by simp at e⟩ (by simp [enc, putL_zero, putL_one])
  have w5 : Wf (.atom 1) := hw _ (o0 1 1 (by omega)) (by simp [enc, putL_one])
  have d1 := derives_tm (ts := [T.two .s (.atom 0) (.text [120]), .atom 0]) (t := .text [120]) (fun u hu => by
    rcases List.mem_cons.1 hu with rfl | hu
    · exact w1
    · rw [List.mem_singleton.1 hu]; exact w2) (by simp) w3
  have d2 := derives_tm (ts := [T.two .s (.atom 0) (.atom 1)]) (t := .atom 1) (fun u hu => by rw [List.mem_singleton.1 hu]; exact w4) (by simp) w5
  have hcl : ClosedT [T.two .s (.atom 0) (.atom 1)] := by
    intro t ht x hx
    rw [List.mem_singleton.1 ht] at hx
    simp [gives, tog] at hx
  rw [tog_closedT hcl, show tog [T.two .s (.atom 0) (.atom 1)] (.atom 1) = false from contains_not (by simp)] at d2
  rw [show tog (hadL [T.two .s (.atom 0) (.text [120]), .atom 0]) (.text [120]) = true from rfl] at d1
  unfold letterlocklaw4_shown.f
  rw [e1, e2, e3, e4, e5]
  simp only [List.map_cons, List.map_nil] at d1 d2
  rw [d1]
  simp only [Option.bind_some]
  rw [d2]
  rfl
/-! ### More rows -/
theorem wf_sub {t : T} (h : Wf t) : ∀ u ∈ subT t, Wf u := by
  induction t with
  | atom n => intro u hu; simp only [subT, List.mem_singleton] at hu; rw [hu]; exact h
  | text n => intro u hu; simp only [subT, List.mem_singleton] at hu; rw [hu]; exact h
  | one k a ih =>
    intro u hu
    simp only [subT, List.mem_cons] at hu
    rcases hu with rfl | hu
    · exact h
    · exact ih (wf_one h) u hu
  | two k a b iha ihb =>
    intro u hu
    simp only [subT, List.mem_cons, List.mem_append] at hu
    rcases hu with rfl | hu | hu
    · exact h
    · exact iha (wf_two h).1 u hu
    · exact ihb (wf_two h).2 u hu
theorem wf_had {ts : List T} (h : ∀ t ∈ ts, Wf t) : ∀ t ∈ hadL ts, Wf t := by
  intro t ht
  obtain ⟨u, hu, h1⟩ := List.mem_flatMap.1 (hadL_sub ts t ht)
  exact wf_sub (h u hu) t h1
theorem had_few {ts : List T} (h : ∀ t ∈ ts, Wf t) (hl : ts.length ≤ 200) : (hadL ts).length ≤ 800000 := by
  refine hadL_len (ts.map tm) (by rw [List.length_map]; exact hl) (hadL ts) (hadL_nodup ts) (fun x hx => ?_)
  rw [termsOf_tm h]; exact hx

end Go.Proofs.Ytnieihhnchefdaa.Ref
end

section
namespace Go.Proofs.Ytnieihhnchefdaa.Ref
open Go.RowKit Go.Proofs.Ytnieihhnchefdaa Go.Proofs.Ytnieihhnchefdaa.PA Go.Proofs.YtnieihhnchefdaaW.PrintWords Go.Proofs.YtnieihhnchefdaaW.PrintLast
set_option linter.unusedVariables false

theorem pick4_val (n m : Int) (hn : (Lit.int .i64 n).wf = true) (hm : 0 < m) : ∃ r, letterlocklaw4_pick.f n m = some r ∧ 0 ≤ r ∧ r < m := by
  have hw : -9223372036854775808 ≤ n ∧ n ≤ 9223372036854775807 := by
    simpa [Lit.wf, IntKind.min, IntKind.max, IntKind.bits, IntKind.signed] using hn
  unfold letterlocklaw4_pick.f
  by_cases h0 : n < 0
  · rw [if_pos h0, if_neg (by omega), w64 (n := n + 1) (by omega) (by omega), w64 (by omega) (by omega)]
    exact ⟨_, rfl, by rw [Int.tmod_eq_emod_of_nonneg (by omega)]; exact ⟨Int.emod_nonneg _ (by omega), Int.emod_lt_of_pos _ hm⟩⟩
  · rw [if_neg h0, if_neg (by omega)]
    exact ⟨_, rfl, by rw [Int.tmod_eq_emod_of_nonneg (by omega)]; exact ⟨Int.emod_nonneg _ (by omega), Int.emod_lt_of_pos _ hm⟩⟩

/-- No number of five or more stands in it. -/
def Low (t : T) : Prop := ∀ n, T.atom n ∈ subT t → n < 5
def Gd (s : ByteArray) : Prop := ∃ t, Wf t ∧ Low t ∧ s = tm t
theorem gd_atom {n : Nat} (h : n < 5) : Gd (atomB n) := by
  refine ⟨.atom n, ⟨show n < 18446744073709551616 by omega, by have := len_atom n (by omega); omega⟩, fun m hm => ?_, atomB_tm n⟩
  simp only [subT, List.mem_singleton, T.atom.injEq] at hm
  omega
theorem gd_text (s : ByteArray) (h : s.size ≤ 5) : Gd (textB s) := by
  refine ⟨.text (bytes s), ⟨show (bytes s).length ≤ 4000 by rw [bytes_length]; omega, by have := len_text s (by omega); omega⟩, fun m hm => ?_, textB_tm s⟩
  simp [subT] at hm
theorem gd_one (k : K1) {s : ByteArray} (hs : Gd s) (h : (ofF (code1 k) [s]).2 = 0) : Gd (ofF (code1 k) [s]).1 := by
  obtain ⟨t, h1, h2, rfl⟩ := hs
  rcases one_cases k h1 with ⟨h3, h4⟩ | h3
  · rw [h3]
    refine ⟨_, h4, fun m hm => ?_, rfl⟩
    simp only [subT, List.mem_cons] at hm
    rcases hm with hm | hm
    · simp at hm
    · exact h2 m hm
  · rw [h3] at h; simp at h
theorem gd_two (k : K2) {a : T} {u : ByteArray} (h1 : Wf a) (h2 : Low a) (hu : Gd u) (hp : k = .b → a.isPub = true) (h : (ofF (code2 k) [tm a, u]).2 = 0) : Gd (ofF (code2 k) [tm a, u]).1 := by
  obtain ⟨b, g1, g2, rfl⟩ := hu
  rcases two_cases k h1 g1 hp with ⟨h3, h4⟩ | h3
  · rw [h3]
    refine ⟨_, h4, fun m hm => ?_, rfl⟩
    simp only [subT, List.mem_cons, List.mem_append] at hm
    rcases hm with hm | hm | hm
    · simp at hm
    · exact h2 m hm
    · exact g2 m hm
  · rw [h3] at h; simp at h
theorem gd_box {a u : ByteArray} (ha : Gd a) (hu : Gd u) (h : (boxF (ofF (code1 .u) [a]).1 u).2 = 0) : Gd (boxF (ofF (code1 .u) [a]).1 u).1 := by
  obtain ⟨t, h1, h2, rfl⟩ := ha
  rcases one_cases .u h1 with ⟨h3, h4⟩ | h3
  · rw [h3] at h ⊢
    unfold boxF at h ⊢
    rw [if_pos (right_tm h4)] at h ⊢
    by_cases hb : bt (tm (.one .u t)) 0 = 117
    · rw [if_pos hb] at h ⊢
      refine gd_two .b h4 (fun m hm => ?_) hu (fun _ => rfl) h
      simp only [subT, List.mem_cons] at hm
      rcases hm with hm | hm
      · simp at hm
      · exact h2 m hm
    · rw [if_neg hb] at h; simp at h
  · rw [h3] at h
    unfold boxF at h
    rw [if_neg (by rw [empty_wrong]; simp)] at h
    simp at h

theorem joined4_ev (n : Int) (a b : ByteArray) (hn : (Lit.int .i64 n).wf = true) (ha : Gd a) (hb : Gd b) : ∃ r, Gd r ∧ Ev (fun k => letterlocklaw4_joined.f k n a b) r := by
  obtain ⟨x, hx, hx0, hx1⟩ := pick4_val n 4 hn (by decide)
  have key : ∀ (g : Nat → Option (ByteArray × Int)) (v : ByteArray × Int), Ev g v → (v.2 = 0 → Gd v.1) → ∃ r, Gd r ∧ Ev (fun k => (g k).bind fun bt => (if bt.2 = 0 then some bt.1 else some a)) r := by
    intro g v hv hr
    by_cases h : v.2 = 0
    · exact ⟨v.1, hr h, Ev.bind hv (Ev.pos h (Ev.now _))⟩
    · exact ⟨a, ha, Ev.bind hv (Ev.neg h (Ev.now _))⟩
  have ha' := ha
  obtain ⟨t, h1, h2, rfl⟩ := ha'
  unfold letterlocklaw4_joined.f
  simp only [hx, Option.bind_some]
  by_cases h0 : x = 0
  · simp only [if_pos h0]; exact key _ _ (refPair_ev _ b) (gd_two .p h1 h2 hb (fun e => by simp at e))
  by_cases h1' : x = 1
  · simp only [if_neg h0, if_pos h1']; exact key _ _ (refSeal_ev _ b) (gd_two .s h1 h2 hb (fun e => by simp at e))
  by_cases h2' : x = 2
  · simp only [if_neg h0, if_neg h1', if_pos h2']
    obtain ⟨r, hr, he⟩ := key _ _ (refBox_ev (ofF ⟨#[117]⟩ [tm t]).1 b) (gd_box ha hb)
    exact ⟨r, hr, Ev.bind (refPublic_ev _) he⟩
  · simp only [if_neg h0, if_neg h1', if_neg h2']; exact key _ _ (refSign_ev _ b) (gd_two .g h1 h2 hb (fun e => by simp at e))

/-- The numbers that are left are read one after the other; the terms ahead are right. -/
theorem grown4_loop (l : List Int) (hl : ∀ x ∈ l, (Lit.int .i64 x).wf = true) (m i : Nat) (hm : i + m = 40) (st : List ByteArray) (h0 : 0 < st.length) (h1 : st.length ≤ i + 1) (hr : ∀ s ∈ st, Gd s) :
    ∃ r, Gd r ∧ Ev (fun k => letterlocklaw4_grown.l0 k l st (i : Int)) r := by
  have hend : ∃ r, Gd r ∧ Ev (fun k => letterlocklaw4_grown.j1 k l st (i : Int) false) r := by
    have hw : wrap64 ((st.length : Int) - 1) = ((st.length - 1 : Nat) : Int) := by rw [w64 (by omega) (by omega)]; omega
    refine ⟨rdOf ByteArray.empty st ((st.length - 1 : Nat) : Int), hr _ (rdOf_mem _ _ _ (by rw [Int.toNat_natCast]; omega)), Ev.step (fun _ => rfl) (Ev.pos (by rw [hw]; omega) (Ev.pos (by rw [hw]; omega) (ev_cast (Ev.now _) (by rw [hw]))))⟩
  induction m generalizing i st with
  | zero =>
    obtain ⟨r, h2, h3⟩ := hend
    refine ⟨r, h2, Ev.step (fun _ => rfl) ?_⟩
    by_cases hi : (i : Int) < (l.length : Int)
    · refine Ev.pos hi ?_
      rw [decide_eq_false (by omega)]
      exact h3
    · exact Ev.neg hi h3
  | succ m ih =>
    by_cases hi : (i : Int) < (l.length : Int)
    · have hnext : ∀ st' : List ByteArray, 0 < st'.length → st'.length ≤ i + 1 + 1 → (∀ s ∈ st', Gd s) → ∃ r, Gd r ∧ Ev (fun k => letterlocklaw4_grown.l0 k l st' (wrap64 ((i : Int) + 1))) r := by
        intro st' a b c
        rw [w64 (by omega) (by omega)]
        refine ih (i + 1) (by omega) st' a b c ?_
        have hw : wrap64 ((st'.length : Int) - 1) = ((st'.length - 1 : Nat) : Int) := by rw [w64 (by omega) (by omega)]; omega
        refine ⟨rdOf ByteArray.empty st' ((st'.length - 1 : Nat) : Int), c _ (rdOf_mem _ _ _ (by rw [Int.toNat_natCast]; omega)), Ev.step (fun _ => rfl) (Ev.pos (by rw [hw]; omega) (Ev.pos (by rw [hw]; omega) (ev_cast (Ev.now _) (by rw [hw]))))⟩
      have hin := hl _ (rd_mem l (i : Int) (by rw [Int.toNat_natCast]; omega))
      obtain ⟨a, ha, ha0, ha1⟩ := pick4_val (rd l (i : Int)) 10 hin (by decide)
      obtain ⟨b, hb, hb0, hb1⟩ := pick4_val (wrap64 (Int.tdiv (rd l (i : Int)) 10)) 5 (wrap64_wf _) (by decide)
      have hgo : ∀ {r : ByteArray}, Gd r → Ev (fun k => letterlocklaw4_grown.j1 k l st (i : Int) true) r → ∃ r, Gd r ∧ Ev (fun k => letterlocklaw4_grown.l0 k l st (i : Int)) r := fun {r} h2 h3 =>
        ⟨r, h2, Ev.step (fun _ => rfl) (Ev.pos hi (by rw [decide_eq_true (by omega : (i : Int) < 40)]; exact h3))⟩
      have htop : ((wrap64 ((st.length : Int) - 1)) : Int) = ((st.length - 1 : Nat) : Int) := by rw [w64 (by omega) (by omega)]; omega
      by_cases c1 : a < 3
      · obtain ⟨n, rfl⟩ := Int.eq_ofNat_of_zero_le hb0
        have hu : IntKind.u64.wrap (n : Int) = (n : Int) := by rw [IntKind.wrap_u64]; omega
        obtain ⟨r, h2, h3⟩ := hnext (st ++ [atomB n]) (by simp) (by simp; omega) (by
          intro s hs
          rcases List.mem_append.1 hs with hs | hs
          · exact hr s hs
          · rw [List.mem_singleton.1 hs]; exact gd_atom (by omega))
        refine hgo h2 (Ev.step (fun _ => rfl) ((Ev.pos hi (Ev.put ha (Ev.put hb (Ev.pos c1 ?_))))))
        rw [hu]
        exact Ev.bind (refAtom_ev n (by omega)) (Ev.pos (by omega) h3)
      by_cases c2 : a = 3
      · obtain ⟨n, rfl⟩ := Int.eq_ofNat_of_zero_le hb0
        have hz : ((⟨#[97, 98, 99, 100, 101]⟩ : ByteArray).extract 0 n).size ≤ 5 := by
          rw [← bytes_length, bytes_to, List.length_take]
          exact Nat.le_trans (Nat.min_le_right _ _) (by decide)
        have hx : textF ((⟨#[97, 98, 99, 100, 101]⟩ : ByteArray).extract 0 n) = (textB ((⟨#[97, 98, 99, 100, 101]⟩ : ByteArray).extract 0 n), 0) ∧ right (textB ((⟨#[97, 98, 99, 100, 101]⟩ : ByteArray).extract 0 n)) = true := by
          have h9 := size_numB (n := ((⟨#[97, 98, 99, 100, 101]⟩ : ByteArray).extract 0 n).size) (by omega)
          have h10 : (textB ((⟨#[97, 98, 99, 100, 101]⟩ : ByteArray).extract 0 n)).size ≤ 4000 := by
            unfold textB; rw [ByteArray.size_append, ByteArray.size_append, size_one]; omega
          have h11 : right (textB ((⟨#[97, 98, 99, 100, 101]⟩ : ByteArray).extract 0 n)) = true := by rw [right_textB]; exact decide_eq_true h10
          exact ⟨by rw [textF_right, if_pos h11], h11⟩
        obtain ⟨r, h2, h3⟩ := hnext (st ++ [textB ((⟨#[97, 98, 99, 100, 101]⟩ : ByteArray).extract 0 n)]) (by simp) (by simp; omega) (by
          intro s hs
          rcases List.mem_append.1 hs with hs | hs
          · exact hr s hs
          · rw [List.mem_singleton.1 hs]; exact gd_text _ (by omega))
        refine hgo h2 (Ev.step (fun _ => rfl) ((Ev.pos hi (Ev.put ha (Ev.put hb (Ev.neg c1 (Ev.pos c2 (Ev.pos (by omega) (Ev.pos (by omega) ?_)))))))))
        rw [Int.toNat_natCast]
        refine Ev.bind (refText_ev _ (by omega)) ?_
        rw [hx.1]
        exact Ev.pos (by omega) h3
      have hmem : rdOf ByteArray.empty st ((st.length - 1 : Nat) : Int) ∈ st := rdOf_mem _ _ _ (by rw [Int.toNat_natCast]; omega)
      have hset : ∀ v : ByteArray, Gd v → ∀ s ∈ st.set (((st.length - 1 : Nat) : Int)).toNat v, Gd s := by
        intro v hv s hs
        rcases List.mem_or_eq_of_mem_set hs with hs | rfl
        · exact hr s hs
        · exact hv
      by_cases c3 : a = 4
      · by_cases c9 : (hashF (rdOf ByteArray.empty st ((st.length - 1 : Nat) : Int))).2 = 0
        · obtain ⟨r, h2, h3⟩ := hnext (st.set (((st.length - 1 : Nat) : Int)).toNat (hashF (rdOf ByteArray.empty st ((st.length - 1 : Nat) : Int))).1) (by rw [List.length_set]; exact h0) (by rw [List.length_set]; omega) (hset _ (gd_one .h (hr _ hmem) c9))
          refine hgo h2 (Ev.step (fun _ => rfl) ((Ev.pos hi (Ev.put ha (Ev.put hb (Ev.neg c1 (Ev.neg c2 (Ev.pos c3 ?_))))))))
          rw [htop]
          exact Ev.pos (by omega) (Ev.pos (by omega) (Ev.bind (refHash_ev _) (Ev.pos c9 h3)))
        · obtain ⟨r, h2, h3⟩ := hnext st h0 (by omega) hr
          refine hgo h2 (Ev.step (fun _ => rfl) ((Ev.pos hi (Ev.put ha (Ev.put hb (Ev.neg c1 (Ev.neg c2 (Ev.pos c3 ?_))))))))
          rw [htop]
          exact Ev.pos (by omega) (Ev.pos (by omega) (Ev.bind (refHash_ev _) (Ev.neg c9 h3)))
      by_cases c4 : a = 5
      · by_cases c9 : (ofF ⟨#[117]⟩ [rdOf ByteArray.empty st ((st.length - 1 : Nat) : Int)]).2 = 0
        · obtain ⟨r, h2, h3⟩ := hnext (st.set (((st.length - 1 : Nat) : Int)).toNat (ofF ⟨#[117]⟩ [rdOf ByteArray.empty st ((st.length - 1 : Nat) : Int)]).1) (by rw [List.length_set]; exact h0) (by rw [List.length_set]; omega) (hset _ (gd_one .u (hr _ hmem) c9))
          refine hgo h2 (Ev.step (fun _ => rfl) ((Ev.pos hi (Ev.put ha (Ev.put hb (Ev.neg c1 (Ev.neg c2 (Ev.neg c3 (Ev.pos c4 ?_)))))))))
          rw [htop]
          exact Ev.pos (by omega) (Ev.pos (by omega) (Ev.bind (refPublic_ev _) (Ev.pos c9 h3)))
        · obtain ⟨r, h2, h3⟩ := hnext st h0 (by omega) hr
          refine hgo h2 (Ev.step (fun _ => rfl) ((Ev.pos hi (Ev.put ha (Ev.put hb (Ev.neg c1 (Ev.neg c2 (Ev.neg c3 (Ev.pos c4 ?_)))))))))
          rw [htop]
          exact Ev.pos (by omega) (Ev.pos (by omega) (Ev.bind (refPublic_ev _) (Ev.neg c9 h3)))
      by_cases c5 : (st.length : Int) > 1
      · have htwo : ((wrap64 ((st.length : Int) - 2)) : Int) = ((st.length - 2 : Nat) : Int) := by rw [w64 (by omega) (by omega)]; omega
        have hmem2 : rdOf ByteArray.empty st ((st.length - 2 : Nat) : Int) ∈ st := rdOf_mem _ _ _ (by rw [Int.toNat_natCast]; omega)
        obtain ⟨j, hj1, hj2⟩ := joined4_ev a (rdOf ByteArray.empty st ((st.length - 2 : Nat) : Int)) (rdOf ByteArray.empty st ((st.length - 1 : Nat) : Int)) (lit64 (by omega) (by omega)) (hr _ hmem2) (hr _ hmem)
        obtain ⟨r, h2, h3⟩ := hnext (([] ++ st.take (((st.length - 2 : Nat) : Int)).toNat) ++ [j]) (by simp) (by simp only [List.nil_append, List.length_append, List.length_take, List.length_singleton]; omega) (by
          intro s hs
          rcases List.mem_append.1 hs with hs | hs
          · rw [List.nil_append] at hs
            exact hr s (List.mem_of_mem_take hs)
          · rw [List.mem_singleton.1 hs]; exact hj1)
        refine hgo h2 (Ev.step (fun _ => rfl) ((Ev.pos hi (Ev.put ha (Ev.put hb (Ev.neg c1 (Ev.neg c2 (Ev.neg c3 (Ev.neg c4 (Ev.pos c5 ?_))))))))))
        rw [htop, htwo]
        refine Ev.pos (by omega) (Ev.pos (by omega) (Ev.pos (by omega) (Ev.pos (by omega) (Ev.bind hj2 (Ev.put rfl (Ev.pos (by omega) (Ev.put rfl (Ev.pos ?_ (Ev.put rfl (Ev.pos ?_ h3))))))))))
        · simp only [List.length_nil, List.length_take]; omega
        · simp only [List.nil_append, List.length_take]; omega
      · obtain ⟨r, h2, h3⟩ := hnext st h0 (by omega) hr
        exact hgo h2 (Ev.step (fun _ => rfl) ((Ev.pos hi (Ev.put ha (Ev.put hb (Ev.neg c1 (Ev.neg c2 (Ev.neg c3 (Ev.neg c4 (Ev.neg c5 h3))))))))))
    · obtain ⟨r, h2, h3⟩ := hend
      exact ⟨r, h2, Ev.step (fun _ => rfl) (Ev.neg hi h3)⟩

theorem grown4_ev (l : List Int) (hl : ∀ x ∈ l, (Lit.int .i64 x).wf = true) : ∃ r, Gd r ∧ Ev (fun k => letterlocklaw4_grown.f k l) r := by
  obtain ⟨r, h1, h2⟩ := grown4_loop l hl 40 0 rfl [atomB 0] (by simp) (by simp) (by intro s hs; rw [List.mem_singleton.1 hs]; exact gd_atom (by decide))
  refine ⟨r, h1, ?_⟩
  unfold letterlocklaw4_grown.f
  exact Ev.bind (refAtom_ev 0 (by decide)) h2

/-- Six rows at most are grown. -/
theorem some4_loop (l : List (List Int)) (hl : ∀ x ∈ l, ∀ y ∈ x, (Lit.int .i64 y).wf = true) (hlen : l.length ≤ 9223372036854775807) (m i : Nat) (hm : i + m = 6) (ts : List T) (h0 : ts.length = i) (hi : i ≤ l.length) (hr : ∀ t ∈ ts, Wf t ∧ Low t) :
    ∃ us : List T, us.length = min 6 l.length ∧ (∀ t ∈ us, Wf t ∧ Low t) ∧ Ev (fun k => letterlocklaw4_some.l0 k l (ts.map tm) (i : Int)) (us.map tm) := by
  induction m generalizing i ts with
  | zero =>
    refine ⟨ts, by omega, hr, Ev.step (fun _ => rfl) ?_⟩
    by_cases h : (i : Int) < (l.length : Int)
    · exact Ev.pos h (Ev.neg (by omega) (Ev.now _))
    · exact Ev.neg h (Ev.now _)
  | succ m ih =>
    by_cases h : (i : Int) < (l.length : Int)
    · obtain ⟨r, ⟨t, h1, h2, rfl⟩, h3⟩ := grown4_ev (rd_L3 l (i : Int)) (hl _ (rdOf_mem _ _ _ (by rw [Int.toNat_natCast]; omega)))
      obtain ⟨us, h4, h5, h6⟩ := ih (i + 1) (by omega) (ts ++ [t]) (by simp [h0]) (by omega) (by
        intro x hx
        rcases List.mem_append.1 hx with hx | hx
        · exact hr x hx
        · rw [List.mem_singleton.1 hx]; exact ⟨h1, h2⟩)
      refine ⟨us, h4, h5, Ev.step (fun _ => rfl) (Ev.pos h (Ev.pos (by omega) (Ev.pos (by omega) (Ev.bind h3 (Ev.pos (by rw [List.length_map]; omega) ?_)))))⟩
      rw [w64 (by omega) (by omega)]
      rw [List.map_append] at h6
      exact h6
    · exact ⟨ts, by omega, hr, Ev.step (fun _ => rfl) (Ev.neg h (Ev.now _))⟩
theorem some4_ev (l : List (List Int)) (hl : ∀ x ∈ l, ∀ y ∈ x, (Lit.int .i64 y).wf = true) (hlen : l.length ≤ 9223372036854775807) :
    ∃ us : List T, us.length = min 6 l.length ∧ (∀ t ∈ us, Wf t ∧ Low t) ∧ Ev (fun k => letterlocklaw4_some.f k l) (us.map tm) := by
  obtain ⟨us, h1, h2, h3⟩ := some4_loop l hl hlen 6 0 rfl [] rfl (by omega) (fun t ht => by simp at ht)
  exact ⟨us, h1, h2, h3⟩
/-- Equal rows of texts are the same. -/
theorem same4_loop (a b : List ByteArray) (hl : a.length = b.length) (hlen : a.length ≤ 9223372036854775807) (m i : Nat) (hm : i + m = a.length) (hs : ∀ j : Nat, i ≤ j → j < a.length → rdOf ByteArray.empty a (j : Int) = rdOf ByteArray.empty b (j : Int)) :
    Ev (fun k => letterlocklaw4_same.l0 k a b (i : Int)) true := by
  induction m generalizing i with
  | zero => exact Ev.step (fun _ => rfl) (Ev.neg (by omega) (Ev.now _))
  | succ m ih =>
    refine Ev.step (fun _ => rfl) (Ev.pos (by omega) (Ev.pos (by omega) (Ev.pos (by omega) (Ev.pos (by rw [hs i (Nat.le_refl _) (by omega)]) ?_))))
    rw [w64 (by omega) (by omega)]
    exact ih (i + 1) (by omega) (fun j hj hj2 => hs j (by omega) hj2)
theorem same4_ev (a : List ByteArray) (hlen : a.length ≤ 9223372036854775807) : Ev (fun k => letterlocklaw4_same.f k a a) true := by
  unfold letterlocklaw4_same.f
  exact Ev.pos rfl (same4_loop a a rfl hlen a.length 0 (by omega) (fun j _ _ => rfl))

end Go.Proofs.Ytnieihhnchefdaa.Ref
end
