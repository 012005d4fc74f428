/- Contracts and laws that the statement of LawDataHides leans on (packed from this claim's own texts): part 1. -/
import Derived.Lib.Strings
import Derived.OrdersHeld
import Derived.Deep.RegionHeld3
import Derived.Laws.BitsLemmas
import Derived.RowKit
import Derived.Lib.ValidLaws
section

namespace Go.Proofs.YtlhoahbpklhpmaaGreatDoor
abbrev Bs := List UInt8
def bytes (s : ByteArray) : Bs := s.data.toList
def ofBytes (l : Bs) : ByteArray := ⟨l.toArray⟩
theorem bytes_ofBytes (l : Bs) : bytes (ofBytes l) = l := by simp [bytes, ofBytes]
theorem ofBytes_bytes (s : ByteArray) : ofBytes (bytes s) = s := by
 cases s; simp [bytes, ofBytes]
theorem bs_inj {s t : ByteArray} (h : bytes s = bytes t) : s = t := by rw [← ofBytes_bytes s, h, ofBytes_bytes]
theorem bytes_length (s : ByteArray) : (bytes s).length = s.size := (Lib.size_eq s).symm
theorem size_ofBytes (l : Bs) : (ofBytes l).size = l.length := by rw [← bytes_length, bytes_ofBytes]
theorem bytes_toList (s : ByteArray) : s.toList = bytes s := Lib.toList_data s
theorem bytes_append (s t : ByteArray) : bytes (s ++ t) = bytes s ++ bytes t := by simp [bytes]
theorem ofBytes_append (s t : Bs) : ofBytes (s ++ t) = ofBytes s ++ ofBytes t := bs_inj (by rw [bytes_append, bytes_ofBytes, bytes_ofBytes, bytes_ofBytes])
theorem bytes_extract (s : ByteArray) (a b : Nat) : bytes (s.extract a b) = ((bytes s).drop a).take (b - a) := Lib.extract_data s a b
theorem bytes_from (s : ByteArray) (a : Nat) : bytes (s.extract a s.size) = (bytes s).drop a := by
 rw [bytes_extract, List.take_of_length_le (by rw [List.length_drop, bytes_length]; omega)]
theorem bytes_to (s : ByteArray) (b : Nat) : bytes (s.extract 0 b) = (bytes s).take b := by
 rw [bytes_extract]; simp
theorem snoc_ind {α : Type} {p : List α → Prop} (h0 : p []) (h1 : ∀ l a, p l → p (l ++ [a])) (l : List α) : p l := by
 have : ∀ r : List α, p r.reverse := by
  intro r
  induction r with
  | nil => exact h0
  | cons a r ih => rw [List.reverse_cons]; exact h1 _ _ ih
 have h := this l.reverse
 rwa [List.reverse_reverse] at h
def beNum (l : Bs) : Nat := l.foldl (fun n b => n * 256 + b.toNat) 0
theorem beNum_nil : beNum [] = 0 := rfl
theorem beNum_snoc (l : Bs) (b : UInt8) : beNum (l ++ [b]) = beNum l * 256 + b.toNat := by simp [beNum, List.foldl_append]
theorem beNum_lt (l : Bs) : beNum l < 256 ^ l.length := by
 induction l using snoc_ind with
 | h0 => simp [beNum]
 | h1 l b ih =>
  rw [beNum_snoc, List.length_append, List.length_singleton, Nat.pow_succ]
  have := b.toNat_lt
  omega
theorem take_succ_get (l : Bs) (k : Nat) (h : k < l.length) : l.take (k + 1) = l.take k ++ [l[k]] := by
 rw [List.take_succ_eq_append_getElem h]
def takeL : Bs → Option (Nat × Bs)
 | [] => none
 | c :: r => if 8 < c.toNat then none else if r.length < c.toNat then none else if 0 < c.toNat ∧ r.head? = some 0 then none else some (beNum (r.take c.toNat), r.drop c.toNat)
def takeF (s : ByteArray) : Int × ByteArray × Int :=
 match takeL (bytes s) with
 | none => (0, ⟨#[]⟩, 2)
 | some (n, r) => (n, ofBytes r, 0)
end Go.Proofs.YtlhoahbpklhpmaaGreatDoor
end
section

namespace Go.Proofs.YtlhoahbpklhpmaaGreatDoor
set_option linter.unusedVariables false
theorem head_app {l r : Bs} (h : l ≠ []) : (l ++ r).head? = l.head? := by
 cases l with
 | nil => exact absurd rfl h
 | cons c l => rfl
def beBytes (n : Nat) : Bs := if h : n = 0 then [] else beBytes (n / 256) ++ [UInt8.ofNat (n % 256)]
termination_by n
decreasing_by omega
theorem beBytes_zero : beBytes 0 = [] := by rw [beBytes]; simp
theorem beBytes_pos {n : Nat} (h : n ≠ 0) : beBytes n = beBytes (n / 256) ++ [UInt8.ofNat (n % 256)] := by rw [beBytes]; simp [h]
theorem toNat_mod (n : Nat) : (UInt8.ofNat (n % 256)).toNat = n % 256 := by
 rw [UInt8.toNat_ofNat']
 omega
theorem beNum_beBytes (n : Nat) : beNum (beBytes n) = n := by
 induction n using Nat.strongRecOn with
 | _ n ih =>
  by_cases h : n = 0
  ·subst h; rw [beBytes_zero]; rfl
  ·rw [beBytes_pos h, beNum_snoc, ih (n / 256) (by omega), toNat_mod]
   omega
theorem beBytes_len (k n : Nat) (h : n < 256 ^ k) : (beBytes n).length ≤ k := by
 induction k generalizing n with
 | zero =>
  have : n = 0 := by simpa using h
  subst this
  rw [beBytes_zero]; simp
 | succ k ih =>
  by_cases h0 : n = 0
  ·subst h0; rw [beBytes_zero]; simp
  ·rw [beBytes_pos h0, List.length_append, List.length_singleton]
   have := ih (n / 256) (by rw [Nat.pow_succ] at h; omega)
   omega
theorem beBytes_len8 {n : Nat} (h : n < 18446744073709551616) : (beBytes n).length ≤ 8 := beBytes_len 8 n (by simpa using h)
theorem beBytes_head (n : Nat) : (beBytes n).head? ≠ some 0 := by
 induction n using Nat.strongRecOn with
 | _ n ih =>
  by_cases h : n = 0
  ·subst h; rw [beBytes_zero]; simp
  ·rw [beBytes_pos h]
   by_cases h2 : n / 256 = 0
   ·rw [h2, beBytes_zero]
    intro e
    have e2 : UInt8.ofNat (n % 256) = 0 := by simpa using e
    have := congrArg UInt8.toNat e2
    rw [toNat_mod] at this
    have h3 : (0 : UInt8).toNat = 0 := rfl
    omega
   ·have h4 : beBytes (n / 256) ≠ [] := by
     intro e
     have := beNum_beBytes (n / 256)
     rw [e] at this
     exact h2 this.symm
    rw [head_app h4]
    exact ih (n / 256) (by omega)
theorem beBytes_beNum (l : Bs) (h : l.head? ≠ some 0) : beBytes (beNum l) = l := by
 induction l using snoc_ind with
 | h0 => rw [beNum_nil, beBytes_zero]
 | h1 l b ih =>
  rw [beNum_snoc]
  have hb := b.toNat_lt
  by_cases hl : l = []
  ·subst hl
   have hb0 : b ≠ 0 := fun e => h (by rw [e]; rfl)
   have hb1 : b.toNat ≠ 0 := fun e => hb0 (UInt8.toNat_inj.1 e)
   rw [beNum_nil, Nat.zero_mul, Nat.zero_add, beBytes_pos hb1, show b.toNat / 256 = 0 from by omega, beBytes_zero, show b.toNat % 256 = b.toNat from by omega, UInt8.ofNat_toNat]
  ·rw [head_app hl] at h
   have ih := ih h
   have hn : beNum l ≠ 0 := by
    intro e
    rw [e, beBytes_zero] at ih
    exact hl ih.symm
   rw [beBytes_pos (by omega), show (beNum l * 256 + b.toNat) / 256 = beNum l from by omega, ih, show (beNum l * 256 + b.toNat) % 256 = b.toNat from by omega, UInt8.ofNat_toNat]
def putL (n : Nat) : Bs := UInt8.ofNat (beBytes n).length :: beBytes n
theorem putL_len {n : Nat} (h : n < 18446744073709551616) : (putL n).length ≤ 9 := by
 have := beBytes_len8 h
 simp only [putL, List.length_cons]; omega
theorem ofNat_small {k : Nat} (h : k ≤ 8) : (UInt8.ofNat k).toNat = k := by
 rw [UInt8.toNat_ofNat']
 omega
theorem take_put {n : Nat} (h : n < 18446744073709551616) (r : Bs) : takeL (putL n ++ r) = some (n, r) := by
 have h8 := beBytes_len8 h
 have hc := ofNat_small h8
 simp only [putL, List.cons_append, takeL]
 rw [hc, if_neg (by omega), if_neg (by rw [List.length_append]; omega), if_neg, List.take_left, List.drop_left, beNum_beBytes]
 rintro ⟨h1, h2⟩
 rw [head_app (fun e => by rw [e] at h1; simp at h1)] at h2
 exact beBytes_head n h2
theorem take_inv {l r : Bs} {n : Nat} (h : takeL l = some (n, r)) : l = putL n ++ r ∧ n < 18446744073709551616 := by
 cases l with
 | nil => simp [takeL] at h
 | cons c t =>
  simp only [takeL] at h
  by_cases h1 : 8 < c.toNat
  ·rw [if_pos h1] at h; simp at h
  rw [if_neg h1] at h
  by_cases h2 : t.length < c.toNat
  ·rw [if_pos h2] at h; simp at h
  rw [if_neg h2] at h
  by_cases h3 : 0 < c.toNat ∧ t.head? = some 0
  ·rw [if_pos h3] at h; simp at h
  rw [if_neg h3] at h
  simp only [Option.some.injEq, Prod.mk.injEq] at h
  obtain ⟨rfl, rfl⟩ := h
  have hh : (t.take c.toNat).head? ≠ some 0 := by
   intro e
   by_cases h0 : c.toNat = 0
   ·rw [h0] at e; simp at e
   ·rw [List.head?_take, if_neg h0] at e
    exact h3 ⟨by omega, e⟩
  have hlen : (t.take c.toNat).length = c.toNat := by rw [List.length_take]; omega
  refine ⟨?_, ?_⟩
  ·unfold putL
   rw [beBytes_beNum _ hh, hlen, UInt8.ofNat_toNat, List.cons_append, List.take_append_drop]
  ·have := beNum_lt (t.take c.toNat)
   rw [hlen] at this
   have h4 : 256 ^ c.toNat ≤ 256 ^ 8 := Nat.pow_le_pow_right (by decide) (by omega)
   have h5 : (256 : Nat) ^ 8 = 18446744073709551616 := by decide
   omega
def putT (s : Bs) : Bs := putL s.length ++ s
def takeT (most : Nat) (l : Bs) : Option (Bs × Bs) :=
 match takeL l with
 | none => none
 | some (n, r) => if most < n then none else if r.length < n then none else some (r.take n, r.drop n)
theorem takeT_put {most : Nat} {s : Bs} (h : s.length ≤ most) (h2 : s.length < 18446744073709551616) (r : Bs) : takeT most (putT s ++ r) = some (s, r) := by
 unfold takeT putT
 rw [List.append_assoc, take_put h2]
 simp only
 rw [if_neg (by omega), if_neg (by rw [List.length_append]; omega), List.take_left, List.drop_left]
theorem takeT_inv {most : Nat} {l s r : Bs} (h : takeT most l = some (s, r)) : l = putT s ++ r ∧ s.length ≤ most := by
 unfold takeT at h
 cases h1 : takeL l with
 | none => rw [h1] at h; simp at h
 | some x =>
  obtain ⟨n, q⟩ := x
  rw [h1] at h
  simp only at h
  by_cases h2 : most < n
  ·rw [if_pos h2] at h; simp at h
  rw [if_neg h2] at h
  by_cases h3 : q.length < n
  ·rw [if_pos h3] at h; simp at h
  rw [if_neg h3] at h
  simp only [Option.some.injEq, Prod.mk.injEq] at h
  obtain ⟨rfl, rfl⟩ := h
  obtain ⟨h4, h5⟩ := take_inv h1
  have hl : (q.take n).length = n := by rw [List.length_take]; omega
  refine ⟨?_, by omega⟩
  unfold putT
  rw [hl, List.append_assoc, List.take_append_drop, h4]
end Go.Proofs.YtlhoahbpklhpmaaGreatDoor
end
section

namespace Go.Proofs.YtlhoahbpklhpmaaGreatDoor
set_option linter.unusedVariables false
inductive K1 | h | u
 deriving DecidableEq
inductive K2 | p | s | b | g
 deriving DecidableEq
def K1.code : K1 → UInt8 | .h => 104 | .u => 117
def K2.code : K2 → UInt8 | .p => 112 | .s => 115 | .b => 98 | .g => 103
inductive T where
 | atom (n : Nat)
 | text (s : Bs)
 | one (k : K1) (a : T)
 | two (k : K2) (a b : T)
 deriving DecidableEq
def enc : T → Bs
 | .atom n => 97 :: putL n
 | .text s => 116 :: putT s
 | .one k a => k.code :: enc a
 | .two k a b => k.code :: (enc a ++ enc b)
def T.isPub : T → Bool | .one .u _ => true | _ => false
def ok : Nat → T → Prop
 | 0, _ => False
 | _ + 1, .atom n => n < 18446744073709551616
 | _ + 1, .text s => s.length ≤ 4000
 | d + 1, .one _ a => ok d a
 | d + 1, .two k a b => ok d a ∧ ok d b ∧ (k = .b → a.isPub = true)
def kind1 (c : UInt8) : Option K1 := if c = 104 then some .h else if c = 117 then some .u else none
def kind2 (c : UInt8) : Option K2 := if c = 112 then some .p else if c = 115 then some .s else if c = 98 then some .b else if c = 103 then some .g else none
theorem kind1_code (k : K1) : kind1 k.code = some k := by cases k <;> rfl
theorem kind2_code (k : K2) : kind2 k.code = some k := by cases k <;> rfl
theorem kind1_k2 (k : K2) : kind1 k.code = none := by cases k <;> rfl
theorem kind1_inv {c : UInt8} {k : K1} (h : kind1 c = some k) : c = k.code := by
 unfold kind1 at h
 split at h
 ·rename_i e; subst e; rw [← Option.some.inj h]; rfl
 ·split at h
  ·rename_i e; subst e; rw [← Option.some.inj h]; rfl
  ·simp at h
theorem kind2_inv {c : UInt8} {k : K2} (h : kind2 c = some k) : c = k.code := by
 unfold kind2 at h
 split at h
 ·rename_i e; subst e; rw [← Option.some.inj h]; rfl
 ·split at h
  ·rename_i e; subst e; rw [← Option.some.inj h]; rfl
  ·split at h
   ·rename_i e; subst e; rw [← Option.some.inj h]; rfl
   ·split at h
    ·rename_i e; subst e; rw [← Option.some.inj h]; rfl
    ·simp at h
def parse : Nat → Bs → Option (T × Bs)
 | 0, _ => none
 | _ + 1, [] => none
 | d + 1, c :: l =>
  if c = 97 then (takeL l).map fun x => (.atom x.1, x.2)
  else if c = 116 then (takeT 4000 l).map fun x => (.text x.1, x.2)
  else match kind1 c with
   | some k => (parse d l).map fun x => (.one k x.1, x.2)
   | none => match kind2 c with
    | some k => (parse d l).bind fun x => (parse d x.2).bind fun y => if k = .b ∧ x.1.isPub = false then none else some (.two k x.1 y.1, y.2)
    | none => none
theorem parse_enc (d : Nat) (t : T) (r : Bs) (h : ok d t) : parse d (enc t ++ r) = some (t, r) := by
 induction d generalizing t r with
 | zero => exact absurd h (by simp [ok])
 | succ d ih =>
  cases t with
  | atom n =>
   simp only [enc, List.cons_append, parse]
   rw [if_pos trivial, take_put h]; rfl
  | text s =>
   have h : s.length ≤ 4000 := h
   show (if (116 : UInt8) = 97 then _ else if (116 : UInt8) = 116 then (takeT 4000 (putT s ++ r)).map _ else _) = _
   rw [if_neg (by decide), if_pos rfl, takeT_put h (by omega)]; rfl
  | one k a =>
   simp only [enc, List.cons_append, parse]
   rw [if_neg (by cases k <;> decide), if_neg (by cases k <;> decide), kind1_code]
   simp only
   rw [ih a r h]; rfl
  | two k a b =>
   obtain ⟨h1, h2, h3⟩ := h
   simp only [enc, List.cons_append, parse]
   rw [if_neg (by cases k <;> decide), if_neg (by cases k <;> decide), kind1_k2, kind2_code]
   simp only
   rw [List.append_assoc, ih a _ h1]
   simp only [Option.bind_some]
   rw [ih b _ h2]
   simp only [Option.bind_some]
   rw [if_neg]
   rintro ⟨e1, e2⟩
   rw [h3 e1] at e2
   simp at e2
theorem parse_inv (d : Nat) (l : Bs) (t : T) (r : Bs) (h : parse d l = some (t, r)) : l = enc t ++ r ∧ ok d t := by
 induction d generalizing l t r with
 | zero => simp [parse] at h
 | succ d ih =>
  cases l with
  | nil => simp [parse] at h
  | cons c l =>
   simp only [parse] at h
   by_cases h1 : c = 97
   ·rw [if_pos h1] at h
    obtain ⟨⟨n, q⟩, h2, h3⟩ := Option.map_eq_some_iff.1 h
    simp only [Prod.mk.injEq] at h3
    obtain ⟨rfl, rfl⟩ := h3
    obtain ⟨h4, h5⟩ := take_inv h2
    exact ⟨by rw [h1, h4]; rfl, h5⟩
   rw [if_neg h1] at h
   by_cases h2 : c = 116
   ·rw [if_pos h2] at h
    obtain ⟨⟨n, q⟩, h3, h4⟩ := Option.map_eq_some_iff.1 h
    simp only [Prod.mk.injEq] at h4
    obtain ⟨rfl, rfl⟩ := h4
    obtain ⟨h5, h6⟩ := takeT_inv h3
    exact ⟨by rw [h2, h5]; rfl, h6⟩
   rw [if_neg h2] at h
   cases hk : kind1 c with
   | some k =>
    rw [hk] at h
    obtain ⟨⟨a, q⟩, h3, h4⟩ := Option.map_eq_some_iff.1 h
    simp only [Prod.mk.injEq] at h4
    obtain ⟨rfl, rfl⟩ := h4
    obtain ⟨h5, h6⟩ := ih _ _ _ h3
    exact ⟨by rw [kind1_inv hk, h5]; rfl, h6⟩
   | none =>
    rw [hk] at h
    simp only at h
    cases hk2 : kind2 c with
    | none => rw [hk2] at h; simp at h
    | some k =>
     rw [hk2] at h
     obtain ⟨⟨a, q⟩, h3, h4⟩ := Option.bind_eq_some_iff.1 h
     obtain ⟨⟨b, q2⟩, h5, h6⟩ := Option.bind_eq_some_iff.1 h4
     simp only at h5 h6
     by_cases h7 : k = .b ∧ a.isPub = false
     ·rw [if_pos h7] at h6; simp at h6
     rw [if_neg h7] at h6
     simp only [Option.some.injEq, Prod.mk.injEq] at h6
     obtain ⟨rfl, rfl⟩ := h6
     obtain ⟨h8, h9⟩ := ih _ _ _ h3
     obtain ⟨h10, h11⟩ := ih _ _ _ h5
     refine ⟨by rw [kind2_inv hk2, h8, h10]; simp [enc], h9, h11, fun e => ?_⟩
     cases hp : a.isPub with
     | true => rfl
     | false => exact absurd ⟨e, hp⟩ h7
def Wf (t : T) : Prop := ok 40 t ∧ (enc t).length ≤ 4000
def termOf (l : Bs) : Option T := if l.length ≤ 4000 then match parse 40 l with | some (t, []) => some t | _ => none else none
theorem termOf_enc {t : T} (h : Wf t) : termOf (enc t) = some t := by
 unfold termOf
 have := parse_enc 40 t [] h.1
 rw [List.append_nil] at this
 rw [if_pos h.2, this]
theorem termOf_inv {l : Bs} {t : T} (h : termOf l = some t) : l = enc t ∧ Wf t := by
 unfold termOf at h
 split at h
 ·rename_i hl
  cases hp : parse 40 l with
  | none => rw [hp] at h; simp at h
  | some x =>
   obtain ⟨q, r⟩ := x
   rw [hp] at h
   cases r with
   | cons c r => simp at h
   | nil =>
    obtain rfl := Option.some.inj h
    obtain ⟨h1, h2⟩ := parse_inv _ _ _ _ hp
    rw [List.append_nil] at h1
    exact ⟨h1, h2, by rw [← h1]; exact hl⟩
 ·simp at h
theorem ok_mono {d e : Nat} {t : T} (h : ok d t) (hde : d ≤ e) : ok e t := by
 induction d generalizing e t with
 | zero => exact absurd h (by simp [ok])
 | succ d ih =>
  obtain ⟨e, rfl⟩ : ∃ m, e = m + 1 := ⟨e - 1, by omega⟩
  cases t with
  | atom n => exact h
  | text s => exact h
  | one k a => exact ih (t := a) h (by omega)
  | two k a b => exact ⟨ih (t := a) h.1 (by omega), ih (t := b) h.2.1 (by omega), h.2.2⟩
theorem enc_inj {d : Nat} {s t : T} (hs : ok d s) (ht : ok d t) (h : enc s = enc t) : s = t := by
 have h1 := parse_enc d s [] hs
 rw [h, parse_enc d t [] ht] at h1
 simpa using h1.symm
theorem enc_ne_nil (t : T) : enc t ≠ [] := by cases t <;> simp [enc]
theorem enc_pos (t : T) : 0 < (enc t).length := List.length_pos_iff.2 (enc_ne_nil t)
end Go.Proofs.YtlhoahbpklhpmaaGreatDoor
end
section

namespace Go.Proofs.YtlhoahbpklhpmaaGreatDoor
set_option linter.unusedVariables false
def tog (S : List T) : T → Bool
 | .atom n => S.contains (.atom n)
 | .text s => true
 | .one k a => S.contains (.one k a) || tog S a
 | .two k a b => S.contains (.two k a b) || (tog S a && tog S b)
def gives (S : List T) : T → List T
 | .two .p a b => [a, b]
 | .two .g _ b => [b]
 | .two .s a b => if tog S a = true then [b] else []
 | .two .b (.one _ a) b => if tog S a = true then [b] else []
 | _ => []
def addAll (S : List T) (l : List T) : List T := l.foldl (fun S x => if S.contains x then S else S ++ [x]) S
def stepH (S : List T) : List T := addAll S (S.flatMap (gives S))
def iterH : Nat → List T → List T
 | 0, S => S
 | n + 1, S => iterH n (stepH S)
def subT : T → List T
 | .atom n => [.atom n]
 | .text s => [.text s]
 | .one k a => .one k a :: subT a
 | .two k a b => .two k a b :: (subT a ++ subT b)
def hadL (h : List T) : List T := iterH (h.flatMap subT).length (addAll [] h)
theorem mem_addAll (S l : List T) (x : T) : x ∈ addAll S l ↔ x ∈ S ∨ x ∈ l := by
 induction l generalizing S with
 | nil => simp [addAll]
 | cons y l ih =>
  unfold addAll at ih ⊢
  rw [List.foldl_cons, ih]
  by_cases h : S.contains y = true
  ·rw [if_pos h]
   have h : y ∈ S := List.contains_iff_mem.1 h
   constructor
   ·rintro (h1 | h1)
    ·exact Or.inl h1
    ·exact Or.inr (List.mem_cons_of_mem _ h1)
   ·rintro (h1 | h1)
    ·exact Or.inl h1
    ·rcases List.mem_cons.1 h1 with rfl | h2
     ·exact Or.inl h
     ·exact Or.inr h2
  ·rw [if_neg h]
   simp only [List.mem_append, List.mem_cons, List.not_mem_nil, or_false]
   constructor
   ·rintro ((h1 | h1) | h1)
    ·exact Or.inl h1
    ·exact Or.inr (Or.inl h1)
    ·exact Or.inr (Or.inr h1)
   ·rintro (h1 | h1 | h1)
    ·exact Or.inl (Or.inl h1)
    ·exact Or.inl (Or.inr h1)
    ·exact Or.inr h1
theorem nodup_addAll (S l : List T) (h : S.Nodup) : (addAll S l).Nodup := by
 induction l generalizing S with
 | nil => exact h
 | cons y l ih =>
  unfold addAll at ih ⊢
  rw [List.foldl_cons]
  refine ih _ ?_
  by_cases h1 : S.contains y = true
  ·rw [if_pos h1]; exact h
  ·rw [if_neg h1]
   refine List.nodup_append.2 ⟨h, by simp, ?_⟩
   intro a ha b hb
   rw [List.mem_singleton.1 hb]
   rintro rfl
   exact h1 (List.contains_iff_mem.2 ha)
theorem tog_mono {S U : List T} (h : ∀ x ∈ S, x ∈ U) (t : T) (ht : tog S t = true) : tog U t = true := by
 induction t with
 | atom n => exact List.contains_iff_mem.2 (h _ (List.contains_iff_mem.1 ht))
 | text s => rfl
 | one k a ih =>
  simp only [tog, Bool.or_eq_true] at ht ⊢
  rcases ht with ht | ht
  ·exact Or.inl (List.contains_iff_mem.2 (h _ (List.contains_iff_mem.1 ht)))
  ·exact Or.inr (ih ht)
 | two k a b iha ihb =>
  simp only [tog, Bool.or_eq_true, Bool.and_eq_true] at ht ⊢
  rcases ht with ht | ht
  ·exact Or.inl (List.contains_iff_mem.2 (h _ (List.contains_iff_mem.1 ht)))
  ·exact Or.inr ⟨iha ht.1, ihb ht.2⟩
theorem tog_congr {S U : List T} (h : ∀ x, x ∈ S ↔ x ∈ U) (t : T) : tog S t = tog U t := by
 cases hs : tog S t with
 | true => exact (tog_mono (fun x hx => (h x).1 hx) t hs).symm
 | false =>
  cases hu : tog U t with
  | false => rfl
  | true => rw [tog_mono (fun x hx => (h x).2 hx) t hu] at hs; exact absurd hs (by simp)
theorem gives_mono {S U : List T} (h : ∀ x ∈ S, x ∈ U) (t x : T) (hx : x ∈ gives S t) : x ∈ gives U t := by
 cases t with
 | atom n => simp [gives] at hx
 | text s => simp [gives] at hx
 | one k a => simp [gives] at hx
 | two k a b =>
  cases k with
  | p => exact hx
  | g => exact hx
  | s =>
   simp only [gives] at hx ⊢
   by_cases h1 : tog S a = true
   ·rw [if_pos h1] at hx; rw [if_pos (tog_mono h a h1)]; exact hx
   ·rw [if_neg h1] at hx; simp at hx
  | b =>
   cases a with
   | atom n => simp [gives] at hx
   | text s => simp [gives] at hx
   | two k a c => simp [gives] at hx
   | one k a =>
    simp only [gives] at hx ⊢
    by_cases h1 : tog S a = true
    ·rw [if_pos h1] at hx; rw [if_pos (tog_mono h a h1)]; exact hx
    ·rw [if_neg h1] at hx; simp at hx
theorem subT_self (t : T) : t ∈ subT t := by cases t <;> simp [subT]
theorem subT_trans {a b c : T} (h1 : a ∈ subT b) (h2 : b ∈ subT c) : a ∈ subT c := by
 induction c with
 | atom n => simp only [subT, List.mem_singleton] at h2; rw [h2] at h1; exact h1
 | text n => simp only [subT, List.mem_singleton] at h2; rw [h2] at h1; exact h1
 | one k x ih =>
  simp only [subT, List.mem_cons] at h2
  rcases h2 with rfl | h2
  ·exact h1
  ·exact List.mem_cons_of_mem _ (ih h2)
 | two k x y ihx ihy =>
  simp only [subT, List.mem_cons, List.mem_append] at h2
  rcases h2 with rfl | h2 | h2
  ·exact h1
  ·exact List.mem_cons_of_mem _ (List.mem_append.2 (Or.inl (ihx h2)))
  ·exact List.mem_cons_of_mem _ (List.mem_append.2 (Or.inr (ihy h2)))
theorem gives_sub {S : List T} {t x : T} (hx : x ∈ gives S t) : x ∈ subT t := by
 cases t with
 | atom n => simp [gives] at hx
 | text s => simp [gives] at hx
 | one k a => simp [gives] at hx
 | two k a b =>
  have ha := subT_self a
  have hb := subT_self b
  have hkey : x = a ∨ x = b → x ∈ subT (.two k a b) := by
   rintro (rfl | rfl)
   ·exact List.mem_cons_of_mem _ (List.mem_append.2 (Or.inl ha))
   ·exact List.mem_cons_of_mem _ (List.mem_append.2 (Or.inr hb))
  cases k with
  | p => simp only [gives, List.mem_cons, List.not_mem_nil, or_false] at hx; exact hkey hx
  | g => simp only [gives, List.mem_singleton] at hx; exact hkey (Or.inr hx)
  | s =>
   simp only [gives] at hx
   by_cases h1 : tog S a = true
   ·rw [if_pos h1, List.mem_singleton] at hx; exact hkey (Or.inr hx)
   ·rw [if_neg h1] at hx; simp at hx
  | b =>
   cases a with
   | atom n => simp [gives] at hx
   | text s => simp [gives] at hx
   | two k a c => simp [gives] at hx
   | one k a =>
    simp only [gives] at hx
    by_cases h1 : tog S a = true
    ·rw [if_pos h1, List.mem_singleton] at hx; exact hkey (Or.inr hx)
    ·rw [if_neg h1] at hx; simp at hx
def ClosedT (S : List T) : Prop := ∀ t ∈ S, ∀ x ∈ gives S t, x ∈ S
theorem mem_stepH (S : List T) (x : T) : x ∈ stepH S ↔ x ∈ S ∨ ∃ t ∈ S, x ∈ gives S t := by
 unfold stepH
 rw [mem_addAll, List.mem_flatMap]
theorem iterH_sup (n : Nat) (S : List T) (x : T) (h : x ∈ S) : x ∈ iterH n S := by
 induction n generalizing S with
 | zero => exact h
 | succ n ih => exact ih _ ((mem_stepH S x).2 (Or.inl h))
theorem iterH_least (n : Nat) (S C : List T) (hs : ∀ x ∈ S, x ∈ C) (hc : ClosedT C) : ∀ x ∈ iterH n S, x ∈ C := by
 induction n generalizing S with
 | zero => exact hs
 | succ n ih =>
  refine ih _ fun x hx => ?_
  rcases (mem_stepH S x).1 hx with h | ⟨t, ht, h⟩
  ·exact hs x h
  ·exact hc t (hs t ht) x (gives_mono hs t x h)
theorem iterH_sub (n : Nat) (S U : List T) (hs : ∀ x ∈ S, x ∈ U) (hu : ∀ t ∈ U, ∀ x ∈ subT t, x ∈ U) : ∀ x ∈ iterH n S, x ∈ U := by
 induction n generalizing S with
 | zero => exact hs
 | succ n ih =>
  refine ih _ fun x hx => ?_
  rcases (mem_stepH S x).1 hx with h | ⟨t, ht, h⟩
  ·exact hs x h
  ·exact hu t (hs t ht) x (gives_sub h)
theorem stepH_nodup {S : List T} (h : S.Nodup) : (stepH S).Nodup := nodup_addAll _ _ h
theorem addAll_len (S l : List T) : S.length ≤ (addAll S l).length ∧ ((addAll S l).length = S.length → ∀ x ∈ l, x ∈ S) := by
 induction l generalizing S with
 | nil => exact ⟨Nat.le_refl _, fun _ x hx => by simp at hx⟩
 | cons y l ih =>
  have h0 : addAll S (y :: l) = addAll (if S.contains y then S else S ++ [y]) l := rfl
  rw [h0]
  obtain ⟨h1, h2⟩ := ih (if S.contains y then S else S ++ [y])
  by_cases h : S.contains y = true
  ·rw [if_pos h] at h1 h2 ⊢
   refine ⟨h1, fun e x hx => ?_⟩
   rcases List.mem_cons.1 hx with rfl | hx
   ·exact List.contains_iff_mem.1 h
   ·exact h2 e x hx
  ·rw [if_neg h] at h1 h2 ⊢
   rw [List.length_append, List.length_singleton] at h1 h2
   exact ⟨by omega, fun e => by omega⟩
theorem nodup_len {S U : List T} (h : S.Nodup) (hs : ∀ x ∈ S, x ∈ U) : S.length ≤ U.length := by
 induction S generalizing U with
 | nil => exact Nat.zero_le _
 | cons y S ih =>
  obtain ⟨hy, hS⟩ := List.nodup_cons.1 h
  have hm : y ∈ U := hs y List.mem_cons_self
  have h1 := ih (U := U.erase y) hS (fun x hx => (List.mem_erase_of_ne (fun e => hy (by rw [← e]; exact hx))).2 (hs x (List.mem_cons_of_mem _ hx)))
  have h2 := List.length_erase_of_mem hm
  have h3 : 0 < U.length := List.length_pos_of_mem hm
  rw [List.length_cons]
  omega
theorem stepH_fix {S : List T} (h : (stepH S).length = S.length) : ClosedT S := by
 intro t ht x hx
 have := (addAll_len S (S.flatMap (gives S))).2 h x (List.mem_flatMap.2 ⟨t, ht, hx⟩)
 exact this
theorem stepH_closed {S : List T} (h : ClosedT S) (x : T) : x ∈ stepH S ↔ x ∈ S := by
 rw [mem_stepH]
 constructor
 ·rintro (h1 | ⟨t, ht, h1⟩)
  ·exact h1
  ·exact h t ht x h1
 ·exact Or.inl
theorem iterH_closed_of {S : List T} (n : Nat) (h : ClosedT S) (x : T) : x ∈ iterH n S ↔ x ∈ S := by
 induction n generalizing S with
 | zero => exact Iff.rfl
 | succ n ih =>
  have h2 : ClosedT (stepH S) := by
   intro t ht x hx
   rw [stepH_closed h] at ht ⊢
   exact h t ht x (gives_mono (fun y hy => (stepH_closed h y).1 hy) t x hx)
  exact (ih h2).trans (stepH_closed h x)
theorem closedT_congr {S U : List T} (h : ∀ x, x ∈ S ↔ x ∈ U) (hs : ClosedT S) : ClosedT U := by
 intro t ht x hx
 exact (h x).1 (hs t ((h t).2 ht) x (gives_mono (fun y hy => (h y).2 hy) t x hx))
theorem iterH_closed (n : Nat) (S U : List T) (hn : S.Nodup) (hs : ∀ x ∈ S, x ∈ U) (hu : ∀ t ∈ U, ∀ x ∈ subT t, x ∈ U) (h : U.length ≤ S.length + n) : ClosedT (iterH n S) := by
 induction n generalizing S with
 | zero =>
  -- S has all of U
  have hU : ∀ x ∈ U, x ∈ S := by
   intro x hx
   by_cases hxs : x ∈ S
   ·exact hxs
   ·have h1 : (x :: S).Nodup := List.nodup_cons.2 ⟨hxs, hn⟩
    have := nodup_len h1 (U := U) (fun y hy => by
     rcases List.mem_cons.1 hy with rfl | hy
     ·exact hx
     ·exact hs y hy)
    rw [List.length_cons] at this
    omega
  intro t ht x hx
  exact hU x (hu t (hs t ht) x (gives_sub hx))
 | succ n ih =>
  have hl := (addAll_len S (S.flatMap (gives S))).1
  have hl : S.length ≤ (stepH S).length := hl
  by_cases he : (stepH S).length = S.length
  ·have hc := stepH_fix he
   refine closedT_congr (S := S) (fun x => ?_) hc
   exact (iterH_closed_of (n + 1) hc x).symm
  ·refine ih (stepH S) (stepH_nodup hn) (fun x hx => ?_) (by omega)
   rcases (mem_stepH S x).1 hx with h1 | ⟨t, ht, h1⟩
   ·exact hs x h1
   ·exact hu t (hs t ht) x (gives_sub h1)
theorem hadL_sup (h : List T) (x : T) (hx : x ∈ h) : x ∈ hadL h := iterH_sup _ _ _ ((mem_addAll [] h x).2 (Or.inr hx))
theorem hadL_least (h C : List T) (hs : ∀ x ∈ h, x ∈ C) (hc : ClosedT C) : ∀ x ∈ hadL h, x ∈ C :=
 iterH_least _ _ _ (fun x hx => by
  rcases (mem_addAll [] h x).1 hx with h1 | h1
  ·simp at h1
  ·exact hs x h1) hc
theorem hadL_closed (h : List T) : ClosedT (hadL h) := by
 refine iterH_closed _ _ (h.flatMap subT) (nodup_addAll _ _ List.nodup_nil) ?_ ?_ (by omega)
 ·intro x hx
  rcases (mem_addAll [] h x).1 hx with h1 | h1
  ·simp at h1
  ·exact List.mem_flatMap.2 ⟨x, h1, subT_self x⟩
 ·intro t ht x hx
  obtain ⟨u, hu, h1⟩ := List.mem_flatMap.1 ht
  exact List.mem_flatMap.2 ⟨u, hu, subT_trans hx h1⟩
theorem hadL_sub (h : List T) : ∀ x ∈ hadL h, x ∈ h.flatMap subT := by
 refine iterH_sub _ _ _ ?_ ?_
 ·intro x hx
  rcases (mem_addAll [] h x).1 hx with h1 | h1
  ·simp at h1
  ·exact List.mem_flatMap.2 ⟨x, h1, subT_self x⟩
 ·intro t ht x hx
  obtain ⟨u, hu, h1⟩ := List.mem_flatMap.1 ht
  exact List.mem_flatMap.2 ⟨u, hu, subT_trans hx h1⟩
theorem hadL_iff {h C : List T} (h1 : ∀ x ∈ h, x ∈ C) (h2 : ClosedT C) (h3 : ∀ x ∈ C, x ∈ hadL h) (x : T) : x ∈ C ↔ x ∈ hadL h := ⟨h3 x, hadL_least h C h1 h2 x⟩
end Go.Proofs.YtlhoahbpklhpmaaGreatDoor
end
section

namespace Go.Proofs.YtlhoahbpklhpmaaGreatDoorW.PrintLast
section
variable {P : Program} {ops : Array Oper} {Q : Exit → Act → World → Prop} {md : Region.Mode} {S : World → Prop} {ds : List Nat}
def Region.reachB (md : Region.Mode) (ops : Array Oper) (i : Nat) : Nat → Nat → Bool
 | 0, _ => false
 | fuel + 1, d => match ops[d]? with
  | some o => o.after.any fun e => Region.binds md e && (e.on == i || Region.reachB md ops i fuel e.on)
  | none => false
def Region.closedB (md : Region.Mode) (ops : Array Oper) (listed : Array Bool) : Bool :=
 (List.range ops.size).all fun j => !listed.getD j false || match ops[j]? with
  | some o => o.after.all fun e => !Region.binds md e || listed.getD e.on false
  | none => true
def Region.lastB (md : Region.Mode) (ops : Array Oper) (listed : Array Bool) (ds : List Nat) (i : Nat) : Bool :=
 ds.all fun d => listed.getD d true || Region.reachB md ops i ops.size d
def ListedClosed (md : Region.Mode) (ops : Array Oper) (listed : Array Bool) : Prop :=
 ∀ j oj, ops[j]? = some oj → listed.getD j false = true → ∀ e ∈ oj.after, Region.binds md e = true → listed.getD e.on false = true
theorem Region.closedB_spec {listed : Array Bool} (h : Region.closedB md ops listed = true) : ListedClosed md ops listed := by
 intro j oj hj hl e he hb
 have hlt : j < ops.size := (Array.getElem?_eq_some_iff.1 hj).1
 have h1 := List.all_eq_true.1 h j (List.mem_range.2 hlt)
 simp only [hl, hj, Bool.not_true, Bool.false_or] at h1
 have h2 := Array.all_eq_true_iff_forall_mem.1 h1 e he
 simpa [hb] using h2
theorem ListedClosed.set {listed : Array Bool} {i : Nat} (h : ListedClosed md ops listed) (hi : i ∈ Region.ready md ops listed) : ListedClosed md ops (listed.setIfInBounds i true) := by
 obtain ⟨_, oi, hoi, hall⟩ := mem_ready.1 hi
 intro j oj hj hl e he hb
 by_cases hij : i = j
 ·subst hij
  have : oj = oi := Option.some.inj (hj.symm.trans hoi)
  subst this
  exact getD_set_true (hall e he hb)
 ·rw [getD_set_ne false hij] at hl
  exact getD_set_true (h j oj hj hl e he hb)
theorem Region.reach_listed {listed : Array Bool} {i : Nat} (hc : ListedClosed md ops listed) : ∀ (fuel d : Nat), Region.reachB md ops i fuel d = true → listed.getD d false = true → listed.getD i false = true
 | 0, _, h, _ => by simp [Region.reachB] at h
 | fuel + 1, d, h, hl => by
  unfold Region.reachB at h
  cases ho : ops[d]? with
  | none => rw [ho] at h; simp at h
  | some o =>
   rw [ho] at h
   obtain ⟨e, he, h1⟩ := Array.any_eq_true'.1 h
   simp only [Bool.and_eq_true, Bool.or_eq_true, beq_iff_eq] at h1
   have hle := hc d o ho hl e he h1.1
   rcases h1.2 with h2 | h2
   ·rw [← h2]; exact hle
   ·exact Region.reach_listed hc fuel e.on h2 hle
theorem Region.reach_not_ready {listed : Array Bool} {i d fuel : Nat} (hc : ListedClosed md ops listed) (hr : Region.reachB md ops i fuel d = true) (hun : listed.getD i true = false) : d ∉ Region.ready md ops listed := by
 intro hd
 obtain ⟨_, o, ho, hall⟩ := mem_ready.1 hd
 have hi : listed.getD i false = true := by
  cases fuel with
  | zero => simp [Region.reachB] at hr
  | succ n =>
   unfold Region.reachB at hr
   rw [ho] at hr
   obtain ⟨e, he, h1⟩ := Array.any_eq_true'.1 hr
   simp only [Bool.and_eq_true, Bool.or_eq_true, beq_iff_eq] at h1
   have hle := hall e he h1.1
   rcases h1.2 with h2 | h2
   ·rw [← h2]; exact hle
   ·exact Region.reach_listed hc n e.on h2 hle
 rcases Nat.lt_or_ge i listed.size with h' | h'
 ·simp [h'] at hun hi
  rw [hun] at hi
  cases hi
 ·simp [Array.getElem?_eq_none h'] at hun
def wpAnyLast (P : Program) (md : Region.Mode) (ops : Array Oper) (Q : Exit → Act → World → Prop) (S : World → Prop) (ds : List Nat) : Nat → Array Bool → Act → World → Prop
 | 0, listed, a, w => Region.ready md ops listed = [] ∧ Q .normal a w
 | fuel + 1, listed, a, w =>
  (Region.ready md ops listed = [] → Q .normal a w) ∧
  ∀ i ∈ Region.ready md ops listed, wpOp P ops Q i (fun a' w' => (i ∉ ds → S w → S w') ∧ wpAnyLast P md ops Q S ds fuel (listed.setIfInBounds i true) a' w') a w
theorem wpAny_of_last : ∀ (fuel : Nat) (listed : Array Bool) (a : Act) (w : World), wpAnyLast P md ops Q S ds fuel listed a w → wpAny P md ops Q fuel listed a w
 | 0, _, _, _, h => h
 | fuel + 1, _, _, _, h => ⟨h.1, fun i hi => wpOp_mono (fun a' w' h' => wpAny_of_last fuel _ a' w' h'.2) (h.2 i hi)⟩
theorem wpAnyLast_first {i : Nat} {oi : Oper} {v : Value} (hi : ops[i]? = some oi) (hsel : ∀ (j : Nat) (o : Oper) cs b, ops[j]? = some o → o.op ≠ .select cs b)
  (hQ : ∀ c a w, Q (.panic c) (a.put oi.dst v) w → Q (.panic c) a w) (n : Nat) :
  ∀ (fuel : Nat) (listed : Array Bool) (a : Act) (w : World),
   (∀ j oj, ops[j]? = some oj → j ≠ i → listed.getD j true = false → (∀ e ∈ oj.after, Region.binds md e = true → e.on ≠ i) → oi.apart ops oj = true) →
   ListedClosed md ops listed → (∀ d ∈ ds, listed.getD d true = false → Region.reachB md ops i n d = true) →
   i ∈ Region.ready md ops listed → YieldsIf P ops S oi v a → S w →
   wpAnyLast P md ops Q S ds fuel (listed.setIfInBounds i true) (a.put oi.dst v) w → wpAnyLast P md ops Q S ds (fuel + 1) listed a w := by
 intro fuel
 induction fuel with
 | zero =>
  intro listed a w _ _ _ hr hy hS H
  refine ⟨fun h => (by rw [h] at hr; cases hr), fun j hj => ?_⟩
  by_cases hji : j = i
  ·subst hji; exact hy.wpOp hi hS ⟨fun _ h => h, H⟩
  ·have := ready_mono hj hji
   rw [H.1] at this
   cases this
 | succ fuel ih =>
  intro listed a w hfree hc hd hr hy hS H
  refine ⟨fun h => (by rw [h] at hr; cases hr), fun j hj => ?_⟩
  by_cases hji : j = i
  ·subst hji; exact hy.wpOp hi hS ⟨fun _ h => h, H⟩
  ·have h1 := H.2 j (ready_mono hj hji)
   obtain ⟨hjun, oj, hoj, hall⟩ := mem_ready.1 hj
   have hiun := (mem_ready.1 hr).1
   have hnot : ∀ e ∈ oj.after, Region.binds md e = true → e.on ≠ i := fun e he hb heq => by
    have h1 := hall e he hb
    rw [heq] at h1
    rcases Nat.lt_or_ge i listed.size with h' | h'
    ·simp [h'] at hiun h1; rw [hiun] at h1; cases h1
    ·simp [Array.getElem?_eq_none h'] at h1
   have hjd : j ∉ ds := fun hm => Region.reach_not_ready hc (hd j hm hjun) hiun hj
   have h2 := wpOp_putIf hoj (hfree j oj hoj hji hjun hnot) (fun cs b => hsel i oi cs b hi) (fun cs b => hsel j oj cs b hoj) hQ hy h1
   have hfree' : ∀ k ok, ops[k]? = some ok → k ≠ i → (listed.setIfInBounds j true).getD k true = false →
     (∀ e ∈ ok.after, Region.binds md e = true → e.on ≠ i) → oi.apart ops ok = true := fun k ok hk hki hun hno => by
    refine hfree k ok hk hki ?_ hno
    by_cases hjk : j = k
    ·subst hjk; exact hjun
    ·rw [getD_set_ne true hjk] at hun; exact hun
   have hd' : ∀ d ∈ ds, (listed.setIfInBounds j true).getD d true = false → Region.reachB md ops i n d = true := fun d hm hun => by
    refine hd d hm ?_
    by_cases hjk : j = d
    ·subst hjk; exact hjun
    ·rw [getD_set_ne true hjk] at hun; exact hun
   refine wpOp_mono (fun a' w' h3 => ⟨h3.2.1, ih (listed.setIfInBounds j true) a' w' hfree' (hc.set hj) hd' (ready_mono hr (Ne.symm hji)) h3.1 (h3.2.1 hjd hS) ?_⟩) h2
   rw [Array.setIfInBounds_comm _ _ hji]
   exact h3.2.2
theorem wpAnyLast_any {i : Nat} {oi : Oper} {v : Value} (hi : ops[i]? = some oi) (hsel : ∀ (j : Nat) (o : Oper) cs b, ops[j]? = some o → o.op ≠ .select cs b)
  (hQ : ∀ c a w, Q (.panic c) (a.put oi.dst v) w → Q (.panic c) a w) :
  ∀ (fuel : Nat) (listed : Array Bool) (a : Act) (w : World),
   (∀ j oj, ops[j]? = some oj → j ≠ i → listed.getD j true = false → (∀ e ∈ oj.after, Region.binds md e = true → e.on ≠ i) → oi.apart ops oj = true) →
   i ∈ Region.ready md ops listed → Yields P ops oi v a →
   wpAnyLast P md ops Q S ds fuel (listed.setIfInBounds i true) (a.put oi.dst v) w → wpAnyLast P md ops Q S ds (fuel + 1) listed a w := by
 intro fuel
 induction fuel with
 | zero =>
  intro listed a w _ hr hy H
  refine ⟨fun h => (by rw [h] at hr; cases hr), fun j hj => ?_⟩
  by_cases hji : j = i
  ·subst hji; exact (hy.yieldsIf (S := fun _ => True)).wpOp hi trivial ⟨fun _ h => h, H⟩
  ·have := ready_mono hj hji
   rw [H.1] at this
   cases this
 | succ fuel ih =>
  intro listed a w hfree hr hy H
  refine ⟨fun h => (by rw [h] at hr; cases hr), fun j hj => ?_⟩
  by_cases hji : j = i
  ·subst hji; exact (hy.yieldsIf (S := fun _ => True)).wpOp hi trivial ⟨fun _ h => h, H⟩
  ·have h1 := H.2 j (ready_mono hj hji)
   obtain ⟨hjun, oj, hoj, hall⟩ := mem_ready.1 hj
   have hiun := (mem_ready.1 hr).1
   have hnot : ∀ e ∈ oj.after, Region.binds md e = true → e.on ≠ i := fun e he hb heq => by
    have h1 := hall e he hb
    rw [heq] at h1
    rcases Nat.lt_or_ge i listed.size with h' | h'
    ·simp [h'] at hiun h1; rw [hiun] at h1; cases h1
    ·simp [Array.getElem?_eq_none h'] at h1
   have h2 := wpOp_put hoj (hfree j oj hoj hji hjun hnot) (fun cs b => hsel i oi cs b hi) (fun cs b => hsel j oj cs b hoj) hQ hy h1
   have hfree' : ∀ k ok, ops[k]? = some ok → k ≠ i → (listed.setIfInBounds j true).getD k true = false →
     (∀ e ∈ ok.after, Region.binds md e = true → e.on ≠ i) → oi.apart ops ok = true := fun k ok hk hki hun hno => by
    refine hfree k ok hk hki ?_ hno
    by_cases hjk : j = k
    ·subst hjk; exact hjun
    ·rw [getD_set_ne true hjk] at hun; exact hun
   refine wpOp_mono (fun a' w' h3 => ⟨h3.2.1, ih (listed.setIfInBounds j true) a' w' hfree' (ready_mono hr (Ne.symm hji)) h3.1 ?_⟩) h2
   rw [Array.setIfInBounds_comm _ _ hji]
   exact h3.2.2
theorem wpAnyLast_take {i : Nat} {oi : Oper} {v : Value} {fuel : Nat} {listed : Array Bool} {a : Act} {w : World} (hi : ops[i]? = some oi)
  (hs : Region.noSelect ops = true) (hf : Region.free md ops listed i = true) (hr : (Region.ready md ops listed).contains i = true)
  (hc : Region.closedB md ops listed = true) (hl : Region.lastB md ops listed ds i = true)
  (hQ : ∀ c a w, Q (.panic c) (a.put oi.dst v) w → Q (.panic c) a w) (hy : YieldsIf P ops S oi v a) (hS : S w)
  (h : wpAnyLast P md ops Q S ds fuel (listed.setIfInBounds i true) (a.put oi.dst v) w) : wpAnyLast P md ops Q S ds (fuel + 1) listed a w :=
 wpAnyLast_first hi (Region.noSelect_spec hs) hQ ops.size fuel listed a w (Region.free_spec hi hf) (Region.closedB_spec hc)
  (fun d hm hun => by have := List.all_eq_true.1 hl d hm; rw [hun] at this; simpa using this) (by simpa using hr) hy hS h
theorem wpAnyLast_all {rs : List Nat} {fuel : Nat} {listed : Array Bool} {a : Act} {w : World} (hr : Region.ready md ops listed = rs) (hne : rs ≠ [])
  (h : ∀ i ∈ rs, wpOp P ops Q i (fun a' w' => (i ∉ ds → S w → S w') ∧ wpAnyLast P md ops Q S ds fuel (listed.setIfInBounds i true) a' w') a w) : wpAnyLast P md ops Q S ds (fuel + 1) listed a w :=
 ⟨fun h0 => absurd (hr ▸ h0) hne, hr ▸ h⟩
theorem wpAnyLast_done {listed : Array Bool} {a : Act} {w : World} (hr : Region.ready md ops listed = []) (h : Q .normal a w) :
  ∀ fuel, wpAnyLast P md ops Q S ds fuel listed a w
 | 0 => ⟨hr, h⟩
 | _ + 1 => ⟨fun _ => h, by rw [hr]; simp⟩
theorem wp_region_last {id : Nat} {a : Act} {w : World} (hm : P.follows .mixedOrders = true)
  (h : wpAnyLast P .any ops Q S ds ops.size (Array.replicate ops.size false) a { w with drawn := w.drawn + 1 }) : (Code.region id ops true).wp P Q a w :=
 wp_region_any hm (wpAny_of_last _ _ _ _ h)
end
section
variable {P : Program} {ops : Array Oper} {Q : Exit → Act → World → Prop} {md : Region.Mode} {S : World → Prop} {ds : List Nat}
def AllReadyL (P : Program) (md : Region.Mode) (ops : Array Oper) (Q : Exit → Act → World → Prop) (S : World → Prop) (ds : List Nat) (fuel : Nat) (listed : Array Bool) (a : Act) (w : World) (rs : List Nat) : Prop :=
 ∀ i ∈ rs, wpOp P ops Q i (fun a' w' => (i ∉ ds → S w → S w') ∧ wpAnyLast P md ops Q S ds fuel (listed.setIfInBounds i true) a' w') a w
theorem AllReadyL.nil {fuel : Nat} {listed : Array Bool} {a : Act} {w : World} : AllReadyL P md ops Q S ds fuel listed a w [] := fun _ h => by cases h
theorem AllReadyL.cons {fuel : Nat} {listed : Array Bool} {a : Act} {w : World} {i : Nat} {o : Oper} {rs : List Nat} (ho : ops[i]? = some o) (hd : i ∉ ds)
  (h : ∀ K' : Act → World → Prop, Shut (∀ a w, S w → (S w → wpAnyLast P md ops Q S ds fuel (listed.setIfInBounds i true) a w) → K' a w) → if Region.wanted o (yielded ops a.tmps) = true then Oper.wp P o a w K' Q else K' (a.put o.dst undef) w)
  (hs : AllReadyL P md ops Q S ds fuel listed a w rs) : AllReadyL P md ops Q S ds fuel listed a w (i :: rs) := fun j hj => by
 rcases List.mem_cons.1 hj with rfl | hj
 ·exact wpOp_step ho (fun K' hK => h K' (fun a w hS hW => hK a w ⟨fun _ _ => hS, hW hS⟩))
 ·exact hs j hj
theorem AllReadyL.cons_last {fuel : Nat} {listed : Array Bool} {a : Act} {w : World} {i : Nat} {o : Oper} {rs : List Nat} (ho : ops[i]? = some o) (hd : i ∈ ds)
  (h : ∀ K' : Act → World → Prop, Shut (∀ a w, wpAnyLast P md ops Q S ds fuel (listed.setIfInBounds i true) a w → K' a w) → if Region.wanted o (yielded ops a.tmps) = true then Oper.wp P o a w K' Q else K' (a.put o.dst undef) w)
  (hs : AllReadyL P md ops Q S ds fuel listed a w rs) : AllReadyL P md ops Q S ds fuel listed a w (i :: rs) := fun j hj => by
 rcases List.mem_cons.1 hj with rfl | hj
 ·exact wpOp_step ho (fun K' hK => h K' (fun a w hW => hK a w ⟨fun hn => absurd hd hn, hW⟩))
 ·exact hs j hj
theorem wpAnyLast_ready {rs : List Nat} {fuel : Nat} {listed : Array Bool} {a : Act} {w : World} (hr : Region.ready md ops listed = rs) (hne : rs ≠ [])
  (h : AllReadyL P md ops Q S ds fuel listed a w rs) : wpAnyLast P md ops Q S ds (fuel + 1) listed a w := wpAnyLast_all hr hne h
theorem start_ {id n : Nat} {a : Act} {w : World} (l : Array Bool) (hm : P.follows .mixedOrders = true) (hn : ops.size = n) (hl : Array.replicate n false = l) (hS : S w.drew)
  (h : S w.drew → wpAnyLast P .any ops Q S ds n l a w.drew) : (Code.region id ops true).wp P Q a w := by
 subst hn
 subst hl
 exact wp_region_last hm (h hS)
def takeB (md : Region.Mode) (ops : Array Oper) (ds : List Nat) (l l' : Array Bool) (i : Nat) : Bool :=
 Region.noSelect ops && Region.free md ops l i && (Region.ready md ops l).contains i && Region.closedB md ops l && Region.lastB md ops l ds i && (l.setIfInBounds i true == l')
theorem take_ {i : Nat} {N : Option Tmp} {oi : Oper} {v : Value} {fuel : Nat} {l : Array Bool} {a : Act} {w : World} (l' : Array Bool) (hi : ops[i]? = some oi) (hN : oi.dst = N) (hc : takeB md ops ds l l' i = true)
  (hQ : ∀ c a w, Q (.panic c) (a.put oi.dst v) w → Q (.panic c) a w) (hy : YieldsIf P ops S oi v a) (hS : S w) {a' : Act} (ha : a.put N v = a')
  (h : wpAnyLast P md ops Q S ds fuel l' a' w) : wpAnyLast P md ops Q S ds (fuel + 1) l a w := by
 subst ha
 subst hN
 simp only [takeB, Bool.and_eq_true, beq_iff_eq] at hc
 obtain ⟨⟨⟨⟨⟨h1, h2⟩, h3⟩, h4⟩, h5⟩, h6⟩ := hc
 subst h6
 exact wpAnyLast_take hi h1 h2 h3 h4 h5 hQ hy hS h
def anyB (md : Region.Mode) (ops : Array Oper) (l l' : Array Bool) (i : Nat) : Bool :=
 Region.noSelect ops && Region.free md ops l i && (Region.ready md ops l).contains i && (l.setIfInBounds i true == l')
theorem pure_ {i : Nat} {N : Option Tmp} {oi : Oper} {v : Value} {fuel : Nat} {l : Array Bool} {a : Act} {w : World} (l' : Array Bool) (hi : ops[i]? = some oi) (hN : oi.dst = N) (hc : anyB md ops l l' i = true)
  (hQ : ∀ c a w, Q (.panic c) (a.put oi.dst v) w → Q (.panic c) a w) (hy : Yields P ops oi v a) {a' : Act} (ha : a.put N v = a')
  (h : wpAnyLast P md ops Q S ds fuel l' a' w) : wpAnyLast P md ops Q S ds (fuel + 1) l a w := by
 subst ha
 subst hN
 simp only [anyB, Bool.and_eq_true, beq_iff_eq] at hc
 obtain ⟨⟨⟨h1, h2⟩, h3⟩, h6⟩ := hc
 subst h6
 exact wpAnyLast_any hi (Region.noSelect_spec h1) hQ fuel l a w (Region.free_spec hi h2) (by simpa using h3) hy h
def readyB (md : Region.Mode) (ops : Array Oper) (l l' : Array Bool) (i : Nat) : Bool := (Region.ready md ops l == [i]) && (l.setIfInBounds i true == l')
theorem one_ {i : Nat} {N : Option Tmp} {oi : Oper} {fuel : Nat} {l : Array Bool} {a : Act} {w : World} (l' : Array Bool) (hi : ops[i]? = some oi) (hN : oi.dst = N) (hc : readyB md ops l l' i = true) (hd : i ∉ ds)
  (h : ∀ K : Act → World → Prop, Shut (∀ a' w', S w' → (S w' → wpAnyLast P md ops Q S ds fuel l' a' w') → K a' w') → if Region.wanted oi (yielded ops a.tmps) = true then Oper.wp P oi a w K Q else K (a.put N undef) w) :
  wpAnyLast P md ops Q S ds (fuel + 1) l a w := by
 subst hN
 simp only [readyB, Bool.and_eq_true, beq_iff_eq] at hc
 obtain ⟨h1, h2⟩ := hc
 subst h2
 exact wpAnyLast_ready h1 (by simp) (AllReadyL.cons hi hd (fun K hK => h K hK) AllReadyL.nil)
theorem last_ {i : Nat} {N : Option Tmp} {oi : Oper} {fuel : Nat} {l : Array Bool} {a : Act} {w : World} (l' : Array Bool) (hi : ops[i]? = some oi) (hN : oi.dst = N) (hc : readyB md ops l l' i = true) (hd : i ∈ ds)
  (h : ∀ K : Act → World → Prop, Shut (∀ a' w', wpAnyLast P md ops Q S ds fuel l' a' w' → K a' w') → if Region.wanted oi (yielded ops a.tmps) = true then Oper.wp P oi a w K Q else K (a.put N undef) w) :
  wpAnyLast P md ops Q S ds (fuel + 1) l a w := by
 subst hN
 simp only [readyB, Bool.and_eq_true, beq_iff_eq] at hc
 obtain ⟨h1, h2⟩ := hc
 subst h2
 exact wpAnyLast_ready h1 (by simp) (AllReadyL.cons_last hi hd (fun K hK => h K hK) AllReadyL.nil)
theorem done_ {l : Array Bool} {a : Act} {w : World} {n : Nat} (hr : (Region.ready md ops l == []) = true) (h : Q .normal a w) : wpAnyLast P md ops Q S ds n l a w := wpAnyLast_done (by simpa using hr) h n
theorem norm_ {fuel : Nat} {l : Array Bool} {a a' : Act} {w : World} (ha : a = a') (h : wpAnyLast P md ops Q S ds fuel l a' w) : wpAnyLast P md ops Q S ds fuel l a w := by
 subst ha
 exact h
theorem call_ {oi : Oper} {N : Option Tmp} {a : Act} {w : World} {K : Act → World → Prop} (f : FuncId) (args : Array Value) (hw : Region.wanted oi (yielded ops a.tmps) = true) (hN : oi.dst = N) (hrun : (execOp a.eval oi).run P w = .ok (.enter f args) w)
  (h : Calls P f args w fun e w' => ∃ v, e = .returned v ∧ K (a.put N v) w') : if Region.wanted oi (yielded ops a.tmps) = true then Oper.wp P oi a w K Q else K (a.put N undef) w := by
 rw [if_pos hw]
 subst hN
 unfold Oper.wp
 rw [hrun, Oper.upon_enter]
 refine h.mono fun e w'' hh => ?_
 obtain ⟨v, rfl, hk⟩ := hh
 exact hk
theorem enters_ {f : FuncId} {fn : Func} (hf : P.funcs[f]? = some fn) (hname : (fn.name == "runtime.NumGoroutine") = false) (hb : fn.body.isSome = true) (args : Array Value) (w : World) : (callFunc f args).run P w = .ok (.enter f args) w := by
 have h1 : fn.name ≠ "runtime.NumGoroutine" := by simpa using hname
 obtain ⟨c, hc⟩ := Option.isSome_iff_exists.1 hb
 simp [callFunc, hf, h1, hc]
theorem goes_ {oi : Oper} {N : Option Tmp} {a : Act} {w : World} {K : Act → World → Prop} {f : FuncId} {fn : Func} {as : Array Operand} {ts : Array TypeId} (hf : P.funcs[f]? = some fn) (hname : (fn.name == "runtime.NumGoroutine") = false) (hb : fn.body.isSome = true) (args : Array Value)
  (hw : Region.wanted oi (yielded ops a.tmps) = true) (hN : oi.dst = N) (hop : oi.op = .call { callee := .value (.func f), args := as, argTypes := ts }) (hargs : as.map a.eval = args)
  (h : Calls P f args w fun e w' => ∃ v, e = .returned v ∧ K (a.put N v) w') : if Region.wanted oi (yielded ops a.tmps) = true then Oper.wp P oi a w K Q else K (a.put N undef) w := by
 refine call_ f args hw hN ?_ h
 have he := enters_ hf hname hb args w
 unfold execOp
 simp [hop, resolve, Deferred.ofValue, invoke, Act.eval, hargs, he]
theorem goesL_ {rest : List Oper} {oi : Oper} {a : Act} {w : World} (N : Option Tmp) (hd : oi.dst = N) (hg : oi.guard = none) {f : FuncId} {fn : Func} {as : Array Operand} {ts : Array TypeId} (hf : P.funcs[f]? = some fn) (hname : (fn.name == "runtime.NumGoroutine") = false) (hb : fn.body.isSome = true) (args : Array Value)
  (hop : oi.op = .call { callee := .value (.func f), args := as, argTypes := ts }) (hargs : as.map a.eval = args)
  (h : Calls P f args w fun e w' => ∃ v, e = .returned v ∧ wpList P ops Q rest (a.put N v) w') : wpList P ops Q (oi :: rest) a w := by
 refine wpList_plain hg fun K hK => ?_
 have he := enters_ hf hname hb args w
 have hrun : (execOp a.eval oi).run P w = .ok (.enter f args) w := by
  unfold execOp
  simp [hop, resolve, Deferred.ofValue, invoke, Act.eval, hargs, he]
 unfold Oper.wp
 rw [hrun, Oper.upon_enter]
 refine h.mono fun e w'' hh => ?_
 obtain ⟨v, rfl, hk⟩ := hh
 subst hd
 exact hK _ _ hk
theorem value_ {oi : Oper} {N : Option Tmp} {a : Act} {w w1 : World} {v : Value} {K : Act → World → Prop} (hw : Region.wanted oi (yielded ops a.tmps) = true) (hN : oi.dst = N) (hrun : (execOp a.eval oi).run P w = .ok (.value v) w1)
  (h : K (a.put N v) w1) : if Region.wanted oi (yielded ops a.tmps) = true then Oper.wp P oi a w K Q else K (a.put N undef) w := by
 rw [if_pos hw]
 subst hN
 unfold Oper.wp
 rw [hrun]
 exact h
theorem skip_ {oi : Oper} {a : Act} {w w1 : World} {K : Act → World → Prop} (hw : Region.wanted oi (yielded ops a.tmps) = true) (hN : oi.dst = none) (hrun : (execOp a.eval oi).run P w = .ok .skip w1)
  (h : K a w1) : if Region.wanted oi (yielded ops a.tmps) = true then Oper.wp P oi a w K Q else K (a.put none undef) w := by
 rw [if_pos hw]
 unfold Oper.wp
 rw [hrun]
 show K (a.put oi.dst undef) w1
 rw [hN]
 exact h
theorem i64_w (n : Int) : IntKind.i64.wrap n = Go.RowKit.wrap64 n := by unfold Go.RowKit.wrap64; exact IntKind.wrap_i64 n
theorem i32_w (n : Int) : IntKind.i32.wrap n = Go.RowKit.wrap32 n := by unfold Go.RowKit.wrap32; exact IntKind.wrap_i32 n
end
end Go.Proofs.YtlhoahbpklhpmaaGreatDoorW.PrintLast
end
section

namespace Go.Proofs.YtlhoahbpklhpmaaGreatDoor
open Go.Lib
set_option linter.unusedVariables false
def Bad (l : Bs) : Prop := (decodeL l).1 = 65533 ∧ (decodeL l).2 = 1
instance (l : Bs) : Decidable (Bad l) := inferInstanceAs (Decidable ((decodeL l).1 = 65533 ∧ (decodeL l).2 = 1))
def ValidR (r : Int) : Prop := (0 ≤ r ∧ r < 55296) ∨ (57343 < r ∧ r ≤ 1114111)
instance (r : Int) : Decidable (ValidR r) := inferInstanceAs (Decidable ((0 ≤ r ∧ r < 55296) ∨ (57343 < r ∧ r ≤ 1114111)))
theorem valid_step {l : Bs} (hne : l ≠ []) : validD l = if Bad l then false else validD (l.drop (decodeL l).2) := validD_step l hne
theorem byte_toNat {z : Int} {n : Nat} (h : z.toNat = n) (h1 : n < 256) : (z.toNat.toUInt8).toNat = n := by
 rw [h]
 show (UInt8.ofNat n).toNat = n
 rw [UInt8.toNat_ofNat']; omega
theorem encode_len (r : Int) : 1 ≤ (encodeRune r).length ∧ (encodeRune r).length ≤ 4 := by
 have := encodeRuneZ_length r
 simpa [encodeRune] using this
theorem decode_valid {l : Bs} (hne : l ≠ []) (hb : ¬ Bad l) : ValidR ((decodeL l).1 : Int) := by
 unfold Bad at hb
 unfold ValidR
 rw [decodeL_N] at hb ⊢
 have k0 := (l.getD 0 0).toNat_lt
 rcases decodeN_shape l.length (l.getD 0 0).toNat (l.getD 1 0).toNat (l.getD 2 0).toNat (l.getD 3 0).toNat with ⟨c, e⟩ | ⟨c1, c2, c3, cv, e⟩ | ⟨c1, c2, c3, c4, cv, cs, e⟩ | ⟨c1, c2, c3, c4, c5, cv, cw, e⟩ | e
 ·rw [e]; dsimp only; omega
 ·rw [e]; dsimp only; omega
 ·rw [e]; dsimp only; omega
 ·rw [e]; dsimp only; omega
 ·rw [e] at hb; exact absurd ⟨rfl, rfl⟩ hb
theorem take_encode {l : Bs} (hne : l ≠ []) (hb : ¬ Bad l) : encodeRune ((decodeL l).1 : Int) ++ l.drop (decodeL l).2 = l := by
 rw [encode_decode l hne hb, List.take_append_drop]
def runesGo : Nat → Bs → List Int
 | 0, _ => []
 | n + 1, l => if l = [] then [] else ((decodeL l).1 : Int) :: runesGo n (l.drop (decodeL l).2)
def runesD (l : Bs) : List Int := runesGo l.length l
theorem runesGo_nil : ∀ n, runesGo n [] = []
 | 0 => rfl
 | _ + 1 => by simp [runesGo]
theorem runesGo_fuel : ∀ (n m : Nat) (l : Bs), l.length ≤ n → l.length ≤ m → runesGo n l = runesGo m l
 | 0, m, l, hn, _ => by
  have : l = [] := List.eq_nil_of_length_eq_zero (by omega)
  subst this
  rw [runesGo_nil, runesGo_nil]
 | n + 1, 0, l, _, hm => by
  have : l = [] := List.eq_nil_of_length_eq_zero (by omega)
  subst this
  rw [runesGo_nil, runesGo_nil]
 | n + 1, m + 1, l, hn, hm => by
  unfold runesGo
  by_cases hne : l = []
  ·simp [hne]
  ·have hw := decodeL_width l
   have hl : 0 < l.length := List.length_pos_iff.2 hne
   rw [if_neg hne, if_neg hne, runesGo_fuel n m (l.drop (decodeL l).2) (by rw [List.length_drop]; omega) (by rw [List.length_drop]; omega)]
theorem runesD_nil : runesD [] = [] := rfl
theorem runesD_step {l : Bs} (hne : l ≠ []) : runesD l = ((decodeL l).1 : Int) :: runesD (l.drop (decodeL l).2) := by
 have hl : 0 < l.length := List.length_pos_iff.2 hne
 have hw := decodeL_width l
 obtain ⟨n, hn⟩ : ∃ n, l.length = n + 1 := ⟨l.length - 1, by omega⟩
 unfold runesD
 rw [hn]
 show (if l = [] then [] else _) = _
 rw [if_neg hne, runesGo_fuel n (l.drop (decodeL l).2).length _ (by rw [List.length_drop]; omega) (Nat.le_refl _)]
theorem steps_ind {p : Bs → Prop} (h0 : p []) (h1 : ∀ l, l ≠ [] → p (l.drop (decodeL l).2) → p l) (l : Bs) : p l := by
 have : ∀ n (l : Bs), l.length ≤ n → p l := by
  intro n
  induction n with
  | zero => intro l hl; rw [List.eq_nil_of_length_eq_zero (by omega : l.length = 0)]; exact h0
  | succ n ih =>
   intro l hl
   by_cases hne : l = []
   ·rw [hne]; exact h0
   ·have hw := decodeL_width l
    have hp : 0 < l.length := List.length_pos_iff.2 hne
    exact h1 l hne (ih _ (by rw [List.length_drop]; omega))
 exact this l.length l (Nat.le_refl _)
theorem runesD_len (l : Bs) : (runesD l).length ≤ l.length := by
 refine steps_ind (p := fun l => (runesD l).length ≤ l.length) (Nat.le_refl _) (fun l hne ih => ?_) l
 have hp : 0 < l.length := List.length_pos_iff.2 hne
 have hw := decodeL_width l
 rw [runesD_step hne, List.length_cons]
 rw [List.length_drop] at ih
 omega
def makeD (rs : List Int) : Bs := rs.flatMap encodeRune
theorem makeD_nil : makeD [] = [] := rfl
theorem makeD_cons (r : Int) (rs : List Int) : makeD (r :: rs) = encodeRune r ++ makeD rs := rfl
theorem make_runes {l : Bs} (h : validD l = true) : makeD (runesD l) = l ∧ ∀ r ∈ runesD l, ValidR r := by
 refine steps_ind (p := fun l => validD l = true → makeD (runesD l) = l ∧ ∀ r ∈ runesD l, ValidR r) (fun _ => ⟨rfl, fun r hr => by simp [runesD_nil] at hr⟩) (fun l hne ih hv => ?_) l h
 rw [valid_step hne] at hv
 by_cases hb : Bad l
 ·rw [if_pos hb] at hv; simp at hv
 ·rw [if_neg hb] at hv
  obtain ⟨i1, i2⟩ := ih hv
  rw [runesD_step hne, makeD_cons, i1]
  refine ⟨take_encode hne hb, fun r hr => ?_⟩
  rcases List.mem_cons.1 hr with rfl | hr
  ·exact decode_valid hne hb
  ·exact i2 r hr
def letterZ (r : Int) : Bool := decide (97 ≤ r ∧ r ≤ 122) || decide (48 ≤ r ∧ r ≤ 57) || decide (r = 45) || decide (223 ≤ r ∧ r ≤ 246) || decide (248 ≤ r ∧ r ≤ 255) || decide (945 ≤ r ∧ r ≤ 969) || decide (1072 ≤ r ∧ r ≤ 1103)
def rightN (l : Bs) : Bool := validD l && (runesD l).all letterZ && decide (1 ≤ (runesD l).length ∧ (runesD l).length ≤ 32)
theorem right_inv1 {l : Bs} (h : rightN l = true) : validD l = true ∧ (∀ r ∈ runesD l, letterZ r = true) ∧ 1 ≤ (runesD l).length ∧ (runesD l).length ≤ 32 := by
 unfold rightN at h
 simp only [Bool.and_eq_true, List.all_eq_true, decide_eq_true_eq] at h
 exact ⟨h.1.1, h.1.2, h.2.1, h.2.2⟩
theorem right_nil : rightN [] = false := by decide
theorem right_len {l : Bs} (h : rightN l = true) : l.length ≤ 128 := by
 obtain ⟨h1, h2, h3, h4⟩ := right_inv1 h
 have hm := (make_runes h1).1
 have : ∀ rs : List Int, (makeD rs).length ≤ 4 * rs.length := by
  intro rs
  induction rs with
  | nil => simp [makeD_nil]
  | cons r rs ih => have := encode_len r; rw [makeD_cons, List.length_append, List.length_cons]; omega
 have := this (runesD l)
 rw [hm] at this
 omega
end Go.Proofs.YtlhoahbpklhpmaaGreatDoor
end
