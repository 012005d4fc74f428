/- Terms in plain Lean: numbers and texts as bytes, terms as trees, their bytes, and how bytes are read as terms. No program is in sight. -/
import Derived.Test.YtnieihhnchefdaaBytes
namespace Go.Proofs.Ytnieihhnchefdaa
set_option linter.unusedVariables false

theorem head_app {l r : Bs} (h : l ≠ []) : (l ++ r).head? = l.head? := by
  cases l with
  | nil => exact absurd rfl h
  | cons c l => rfl

/-! ### Numbers -/
def beBytes (n : Nat) : Bs := if h : n = 0 then [] else beBytes (n / 256) ++ [UInt8.ofNat (n % 256)]
termination_by n
decreasing_by omega
theorem beBytes_zero : beBytes 0 = [] := by rw [beBytes]; simp
theorem beBytes_pos {n : Nat} (h : n ≠ 0) : beBytes n = beBytes (n / 256) ++ [UInt8.ofNat (n % 256)] := by rw [beBytes]; simp [h]
theorem toNat_mod (n : Nat) : (UInt8.ofNat (n % 256)).toNat = n % 256 := by
  rw [UInt8.toNat_ofNat']
  omega
theorem beNum_beBytes (n : Nat) : beNum (beBytes n) = n := by
  induction n using Nat.strongRecOn with
  | _ n ih =>
    by_cases h : n = 0
    · subst h; rw [beBytes_zero]; rfl
    · rw [beBytes_pos h, beNum_snoc, ih (n / 256) (by omega), toNat_mod]
      omega
theorem beBytes_len (k n : Nat) (h : n < 256 ^ k) : (beBytes n).length ≤ k := by
  induction k generalizing n with
  | zero =>
    have : n = 0 := by simpa using h
    subst this
    rw [beBytes_zero]; simp
  | succ k ih =>
    by_cases h0 : n = 0
    · subst h0; rw [beBytes_zero]; simp
    · rw [beBytes_pos h0, List.length_append, List.length_singleton]
      have := ih (n / 256) (by rw [Nat.pow_succ] at h; omega)
      omega
theorem beBytes_len8 {n : Nat} (h : n < 18446744073709551616) : (beBytes n).length ≤ 8 := beBytes_len 8 n (by simpa using h)
theorem beBytes_head (n : Nat) : (beBytes n).head? ≠ some 0 := by
  induction n using Nat.strongRecOn with
  | _ n ih =>
    by_cases h : n = 0
    · subst h; rw [beBytes_zero]; simp
    · rw [beBytes_pos h]
      by_cases h2 : n / 256 = 0
      · rw [h2, beBytes_zero]
        intro e
        have e2 : UInt8.ofNat (n % 256) = 0 := by simpa using e
        have := congrArg UInt8.toNat e2
        rw [toNat_mod] at this
        have h3 : (0 : UInt8).toNat = 0 := rfl
        omega
      · have h4 : beBytes (n / 256) ≠ [] := by
          intro e
          have := beNum_beBytes (n / 256)
          rw [e] at this
          exact h2 this.symm
        rw [head_app h4]
        exact ih (n / 256) (by omega)
theorem beBytes_beNum (l : Bs) (h : l.head? ≠ some 0) : beBytes (beNum l) = l := by
  induction l using snoc_ind with
  | h0 => rw [beNum_nil, beBytes_zero]
  | h1 l b ih =>
    rw [beNum_snoc]
    have hb := b.toNat_lt
    by_cases hl : l = []
    · subst hl
      have hb0 : b ≠ 0 := fun e => h (by rw [e]; rfl)
      have hb1 : b.toNat ≠ 0 := fun e => hb0 (UInt8.toNat_inj.1 e)
      rw [beNum_nil, Nat.zero_mul, Nat.zero_add, beBytes_pos hb1, show b.toNat / 256 = 0 from by omega, beBytes_zero, show b.toNat % 256 = b.toNat from by omega, UInt8.ofNat_toNat]
    · rw [head_app hl] at h
      have ih := ih h
      have hn : beNum l ≠ 0 := by
        intro e
        rw [e, beBytes_zero] at ih
        exact hl ih.symm
      rw [beBytes_pos (by omega), show (beNum l * 256 + b.toNat) / 256 = beNum l from by omega, ih, show (beNum l * 256 + b.toNat) % 256 = b.toNat from by omega, UInt8.ofNat_toNat]

def putL (n : Nat) : Bs := UInt8.ofNat (beBytes n).length :: beBytes n
theorem putL_len {n : Nat} (h : n < 18446744073709551616) : (putL n).length ≤ 9 := by
  have := beBytes_len8 h
  simp only [putL, List.length_cons]; omega
theorem ofNat_small {k : Nat} (h : k ≤ 8) : (UInt8.ofNat k).toNat = k := by
  rw [UInt8.toNat_ofNat']
  omega
theorem take_put {n : Nat} (h : n < 18446744073709551616) (r : Bs) : takeL (putL n ++ r) = some (n, r) := by
  have h8 := beBytes_len8 h
  have hc := ofNat_small h8
  simp only [putL, List.cons_append, takeL]
  rw [hc, if_neg (by omega), if_neg (by rw [List.length_append]; omega), if_neg, List.take_left, List.drop_left, beNum_beBytes]
  rintro ⟨h1, h2⟩
  rw [head_app (fun e => by rw [e] at h1; simp at h1)] at h2
  exact beBytes_head n h2
theorem take_inv {l r : Bs} {n : Nat} (h : takeL l = some (n, r)) : l = putL n ++ r ∧ n < 18446744073709551616 := by
  cases l with
  | nil => simp [takeL] at h
  | cons c t =>
    simp only [takeL] at h
    by_cases h1 : 8 < c.toNat
    · rw [if_pos h1] at h; simp at h
    rw [if_neg h1] at h
    by_cases h2 : t.length < c.toNat
    · rw [if_pos h2] at h; simp at h
    rw [if_neg h2] at h
    by_cases h3 : 0 < c.toNat ∧ t.head? = some 0
    · rw [if_pos h3] at h; simp at h
    rw [if_neg h3] at h
    simp only [Option.some.injEq, Prod.mk.injEq] at h
    obtain ⟨rfl, rfl⟩ := h
    have hh : (t.take c.toNat).head? ≠ some 0 := by
      intro e
      by_cases h0 : c.toNat = 0
      · rw [h0] at e; simp at e
      · rw [List.head?_take, if_neg h0] at e
        exact h3 ⟨by omega, e⟩
    have hlen : (t.take c.toNat).length = c.toNat := by rw [List.length_take]; omega
    refine ⟨?_, ?_⟩
    · unfold putL
      rw [beBytes_beNum _ hh, hlen, UInt8.ofNat_toNat, List.cons_append, List.take_append_drop]
    · have := beNum_lt (t.take c.toNat)
      rw [hlen] at this
      have h4 : 256 ^ c.toNat ≤ 256 ^ 8 := Nat.pow_le_pow_right (by decide) (by omega)
      have h5 : (256 : Nat) ^ 8 = 18446744073709551616 := by decide
      omega
theorem putL_inj {n m : Nat} (hn : n < 18446744073709551616) (hm : m < 18446744073709551616) (h : putL n = putL m) : n = m := by
  have h1 := take_put hn []
  rw [h, take_put hm] at h1
  simpa using h1.symm

/-! ### Texts -/
def putT (s : Bs) : Bs := putL s.length ++ s
def takeT (most : Nat) (l : Bs) : Option (Bs × Bs) :=
  match takeL l with
  | none => none
  | some (n, r) => if most < n then none else if r.length < n then none else some (r.take n, r.drop n)
theorem takeT_put {most : Nat} {s : Bs} (h : s.length ≤ most) (h2 : s.length < 18446744073709551616) (r : Bs) : takeT most (putT s ++ r) = some (s, r) := by
  unfold takeT putT
  rw [List.append_assoc, take_put h2]
  simp only
  rw [if_neg (by omega), if_neg (by rw [List.length_append]; omega), List.take_left, List.drop_left]
theorem takeT_inv {most : Nat} {l s r : Bs} (h : takeT most l = some (s, r)) : l = putT s ++ r ∧ s.length ≤ most := by
  unfold takeT at h
  cases h1 : takeL l with
  | none => rw [h1] at h; simp at h
  | some x =>
    obtain ⟨n, q⟩ := x
    rw [h1] at h
    simp only at h
    by_cases h2 : most < n
    · rw [if_pos h2] at h; simp at h
    rw [if_neg h2] at h
    by_cases h3 : q.length < n
    · rw [if_pos h3] at h; simp at h
    rw [if_neg h3] at h
    simp only [Option.some.injEq, Prod.mk.injEq] at h
    obtain ⟨rfl, rfl⟩ := h
    obtain ⟨h4, h5⟩ := take_inv h1
    have hl : (q.take n).length = n := by rw [List.length_take]; omega
    refine ⟨?_, by omega⟩
    unfold putT
    rw [hl, List.append_assoc, List.take_append_drop, h4]

/-! ### Terms -/
inductive K1 | h | u
  deriving DecidableEq
inductive K2 | p | s | b | g
  deriving DecidableEq
def K1.code : K1 → UInt8 | .h => 104 | .u => 117
def K2.code : K2 → UInt8 | .p => 112 | .s => 115 | .b => 98 | .g => 103
inductive T where
  | atom (n : Nat)
  | text (s : Bs)
  | one (k : K1) (a : T)
  | two (k : K2) (a b : T)
  deriving DecidableEq
def enc : T → Bs
  | .atom n => 97 :: putL n
  | .text s => 116 :: putT s
  | .one k a => k.code :: enc a
  | .two k a b => k.code :: (enc a ++ enc b)
def T.isPub : T → Bool | .one .u _ => true | _ => false
/-- A term of at most that depth whose numbers fit, whose texts are not too long, and whose boxes are for a public term. -/
def ok : Nat → T → Prop
  | 0, _ => False
  | _ + 1, .atom n => n < 18446744073709551616
  | _ + 1, .text s => s.length ≤ 4000
  | d + 1, .one _ a => ok d a
  | d + 1, .two k a b => ok d a ∧ ok d b ∧ (k = .b → a.isPub = true)
def kind1 (c : UInt8) : Option K1 := if c = 104 then some .h else if c = 117 then some .u else none
def kind2 (c : UInt8) : Option K2 := if c = 112 then some .p else if c = 115 then some .s else if c = 98 then some .b else if c = 103 then some .g else none
theorem kind1_code (k : K1) : kind1 k.code = some k := by cases k <;> rfl
theorem kind2_code (k : K2) : kind2 k.code = some k := by cases k <;> rfl
theorem kind1_k2 (k : K2) : kind1 k.code = none := by cases k <;> rfl
theorem kind1_inv {c : UInt8} {k : K1} (h : kind1 c = some k) : c = k.code := by
  unfold kind1 at h
  split at h
  · rename_i e; subst e; rw [← Option.some.inj h]; rfl
  · split at h
    · rename_i e; subst e; rw [← Option.some.inj h]; rfl
    · simp at h
theorem kind2_inv {c : UInt8} {k : K2} (h : kind2 c = some k) : c = k.code := by
  unfold kind2 at h
  split at h
  · rename_i e; subst e; rw [← Option.some.inj h]; rfl
  · split at h
    · rename_i e; subst e; rw [← Option.some.inj h]; rfl
    · split at h
      · rename_i e; subst e; rw [← Option.some.inj h]; rfl
      · split at h
        · rename_i e; subst e; rw [← Option.some.inj h]; rfl
        · simp at h

/-- The term that bytes begin with, at most so deep, and what is behind it. -/
def parse : Nat → Bs → Option (T × Bs)
  | 0, _ => none
  | _ + 1, [] => none
  | d + 1, c :: l =>
    if c = 97 then (takeL l).map fun x => (.atom x.1, x.2)
    else if c = 116 then (takeT 4000 l).map fun x => (.text x.1, x.2)
    else match kind1 c with
      | some k => (parse d l).map fun x => (.one k x.1, x.2)
      | none => match kind2 c with
        | some k => (parse d l).bind fun x => (parse d x.2).bind fun y => if k = .b ∧ x.1.isPub = false then none else some (.two k x.1 y.1, y.2)
        | none => none

theorem parse_enc (d : Nat) (t : T) (r : Bs) (h : ok d t) : parse d (enc t ++ r) = some (t, r) := by
  induction d generalizing t r with
  | zero => exact absurd h (by simp [ok])
  | succ d ih =>
    cases t with
    | atom n =>
      simp only [enc, List.cons_append, parse]
      rw [if_pos trivial, take_put h]; rfl
    | text s =>
      have h : s.length ≤ 4000 := h
      show (if (116 : UInt8) = 97 then _ else if (116 : UInt8) = 116 then (takeT 4000 (putT s ++ r)).map _ else _) = _
      rw [if_neg (by decide), if_pos rfl, takeT_put h (by omega)]; rfl
    | one k a =>
      simp only [enc, List.cons_append, parse]
      rw [if_neg (by cases k <;> decide), if_neg (by cases k <;> decide), kind1_code]
      simp only
      rw [ih a r h]; rfl
    | two k a b =>
      obtain ⟨h1, h2, h3⟩ := h
      simp only [enc, List.cons_append, parse]
      rw [if_neg (by cases k <;> decide), if_neg (by cases k <;> decide), kind1_k2, kind2_code]
      simp only
      rw [List.append_assoc, ih a _ h1]
      simp only [Option.bind_some]
      rw [ih b _ h2]
      simp only [Option.bind_some]
      rw [if_neg]
      rintro ⟨e1, e2⟩
      rw [h3 e1] at e2
      simp at e2
theorem parse_inv (d : Nat) (l : Bs) (t : T) (r : Bs) (h : parse d l = some (t, r)) : l = enc t ++ r ∧ ok d t := by
  induction d generalizing l t r with
  | zero => simp [parse] at h
  | succ d ih =>
    cases l with
    | nil => simp [parse] at h
    | cons c l =>
      simp only [parse] at h
      by_cases h1 : c = 97
      · rw [if_pos h1] at h
        obtain ⟨⟨n, q⟩, h2, h3⟩ := Option.map_eq_some_iff.1 h
        simp only [Prod.mk.injEq] at h3
        obtain ⟨rfl, rfl⟩ := h3
        obtain ⟨h4, h5⟩ := take_inv h2
        exact ⟨by rw [h1, h4]; rfl, h5⟩
      rw [if_neg h1] at h
      by_cases h2 : c = 116
      · rw [if_pos h2] at h
        obtain ⟨⟨n, q⟩, h3, h4⟩ := Option.map_eq_some_iff.1 h
        simp only [Prod.mk.injEq] at h4
        obtain ⟨rfl, rfl⟩ := h4
        obtain ⟨h5, h6⟩ := takeT_inv h3
        exact ⟨by rw [h2, h5]; rfl, h6⟩
      rw [if_neg h2] at h
      cases hk : kind1 c with
      | some k =>
        rw [hk] at h
        obtain ⟨⟨a, q⟩, h3, h4⟩ := Option.map_eq_some_iff.1 h
        simp only [Prod.mk.injEq] at h4
        obtain ⟨rfl, rfl⟩ := h4
        obtain ⟨h5, h6⟩ := ih _ _ _ h3
        exact ⟨by rw [kind1_inv hk, h5]; rfl, h6⟩
      | none =>
        rw [hk] at h
        simp only at h
        cases hk2 : kind2 c with
        | none => rw [hk2] at h; simp at h
        | some k =>
          rw [hk2] at h
          obtain ⟨⟨a, q⟩, h3, h4⟩ := Option.bind_eq_some_iff.1 h
          obtain ⟨⟨b, q2⟩, h5, h6⟩ := Option.bind_eq_some_iff.1 h4
          simp only at h5 h6
          by_cases h7 : k = .b ∧ a.isPub = false
          · rw [if_pos h7] at h6; simp at h6
          rw [if_neg h7] at h6
          simp only [Option.some.injEq, Prod.mk.injEq] at h6
          obtain ⟨rfl, rfl⟩ := h6
          obtain ⟨h8, h9⟩ := ih _ _ _ h3
          obtain ⟨h10, h11⟩ := ih _ _ _ h5
          refine ⟨by rw [kind2_inv hk2, h8, h10]; simp [enc], h9, h11, fun e => ?_⟩
          cases hp : a.isPub with
          | true => rfl
          | false => exact absurd ⟨e, hp⟩ h7

/-- A right term. -/
def Wf (t : T) : Prop := ok 40 t ∧ (enc t).length ≤ 4000
def termOf (l : Bs) : Option T := if l.length ≤ 4000 then match parse 40 l with | some (t, []) => some t | _ => none else none
theorem termOf_enc {t : T} (h : Wf t) : termOf (enc t) = some t := by
  unfold termOf
  have := parse_enc 40 t [] h.1
  rw [List.append_nil] at this
  rw [if_pos h.2, this]
theorem termOf_inv {l : Bs} {t : T} (h : termOf l = some t) : l = enc t ∧ Wf t := by
  unfold termOf at h
  split at h
  · rename_i hl
    cases hp : parse 40 l with
    | none => rw [hp] at h; simp at h
    | some x =>
      obtain ⟨q, r⟩ := x
      rw [hp] at h
      cases r with
      | cons c r => simp at h
      | nil =>
        obtain rfl := Option.some.inj h
        obtain ⟨h1, h2⟩ := parse_inv _ _ _ _ hp
        rw [List.append_nil] at h1
        exact ⟨h1, h2, by rw [← h1]; exact hl⟩
  · simp at h
theorem termOf_iff {l : Bs} {t : T} : termOf l = some t ↔ l = enc t ∧ Wf t := ⟨termOf_inv, fun ⟨h1, h2⟩ => by rw [h1]; exact termOf_enc h2⟩
theorem ok_mono {d e : Nat} {t : T} (h : ok d t) (hde : d ≤ e) : ok e t := by
  induction d generalizing e t with
  | zero => exact absurd h (by simp [ok])
  | succ d ih =>
    obtain ⟨e, rfl⟩ : ∃ m, e = m + 1 := ⟨e - 1, by omega⟩
    cases t with
    | atom n => exact h
    | text s => exact h
    | one k a => exact ih (t := a) h (by omega)
    | two k a b => exact ⟨ih (t := a) h.1 (by omega), ih (t := b) h.2.1 (by omega), h.2.2⟩
theorem enc_inj {d : Nat} {s t : T} (hs : ok d s) (ht : ok d t) (h : enc s = enc t) : s = t := by
  have h1 := parse_enc d s [] hs
  rw [h, parse_enc d t [] ht] at h1
  simpa using h1.symm
theorem enc_ne_nil (t : T) : enc t ≠ [] := by cases t <;> simp [enc]
theorem enc_pos (t : T) : 0 < (enc t).length := List.length_pos_iff.2 (enc_ne_nil t)

end Go.Proofs.Ytnieihhnchefdaa
