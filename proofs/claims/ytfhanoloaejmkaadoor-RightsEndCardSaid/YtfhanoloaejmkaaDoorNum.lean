/- Numbers and texts as bytes, in plain Lean. No program is in sight. -/
import Derived.Test.YtfhanoloaejmkaaDoorBytes
namespace Go.Proofs.YtfhanoloaejmkaaDoor
set_option linter.unusedVariables false

theorem head_app {l r : Bs} (h : l ≠ []) : (l ++ r).head? = l.head? := by
  cases l with
  | nil => exact absurd rfl h
  | cons c l => rfl

/-! ### Numbers -/
def beBytes (n : Nat) : Bs := if h : n = 0 then [] else beBytes (n / 256) ++ [UInt8.ofNat (n % 256)]
termination_by n
decreasing_by omega
theorem beBytes_zero : beBytes 0 = [] := by rw [beBytes]; simp
theorem beBytes_pos {n : Nat} (h : n ≠ 0) : beBytes n = beBytes (n / 256) ++ [UInt8.ofNat (n % 256)] := by rw [beBytes]; simp [h]
theorem toNat_mod (n : Nat) : (UInt8.ofNat (n % 256)).toNat = n % 256 := by
  rw [UInt8.toNat_ofNat']
  omega
theorem beNum_beBytes (n : Nat) : beNum (beBytes n) = n := by
  induction n using Nat.strongRecOn with
  | _ n ih =>
    by_cases h : n = 0
    · subst h; rw [beBytes_zero]; rfl
    · rw [beBytes_pos h, beNum_snoc, ih (n / 256) (by omega), toNat_mod]
      omega
theorem beBytes_len (k n : Nat) (h : n < 256 ^ k) : (beBytes n).length ≤ k := by
  induction k generalizing n with
  | zero =>
    have : n = 0 := by simpa using h
    subst this
    rw [beBytes_zero]; simp
  | succ k ih =>
    by_cases h0 : n = 0
    · subst h0; rw [beBytes_zero]; simp
    · rw [beBytes_pos h0, List.length_append, List.length_singleton]
      have := ih (n / 256) (by rw [Nat.pow_succ] at h; omega)
      omega
theorem beBytes_len8 {n : Nat} (h : n < 18446744073709551616) : (beBytes n).length ≤ 8 := beBytes_len 8 n (by simpa using h)
theorem beBytes_head (n : Nat) : (beBytes n).head? ≠ some 0 := by
  induction n using Nat.strongRecOn with
  | _ n ih =>
    by_cases h : n = 0
    · subst h; rw [beBytes_zero]; simp
    · rw [beBytes_pos h]
      by_cases h2 : n / 256 = 0
      · rw [h2, beBytes_zero]
        intro e
        have e2 : UInt8.ofNat (n % 256) = 0 := by simpa using e
        have := congrArg UInt8.toNat e2
        rw [toNat_mod] at this
        have h3 : (0 : UInt8).toNat = 0 := rfl
        omega
      · have h4 : beBytes (n / 256) ≠ [] := by
          intro e
          have := beNum_beBytes (n / 256)
          rw [e] at this
          exact h2 this.symm
        rw [head_app h4]
        exact ih (n / 256) (by omega)
theorem beBytes_beNum (l : Bs) (h : l.head? ≠ some 0) : beBytes (beNum l) = l := by
  induction l using snoc_ind with
  | h0 => rw [beNum_nil, beBytes_zero]
  | h1 l b ih =>
    rw [beNum_snoc]
    have hb := b.toNat_lt
    by_cases hl : l = []
    · subst hl
      have hb0 : b ≠ 0 := fun e => h (by rw [e]; rfl)
      have hb1 : b.toNat ≠ 0 := fun e => hb0 (UInt8.toNat_inj.1 e)
      rw [beNum_nil, Nat.zero_mul, Nat.zero_add, beBytes_pos hb1, show b.toNat / 256 = 0 from by omega, beBytes_zero, show b.toNat % 256 = b.toNat from by omega, UInt8.ofNat_toNat]
    · rw [head_app hl] at h
      have ih := ih h
      have hn : beNum l ≠ 0 := by
        intro e
        rw [e, beBytes_zero] at ih
        exact hl ih.symm
      rw [beBytes_pos (by omega), show (beNum l * 256 + b.toNat) / 256 = beNum l from by omega, ih, show (beNum l * 256 + b.toNat) % 256 = b.toNat from by omega, UInt8.ofNat_toNat]

def putL (n : Nat) : Bs := UInt8.ofNat (beBytes n).length :: beBytes n
theorem putL_len {n : Nat} (h : n < 18446744073709551616) : (putL n).length ≤ 9 := by
  have := beBytes_len8 h
  simp only [putL, List.length_cons]; omega
theorem ofNat_small {k : Nat} (h : k ≤ 8) : (UInt8.ofNat k).toNat = k := by
  rw [UInt8.toNat_ofNat']
  omega
theorem take_put {n : Nat} (h : n < 18446744073709551616) (r : Bs) : takeL (putL n ++ r) = some (n, r) := by
  have h8 := beBytes_len8 h
  have hc := ofNat_small h8
  simp only [putL, List.cons_append, takeL]
  rw [hc, if_neg (by omega), if_neg (by rw [List.length_append]; omega), if_neg, List.take_left, List.drop_left, beNum_beBytes]
  rintro ⟨h1, h2⟩
  rw [head_app (fun e => by rw [e] at h1; simp at h1)] at h2
  exact beBytes_head n h2
theorem take_inv {l r : Bs} {n : Nat} (h : takeL l = some (n, r)) : l = putL n ++ r ∧ n < 18446744073709551616 := by
  cases l with
  | nil => simp [takeL] at h
  | cons c t =>
    simp only [takeL] at h
    by_cases h1 : 8 < c.toNat
    · rw [if_pos h1] at h; simp at h
    rw [if_neg h1] at h
    by_cases h2 : t.length < c.toNat
    · rw [if_pos h2] at h; simp at h
    rw [if_neg h2] at h
    by_cases h3 : 0 < c.toNat ∧ t.head? = some 0
    · rw [if_pos h3] at h; simp at h
    rw [if_neg h3] at h
    simp only [Option.some.injEq, Prod.mk.injEq] at h
    obtain ⟨rfl, rfl⟩ := h
    have hh : (t.take c.toNat).head? ≠ some 0 := by
      intro e
      by_cases h0 : c.toNat = 0
      · rw [h0] at e; simp at e
      · rw [List.head?_take, if_neg h0] at e
        exact h3 ⟨by omega, e⟩
    have hlen : (t.take c.toNat).length = c.toNat := by rw [List.length_take]; omega
    refine ⟨?_, ?_⟩
    · unfold putL
      rw [beBytes_beNum _ hh, hlen, UInt8.ofNat_toNat, List.cons_append, List.take_append_drop]
    · have := beNum_lt (t.take c.toNat)
      rw [hlen] at this
      have h4 : 256 ^ c.toNat ≤ 256 ^ 8 := Nat.pow_le_pow_right (by decide) (by omega)
      have h5 : (256 : Nat) ^ 8 = 18446744073709551616 := by decide
      omega
theorem putL_inj {n m : Nat} (hn : n < 18446744073709551616) (hm : m < 18446744073709551616) (h : putL n = putL m) : n = m := by
  have h1 := take_put hn []
  rw [h, take_put hm] at h1
  simpa using h1.symm

/-! ### Texts -/
def putT (s : Bs) : Bs := putL s.length ++ s
def takeT (most : Nat) (l : Bs) : Option (Bs × Bs) :=
  match takeL l with
  | none => none
  | some (n, r) => if most < n then none else if r.length < n then none else some (r.take n, r.drop n)
theorem takeT_put {most : Nat} {s : Bs} (h : s.length ≤ most) (h2 : s.length < 18446744073709551616) (r : Bs) : takeT most (putT s ++ r) = some (s, r) := by
  unfold takeT putT
  rw [List.append_assoc, take_put h2]
  simp only
  rw [if_neg (by omega), if_neg (by rw [List.length_append]; omega), List.take_left, List.drop_left]
theorem takeT_inv {most : Nat} {l s r : Bs} (h : takeT most l = some (s, r)) : l = putT s ++ r ∧ s.length ≤ most := by
  unfold takeT at h
  cases h1 : takeL l with
  | none => rw [h1] at h; simp at h
  | some x =>
    obtain ⟨n, q⟩ := x
    rw [h1] at h
    simp only at h
    by_cases h2 : most < n
    · rw [if_pos h2] at h; simp at h
    rw [if_neg h2] at h
    by_cases h3 : q.length < n
    · rw [if_pos h3] at h; simp at h
    rw [if_neg h3] at h
    simp only [Option.some.injEq, Prod.mk.injEq] at h
    obtain ⟨rfl, rfl⟩ := h
    obtain ⟨h4, h5⟩ := take_inv h1
    have hl : (q.take n).length = n := by rw [List.length_take]; omega
    refine ⟨?_, by omega⟩
    unfold putT
    rw [hl, List.append_assoc, List.take_append_drop, h4]

end Go.Proofs.YtfhanoloaejmkaaDoor
