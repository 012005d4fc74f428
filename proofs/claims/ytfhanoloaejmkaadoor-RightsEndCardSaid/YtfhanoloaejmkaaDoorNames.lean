/- Names in plain Lean: runes of bytes, what is made of runes, what is folded. No program is in sight. -/
import Derived.Test.YtfhanoloaejmkaaDoorBytes
import Derived.Lib.ValidLaws
namespace Go.Proofs.YtfhanoloaejmkaaDoor
open Go.Lib
set_option linter.unusedVariables false

/-- A byte that is no part of a rune in a valid way. -/
def Bad (l : Bs) : Prop := (decodeL l).1 = 65533 ∧ (decodeL l).2 = 1
instance (l : Bs) : Decidable (Bad l) := inferInstanceAs (Decidable ((decodeL l).1 = 65533 ∧ (decodeL l).2 = 1))
def ValidR (r : Int) : Prop := (0 ≤ r ∧ r < 55296) ∨ (57343 < r ∧ r ≤ 1114111)
instance (r : Int) : Decidable (ValidR r) := inferInstanceAs (Decidable ((0 ≤ r ∧ r < 55296) ∨ (57343 < r ∧ r ≤ 1114111)))

theorem valid_step {l : Bs} (hne : l ≠ []) : validD l = if Bad l then false else validD (l.drop (decodeL l).2) := validD_step l hne
theorem byte_toNat {z : Int} {n : Nat} (h : z.toNat = n) (h1 : n < 256) : (z.toNat.toUInt8).toNat = n := by
  rw [h]
  show (UInt8.ofNat n).toNat = n
  rw [UInt8.toNat_ofNat']; omega
/-- ████ What is encoded of a rune is decoded as it. -/
theorem decode_encode {r : Nat} (h : ValidR (r : Int)) (l : Bs) : decodeL (encodeRune (r : Int) ++ l) = (r, (encodeRune (r : Int)).length) := by
  unfold ValidR at h
  rw [decodeL_N]
  by_cases c1 : r ≤ 127
  · have e : encodeRune (r : Int) = [(r : Int).toNat.toUInt8] := by unfold encodeRune; rw [encodeRuneZ_one (by omega) (by omega)]; rfl
    rw [e]
    have b0 := byte_toNat (z := (r : Int)) (n := r) (by omega) (by omega)
    show decodeN _ ((r : Int).toNat.toUInt8).toNat _ _ _ = _
    rw [b0]
    unfold decodeN
    rw [if_pos (by omega)]; rfl
  by_cases c2 : r ≤ 2047
  · have e : encodeRune (r : Int) = [(192 + (r : Int) / 64).toNat.toUInt8, (128 + (r : Int) % 64).toNat.toUInt8] := by unfold encodeRune; rw [encodeRuneZ_two (by omega) (by omega)]; rfl
    rw [e]
    have b0 := byte_toNat (z := 192 + (r : Int) / 64) (n := 192 + r / 64) (by omega) (by omega)
    have b1 := byte_toNat (z := 128 + (r : Int) % 64) (n := 128 + r % 64) (by omega) (by omega)
    show decodeN (l.length + 2) ((192 + (r : Int) / 64).toNat.toUInt8).toNat ((128 + (r : Int) % 64).toNat.toUInt8).toNat _ _ = _
    rw [b0, b1]
    unfold decodeN
    rw [if_neg (by omega), if_pos ⟨by omega, by omega, by omega⟩, if_pos (by omega)]
    refine Prod.ext ?_ rfl
    show (192 + r / 64) % 32 * 64 + (128 + r % 64) % 64 = r
    omega
  by_cases c3 : r ≤ 65535
  · have e : encodeRune (r : Int) = [(224 + (r : Int) / 4096).toNat.toUInt8, (128 + (r : Int) / 64 % 64).toNat.toUInt8, (128 + (r : Int) % 64).toNat.toUInt8] := by unfold encodeRune; rw [encodeRuneZ_three (by omega)]; rfl
    rw [e]
    have b0 := byte_toNat (z := 224 + (r : Int) / 4096) (n := 224 + r / 4096) (by omega) (by omega)
    have b1 := byte_toNat (z := 128 + (r : Int) / 64 % 64) (n := 128 + r / 64 % 64) (by omega) (by omega)
    have b2 := byte_toNat (z := 128 + (r : Int) % 64) (n := 128 + r % 64) (by omega) (by omega)
    show decodeN (l.length + 3) ((224 + (r : Int) / 4096).toNat.toUInt8).toNat ((128 + (r : Int) / 64 % 64).toNat.toUInt8).toNat ((128 + (r : Int) % 64).toNat.toUInt8).toNat _ = _
    rw [b0, b1, b2]
    unfold decodeN
    have ev : (224 + r / 4096) % 16 * 4096 + (128 + r / 64 % 64) % 64 * 64 + (128 + r % 64) % 64 = r := by omega
    rw [if_neg (by omega), if_neg (by omega), if_pos ⟨by omega, ⟨by omega, by omega⟩, by omega, by omega⟩, ev, if_pos ⟨by omega, by omega⟩]
    rfl
  · have e : encodeRune (r : Int) = [(240 + (r : Int) / 262144).toNat.toUInt8, (128 + (r : Int) / 4096 % 64).toNat.toUInt8, (128 + (r : Int) / 64 % 64).toNat.toUInt8, (128 + (r : Int) % 64).toNat.toUInt8] := by unfold encodeRune; rw [encodeRuneZ_four (by omega) (by omega)]; rfl
    rw [e]
    have b0 := byte_toNat (z := 240 + (r : Int) / 262144) (n := 240 + r / 262144) (by omega) (by omega)
    have b1 := byte_toNat (z := 128 + (r : Int) / 4096 % 64) (n := 128 + r / 4096 % 64) (by omega) (by omega)
    have b2 := byte_toNat (z := 128 + (r : Int) / 64 % 64) (n := 128 + r / 64 % 64) (by omega) (by omega)
    have b3 := byte_toNat (z := 128 + (r : Int) % 64) (n := 128 + r % 64) (by omega) (by omega)
    show decodeN (l.length + 4) ((240 + (r : Int) / 262144).toNat.toUInt8).toNat ((128 + (r : Int) / 4096 % 64).toNat.toUInt8).toNat ((128 + (r : Int) / 64 % 64).toNat.toUInt8).toNat ((128 + (r : Int) % 64).toNat.toUInt8).toNat = _
    rw [b0, b1, b2, b3]
    unfold decodeN
    have ev : (240 + r / 262144) % 8 * 262144 + (128 + r / 4096 % 64) % 64 * 4096 + (128 + r / 64 % 64) % 64 * 64 + (128 + r % 64) % 64 = r := by omega
    rw [if_neg (by omega), if_neg (by omega), if_neg (by omega), if_pos ⟨by omega, ⟨by omega, by omega⟩, ⟨by omega, by omega⟩, by omega, by omega⟩, ev, if_pos ⟨by omega, by omega⟩]
    rfl
theorem encode_len (r : Int) : 1 ≤ (encodeRune r).length ∧ (encodeRune r).length ≤ 4 := by
  have := encodeRuneZ_length r
  simpa [encodeRune] using this
theorem encode_ne (r : Int) (l : Bs) : encodeRune r ++ l ≠ [] := by
  intro h
  have h1 : (encodeRune r ++ l).length = 0 := by rw [h]; rfl
  have h2 := (encode_len r).1
  rw [List.length_append] at h1
  omega
theorem encode_three {r : Int} (h : (encodeRune r).length = 1) : 0 ≤ r ∧ r ≤ 127 := by
  unfold encodeRune encodeRuneZ at h
  by_cases c1 : 0 ≤ r ∧ r ≤ 127
  · exact c1
  · rw [if_neg c1] at h
    exfalso
    revert h
    repeat' split
    all_goals simp
theorem not_bad {r : Nat} (h : ValidR (r : Int)) (l : Bs) : ¬ Bad (encodeRune (r : Int) ++ l) := by
  unfold Bad
  rw [decode_encode h l]
  rintro ⟨h1, h2⟩
  have := encode_three h2
  simp only at h1
  omega
/-- What is decoded well is a rune that can be. -/
theorem decode_valid {l : Bs} (hne : l ≠ []) (hb : ¬ Bad l) : ValidR ((decodeL l).1 : Int) := by
  unfold Bad at hb
  unfold ValidR
  rw [decodeL_N] at hb ⊢
  have k0 := (l.getD 0 0).toNat_lt
  rcases decodeN_shape l.length (l.getD 0 0).toNat (l.getD 1 0).toNat (l.getD 2 0).toNat (l.getD 3 0).toNat with ⟨c, e⟩ | ⟨c1, c2, c3, cv, e⟩ | ⟨c1, c2, c3, c4, cv, cs, e⟩ | ⟨c1, c2, c3, c4, c5, cv, cw, e⟩ | e
  · rw [e]; dsimp only; omega
  · rw [e]; dsimp only; omega
  · rw [e]; dsimp only; omega
  · rw [e]; dsimp only; omega
  · rw [e] at hb; exact absurd ⟨rfl, rfl⟩ hb
theorem take_encode {l : Bs} (hne : l ≠ []) (hb : ¬ Bad l) : encodeRune ((decodeL l).1 : Int) ++ l.drop (decodeL l).2 = l := by
  rw [encode_decode l hne hb, List.take_append_drop]

/-! ### Runes, one after the other -/
def runesGo : Nat → Bs → List Int
  | 0, _ => []
  | n + 1, l => if l = [] then [] else ((decodeL l).1 : Int) :: runesGo n (l.drop (decodeL l).2)
def runesD (l : Bs) : List Int := runesGo l.length l
theorem runesGo_nil : ∀ n, runesGo n [] = []
  | 0 => rfl
  | _ + 1 => by simp [runesGo]
theorem runesGo_fuel : ∀ (n m : Nat) (l : Bs), l.length ≤ n → l.length ≤ m → runesGo n l = runesGo m l
  | 0, m, l, hn, _ => by
    have : l = [] := List.eq_nil_of_length_eq_zero (by omega)
    subst this
    rw [runesGo_nil, runesGo_nil]
  | n + 1, 0, l, _, hm => by
    have : l = [] := List.eq_nil_of_length_eq_zero (by omega)
    subst this
    rw [runesGo_nil, runesGo_nil]
  | n + 1, m + 1, l, hn, hm => by
    unfold runesGo
    by_cases hne : l = []
    · simp [hne]
    · have hw := decodeL_width l
      have hl : 0 < l.length := List.length_pos_iff.2 hne
      rw [if_neg hne, if_neg hne, runesGo_fuel n m (l.drop (decodeL l).2) (by rw [List.length_drop]; omega) (by rw [List.length_drop]; omega)]
theorem runesD_nil : runesD [] = [] := rfl
theorem runesD_step {l : Bs} (hne : l ≠ []) : runesD l = ((decodeL l).1 : Int) :: runesD (l.drop (decodeL l).2) := by
  have hl : 0 < l.length := List.length_pos_iff.2 hne
  have hw := decodeL_width l
  obtain ⟨n, hn⟩ : ∃ n, l.length = n + 1 := ⟨l.length - 1, by omega⟩
  unfold runesD
  rw [hn]
  show (if l = [] then [] else _) = _
  rw [if_neg hne, runesGo_fuel n (l.drop (decodeL l).2).length _ (by rw [List.length_drop]; omega) (Nat.le_refl _)]
/-- By runes, from the left. -/
theorem steps_ind {p : Bs → Prop} (h0 : p []) (h1 : ∀ l, l ≠ [] → p (l.drop (decodeL l).2) → p l) (l : Bs) : p l := by
  have : ∀ n (l : Bs), l.length ≤ n → p l := by
    intro n
    induction n with
    | zero => intro l hl; rw [List.eq_nil_of_length_eq_zero (by omega : l.length = 0)]; exact h0
    | succ n ih =>
      intro l hl
      by_cases hne : l = []
      · rw [hne]; exact h0
      · have hw := decodeL_width l
        have hp : 0 < l.length := List.length_pos_iff.2 hne
        exact h1 l hne (ih _ (by rw [List.length_drop]; omega))
  exact this l.length l (Nat.le_refl _)
theorem runesD_len (l : Bs) : (runesD l).length ≤ l.length := by
  refine steps_ind (p := fun l => (runesD l).length ≤ l.length) (Nat.le_refl _) (fun l hne ih => ?_) l
  have hp : 0 < l.length := List.length_pos_iff.2 hne
  have hw := decodeL_width l
  rw [runesD_step hne, List.length_cons]
  rw [List.length_drop] at ih
  omega
theorem runesD_wf (l : Bs) : ∀ r ∈ runesD l, 0 ≤ r ∧ r ≤ 1114111 := by
  refine steps_ind (p := fun l => ∀ r ∈ runesD l, 0 ≤ r ∧ r ≤ 1114111) (fun r hr => by simp [runesD_nil] at hr) (fun l hne ih => ?_) l
  intro r hr
  rw [runesD_step hne] at hr
  rcases List.mem_cons.1 hr with rfl | hr
  · have := decodeL_rune l; omega
  · exact ih r hr
theorem runesD_pos {l : Bs} (hne : l ≠ []) : runesD l ≠ [] := by rw [runesD_step hne]; simp

/-! ### What is made of runes -/
def makeD (rs : List Int) : Bs := rs.flatMap encodeRune
theorem makeD_nil : makeD [] = [] := rfl
theorem makeD_cons (r : Int) (rs : List Int) : makeD (r :: rs) = encodeRune r ++ makeD rs := rfl
theorem makeD_append (a b : List Int) : makeD (a ++ b) = makeD a ++ makeD b := by unfold makeD; rw [List.flatMap_append]
theorem step_make {r : Int} (h : ValidR r) (l : Bs) : decodeL (encodeRune r ++ l) = (r.toNat, (encodeRune r).length) ∧ ¬ Bad (encodeRune r ++ l) ∧ (encodeRune r ++ l).drop (decodeL (encodeRune r ++ l)).2 = l := by
  obtain ⟨n, rfl⟩ : ∃ n : Nat, r = n := ⟨r.toNat, by unfold ValidR at h; omega⟩
  refine ⟨decode_encode h l, not_bad h l, ?_⟩
  rw [decode_encode h l]
  exact List.drop_left
theorem runes_make {rs : List Int} (h : ∀ r ∈ rs, ValidR r) (l : Bs) : runesD (makeD rs ++ l) = rs ++ runesD l ∧ validD (makeD rs ++ l) = validD l := by
  induction rs with
  | nil => exact ⟨rfl, rfl⟩
  | cons r rs ih =>
    obtain ⟨i1, i2⟩ := ih (fun x hx => h x (List.mem_cons_of_mem _ hx))
    obtain ⟨d1, d2, d3⟩ := step_make (h r List.mem_cons_self) (makeD rs ++ l)
    have h0 : 0 ≤ r := by have := h r List.mem_cons_self; unfold ValidR at this; omega
    rw [makeD_cons, List.append_assoc]
    constructor
    · rw [runesD_step (encode_ne r _), d3, i1, d1]
      show ((r.toNat : Nat) : Int) :: _ = _
      rw [Int.toNat_of_nonneg h0]; rfl
    · rw [valid_step (encode_ne r _), if_neg d2, d3, i2]
theorem make_runes {l : Bs} (h : validD l = true) : makeD (runesD l) = l ∧ ∀ r ∈ runesD l, ValidR r := by
  refine steps_ind (p := fun l => validD l = true → makeD (runesD l) = l ∧ ∀ r ∈ runesD l, ValidR r) (fun _ => ⟨rfl, fun r hr => by simp [runesD_nil] at hr⟩) (fun l hne ih hv => ?_) l h
  rw [valid_step hne] at hv
  by_cases hb : Bad l
  · rw [if_pos hb] at hv; simp at hv
  · rw [if_neg hb] at hv
    obtain ⟨i1, i2⟩ := ih hv
    rw [runesD_step hne, makeD_cons, i1]
    refine ⟨take_encode hne hb, fun r hr => ?_⟩
    rcases List.mem_cons.1 hr with rfl | hr
    · exact decode_valid hne hb
    · exact i2 r hr
theorem runes_of_make {rs : List Int} (h : ∀ r ∈ rs, ValidR r) : runesD (makeD rs) = rs ∧ validD (makeD rs) = true := by
  have := runes_make h []
  rw [List.append_nil, runesD_nil, List.append_nil] at this
  exact this
theorem valid_append {a b : Bs} (ha : validD a = true) : validD (a ++ b) = validD b ∧ runesD (a ++ b) = runesD a ++ runesD b := by
  obtain ⟨h1, h2⟩ := make_runes ha
  have := runes_make h2 b
  rw [h1] at this
  exact ⟨this.2, this.1⟩

/-! ### Letters -/
def letterZ (r : Int) : Bool := decide (97 ≤ r ∧ r ≤ 122) || decide (48 ≤ r ∧ r ≤ 57) || decide (r = 45) || decide (223 ≤ r ∧ r ≤ 246) || decide (248 ≤ r ∧ r ≤ 255) || decide (945 ≤ r ∧ r ≤ 969) || decide (1072 ≤ r ∧ r ≤ 1103)
def greatZ (r : Int) : Bool := decide (65 ≤ r ∧ r ≤ 90) || decide (192 ≤ r ∧ r ≤ 214) || decide (216 ≤ r ∧ r ≤ 222) || decide (913 ≤ r ∧ r ≤ 929) || decide (931 ≤ r ∧ r ≤ 937) || decide (1040 ≤ r ∧ r ≤ 1071)
theorem letter_iff (r : Int) : letterZ r = true ↔ (97 ≤ r ∧ r ≤ 122) ∨ (48 ≤ r ∧ r ≤ 57) ∨ r = 45 ∨ (223 ≤ r ∧ r ≤ 246) ∨ (248 ≤ r ∧ r ≤ 255) ∨ (945 ≤ r ∧ r ≤ 969) ∨ (1072 ≤ r ∧ r ≤ 1103) := by
  simp only [letterZ, Bool.or_eq_true, decide_eq_true_eq, or_assoc]
theorem great_iff (r : Int) : greatZ r = true ↔ (65 ≤ r ∧ r ≤ 90) ∨ (192 ≤ r ∧ r ≤ 214) ∨ (216 ≤ r ∧ r ≤ 222) ∨ (913 ≤ r ∧ r ≤ 929) ∨ (931 ≤ r ∧ r ≤ 937) ∨ (1040 ≤ r ∧ r ≤ 1071) := by
  simp only [greatZ, Bool.or_eq_true, decide_eq_true_eq, or_assoc]
theorem letter_valid {r : Int} (h : letterZ r = true) : ValidR r := by
  rw [letter_iff] at h
  unfold ValidR; omega
theorem great_false {r : Int} (h : ¬ ((65 ≤ r ∧ r ≤ 90) ∨ (192 ≤ r ∧ r ≤ 214) ∨ (216 ≤ r ∧ r ≤ 222) ∨ (913 ≤ r ∧ r ≤ 929) ∨ (931 ≤ r ∧ r ≤ 937) ∨ (1040 ≤ r ∧ r ≤ 1071))) : greatZ r = false := by
  cases hg : greatZ r with
  | false => rfl
  | true => exact absurd ((great_iff r).1 hg) h
/-- A name. -/
def rightN (l : Bs) : Bool := validD l && (runesD l).all letterZ && decide (1 ≤ (runesD l).length ∧ (runesD l).length ≤ 32)
theorem right_make {rs : List Int} (h : ∀ r ∈ rs, letterZ r = true) : rightN (makeD rs) = decide (1 ≤ rs.length ∧ rs.length ≤ 32) := by
  obtain ⟨h1, h2⟩ := runes_of_make (fun r hr => letter_valid (h r hr))
  unfold rightN
  rw [h1, h2, List.all_eq_true.2 h]; rfl
theorem right_inv1 {l : Bs} (h : rightN l = true) : validD l = true ∧ (∀ r ∈ runesD l, letterZ r = true) ∧ 1 ≤ (runesD l).length ∧ (runesD l).length ≤ 32 := by
  unfold rightN at h
  simp only [Bool.and_eq_true, List.all_eq_true, decide_eq_true_eq] at h
  exact ⟨h.1.1, h.1.2, h.2.1, h.2.2⟩
theorem right_nil : rightN [] = false := by decide
theorem right_len {l : Bs} (h : rightN l = true) : l.length ≤ 128 := by
  obtain ⟨h1, h2, h3, h4⟩ := right_inv1 h
  have hm := (make_runes h1).1
  have : ∀ rs : List Int, (makeD rs).length ≤ 4 * rs.length := by
    intro rs
    induction rs with
    | nil => simp [makeD_nil]
    | cons r rs ih => have := encode_len r; rw [makeD_cons, List.length_append, List.length_cons]; omega
  have := this (runesD l)
  rw [hm] at this
  omega

/-! ### Folding -/
def foldR (r : Int) : Int := if greatZ r = true then r + 32 else r
def foldGo : Nat → Bs → List Int
  | 0, _ => []
  | n + 1, l => if l = [] then [] else (if Bad l then 45 else foldR ((decodeL l).1 : Int)) :: foldGo n (l.drop (decodeL l).2)
/-- The runes of what is folded. -/
def foldRs (l : Bs) : List Int := foldGo l.length l
def foldD (l : Bs) : Bs := makeD (foldRs l)
theorem foldGo_nil : ∀ n, foldGo n [] = []
  | 0 => rfl
  | _ + 1 => by simp [foldGo]
theorem foldGo_fuel : ∀ (n m : Nat) (l : Bs), l.length ≤ n → l.length ≤ m → foldGo n l = foldGo m l
  | 0, m, l, hn, _ => by
    have : l = [] := List.eq_nil_of_length_eq_zero (by omega)
    subst this
    rw [foldGo_nil, foldGo_nil]
  | n + 1, 0, l, _, hm => by
    have : l = [] := List.eq_nil_of_length_eq_zero (by omega)
    subst this
    rw [foldGo_nil, foldGo_nil]
  | n + 1, m + 1, l, hn, hm => by
    unfold foldGo
    by_cases hne : l = []
    · simp [hne]
    · have hw := decodeL_width l
      have hl : 0 < l.length := List.length_pos_iff.2 hne
      rw [if_neg hne, if_neg hne, foldGo_fuel n m (l.drop (decodeL l).2) (by rw [List.length_drop]; omega) (by rw [List.length_drop]; omega)]
theorem foldRs_nil : foldRs [] = [] := rfl
theorem foldRs_step {l : Bs} (hne : l ≠ []) : foldRs l = (if Bad l then 45 else foldR ((decodeL l).1 : Int)) :: foldRs (l.drop (decodeL l).2) := by
  have hl : 0 < l.length := List.length_pos_iff.2 hne
  have hw := decodeL_width l
  obtain ⟨n, hn⟩ : ∃ n, l.length = n + 1 := ⟨l.length - 1, by omega⟩
  unfold foldRs
  rw [hn]
  show (if l = [] then [] else _) = _
  rw [if_neg hne, foldGo_fuel n (l.drop (decodeL l).2).length _ (by rw [List.length_drop]; omega) (Nat.le_refl _)]
theorem foldR_valid {r : Int} (h : ValidR r) : ValidR (foldR r) := by
  unfold foldR
  split
  · rename_i hg
    rw [great_iff] at hg
    unfold ValidR; omega
  · exact h
theorem foldR_idem (r : Int) : foldR (foldR r) = foldR r := by
  by_cases hg : greatZ r = true
  · have h1 : foldR r = r + 32 := by unfold foldR; rw [if_pos hg]
    rw [h1]
    rw [great_iff] at hg
    unfold foldR
    rw [great_false (by omega), if_neg (by simp)]
  · have h1 : foldR r = r := by unfold foldR; rw [if_neg hg]
    rw [h1, h1]
theorem encode_range1 {r : Int} (h : 0 ≤ r ∧ r ≤ 127) : (encodeRune r).length = 1 := by unfold encodeRune; rw [encodeRuneZ_one h.1 h.2]; rfl
theorem encode_range2 {r : Int} (h : 128 ≤ r ∧ r ≤ 2047) : (encodeRune r).length = 2 := by unfold encodeRune; rw [encodeRuneZ_two h.1 h.2]; rfl
theorem foldR_len (r : Int) : (encodeRune (foldR r)).length = (encodeRune r).length := by
  unfold foldR
  split
  · rename_i hg
    rw [great_iff] at hg
    by_cases c : r ≤ 127
    · rw [encode_range1 (r := r) (by omega), encode_range1 (by omega)]
    · rw [encode_range2 (r := r) (by omega), encode_range2 (by omega)]
  · rfl
theorem foldRs_valid (l : Bs) : ∀ r ∈ foldRs l, ValidR r := by
  refine steps_ind (p := fun l => ∀ r ∈ foldRs l, ValidR r) (fun r hr => by simp [foldRs_nil] at hr) (fun l hne ih => ?_) l
  intro r hr
  rw [foldRs_step hne] at hr
  rcases List.mem_cons.1 hr with rfl | hr
  · by_cases hb : Bad l
    · rw [if_pos hb]; unfold ValidR; omega
    · rw [if_neg hb]; exact foldR_valid (decode_valid hne hb)
  · exact ih r hr
theorem foldRs_make {rs : List Int} (h : ∀ r ∈ rs, ValidR r) (l : Bs) : foldRs (makeD rs ++ l) = rs.map foldR ++ foldRs l := by
  induction rs with
  | nil => rfl
  | cons r rs ih =>
    have ih := ih (fun x hx => h x (List.mem_cons_of_mem _ hx))
    obtain ⟨d1, d2, d3⟩ := step_make (h r List.mem_cons_self) (makeD rs ++ l)
    have h0 : 0 ≤ r := by have := h r List.mem_cons_self; unfold ValidR at this; omega
    rw [makeD_cons, List.append_assoc, foldRs_step (encode_ne r _), if_neg d2, d3, ih, d1]
    show foldR ((r.toNat : Nat) : Int) :: _ = _
    rw [Int.toNat_of_nonneg h0]; rfl
theorem fold_valid (l : Bs) : validD (foldD l) = true ∧ runesD (foldD l) = foldRs l := by
  obtain ⟨h1, h2⟩ := runes_of_make (foldRs_valid l)
  exact ⟨h2, h1⟩
theorem foldRs_idem (l : Bs) : (foldRs l).map foldR = foldRs l := by
  refine steps_ind (p := fun l => (foldRs l).map foldR = foldRs l) rfl (fun l hne ih => ?_) l
  rw [foldRs_step hne, List.map_cons, ih]
  congr 1
  by_cases hb : Bad l
  · rw [if_pos hb]; decide
  · rw [if_neg hb, foldR_idem]
theorem fold_idem (l : Bs) : foldD (foldD l) = foldD l := by
  have := foldRs_make (foldRs_valid l) []
  rw [List.append_nil, foldRs_nil, List.append_nil, foldRs_idem] at this
  show makeD (foldRs (makeD (foldRs l))) = makeD (foldRs l)
  rw [this]
theorem fold_len (l : Bs) : (foldD l).length = l.length := by
  refine steps_ind (p := fun l => (foldD l).length = l.length) rfl (fun l hne ih => ?_) l
  have hw := decodeL_width l
  have hle := decodeL_le l hne
  unfold foldD at ih ⊢
  rw [foldRs_step hne, makeD_cons, List.length_append, ih, List.length_drop]
  by_cases hb : Bad l
  · rw [if_pos hb, encode_range1 (by omega), hb.2]; omega
  · rw [if_neg hb, foldR_len, encode_decode l hne hb, List.length_take]; omega
theorem fold_append {a : Bs} (b : Bs) (ha : validD a = true) : foldD (a ++ b) = foldD a ++ foldD b ∧ foldRs a = (runesD a).map foldR := by
  obtain ⟨h1, h2⟩ := make_runes ha
  have e1 := foldRs_make h2 b
  have e2 := foldRs_make h2 []
  rw [h1] at e1
  rw [List.append_nil, h1, foldRs_nil, List.append_nil] at e2
  refine ⟨?_, e2⟩
  unfold foldD
  rw [e1, makeD_append, e2]
theorem letter_fold {r : Int} (h : letterZ r = true) : foldR r = r := by
  rw [letter_iff] at h
  unfold foldR
  rw [great_false (by omega), if_neg (by simp)]

end Go.Proofs.YtfhanoloaejmkaaDoor
