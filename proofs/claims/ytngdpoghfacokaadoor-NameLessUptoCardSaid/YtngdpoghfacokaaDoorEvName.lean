/- What the printed words of names come to: paths, what is parted, which stands ahead, the example, names made of numbers. -/
import Derived.Test.YtngdpoghfacokaaDoorPAx5
import Derived.Test.YtngdpoghfacokaaDoorEvCore
namespace Go.Proofs.YtngdpoghfacokaaDoor.Ref
open Go.RowKit Go.Proofs.YtngdpoghfacokaaDoor Go.Proofs.YtngdpoghfacokaaDoor.PA Go.Proofs.YtngdpoghfacokaaDoorW.PrintWords Go.Proofs.YtngdpoghfacokaaDoorW.PrintLast
set_option linter.unusedVariables false

/-! ### Which stands ahead -/
theorem less_lt : ∀ (x y : List UInt8), Op.bytesLess x y = decide (x < y)
  | [], [] => by simp [Op.bytesLess]
  | _ :: _, [] => by simp [Op.bytesLess]
  | [], _ :: _ => by simp [Op.bytesLess]
  | a :: x, b :: y => by
    rw [Op.bytesLess, less_lt x y]
    by_cases h1 : a < b
    · simp [h1, List.cons_lt_cons_iff]
    · by_cases h2 : a = b
      · subst h2; simp
      · have h3 : (a == b) = false := beq_eq_false_iff_ne.mpr h2
        simp [h1, h2, List.cons_lt_cons_iff]
theorem less_val (a b : ByteArray) : name_Less.f a b = some (decide (bytes a < bytes b)) := by
  unfold name_Less.f
  rw [less_lt, bytes_toList, bytes_toList]
theorem list_eq (a b : ByteArray) : a.toList = b.toList ↔ a = b := ⟨fun h => bs_inj (by rwa [bytes_toList, bytes_toList] at h), fun h => by rw [h]⟩

/-! ### Parted at the first slash -/
theorem index_cons (c : UInt8) (l : Bs) : Lib.index (c :: l) [47] = if c = 47 then 0 else if Lib.index l [47] = -1 then -1 else Lib.index l [47] + 1 := by
  have hp : [(47 : UInt8)].isPrefixOf (c :: l) = (47 == c) := by simp [List.isPrefixOf]
  show (if [(47 : UInt8)].isPrefixOf (c :: l) = true then (0 : Int) else if (Lib.index l [47] == -1) = true then -1 else Lib.index l [47] + 1) = _
  rw [hp]
  by_cases h : c = 47
  · subst h; simp
  · rw [if_neg h, if_neg (by simpa using fun e => h e.symm)]
    simp only [beq_iff_eq]
theorem index_nil : Lib.index [] [47] = -1 := rfl
theorem index_at {a b : Bs} (ha : (47 : UInt8) ∉ a) : Lib.index (a ++ 47 :: b) [47] = (a.length : Int) := by
  induction a with
  | nil => rw [List.nil_append, index_cons, if_pos rfl]; rfl
  | cons c a ih =>
    have ih := ih (fun e => ha (List.mem_cons_of_mem _ e))
    rw [List.cons_append, index_cons, if_neg (fun e => ha (by rw [e]; simp)), ih, if_neg (by omega), List.length_cons]
    omega
theorem index_none {l : Bs} (h : (47 : UInt8) ∉ l) : Lib.index l [47] = -1 := by
  induction l with
  | nil => rfl
  | cons c l ih =>
    rw [index_cons, if_neg (fun e => h (by rw [e]; simp)), ih (fun e => h (List.mem_cons_of_mem _ e)), if_pos rfl]
theorem cut_at {a b : Bs} (ha : (47 : UInt8) ∉ a) : Lib.cut (a ++ 47 :: b) [47] = (a, b, true) := by
  unfold Lib.cut
  rw [index_at ha, if_pos (by omega), Int.toNat_natCast, List.take_left]
  congr 2
  rw [← List.drop_drop, List.drop_left]; rfl
theorem cut_none {l : Bs} (h : (47 : UInt8) ∉ l) : Lib.cut l [47] = (l, [], false) := by
  unfold Lib.cut
  rw [index_none h, if_neg (by omega)]
theorem cut_cases (l : Bs) : (∃ a b, l = a ++ 47 :: b ∧ (47 : UInt8) ∉ a ∧ Lib.cut l [47] = (a, b, true)) ∨ ((47 : UInt8) ∉ l ∧ Lib.cut l [47] = (l, [], false)) := by
  by_cases h : (47 : UInt8) ∈ l
  · left
    have : ∀ l : Bs, (47 : UInt8) ∈ l → ∃ a b, l = a ++ 47 :: b ∧ (47 : UInt8) ∉ a := by
      intro l
      induction l with
      | nil => intro h; simp at h
      | cons c l ih =>
        intro h
        by_cases hc : c = 47
        · exact ⟨[], l, by rw [hc]; rfl, by simp⟩
        · obtain ⟨a, b, e, hn⟩ := ih (by rcases List.mem_cons.1 h with h | h; exact absurd h.symm hc; exact h)
          exact ⟨c :: a, b, by rw [e]; rfl, fun hm => by rcases List.mem_cons.1 hm with h | h; exact hc h.symm; exact hn h⟩
    obtain ⟨a, b, e, hn⟩ := this l h
    exact ⟨a, b, e, hn, by rw [e]; exact cut_at hn⟩
  · exact Or.inr ⟨h, cut_none h⟩
theorem encode_mem {r : Int} {c : UInt8} (hc : c ∈ Lib.encodeRune r) (h : c.toNat < 128) : r = (c.toNat : Int) := by
  unfold Lib.encodeRune at hc
  obtain ⟨x, hx, rfl⟩ := List.mem_map.1 hc
  obtain ⟨h0, h1⟩ := Lib.encodeRuneZ_byte r x hx
  have hn : (x.toNat.toUInt8).toNat = x.toNat := byte_toNat rfl (by omega)
  rw [hn] at h ⊢
  unfold Lib.encodeRuneZ at hx
  split at hx
  · simp at hx; omega
  · split at hx
    · simp at hx; omega
    · split at hx
      · simp at hx; omega
      · split at hx
        · simp at hx; omega
        · simp at hx; omega
theorem make_mem {rs : List Int} {c : UInt8} (hc : c ∈ makeD rs) (h : c.toNat < 128) : (c.toNat : Int) ∈ rs := by
  unfold makeD at hc
  obtain ⟨r, hr, hm⟩ := List.mem_flatMap.1 hc
  rw [← encode_mem hm h]; exact hr
theorem no_slash {l : Bs} (h : rightN l = true) : (47 : UInt8) ∉ l := by
  intro hm
  obtain ⟨h1, h2, _⟩ := right_inv1 h
  have hm2 := (make_runes h1).1
  rw [← hm2] at hm
  have := h2 _ (make_mem hm (by decide))
  simp [letterZ] at this
def pathF (a b : ByteArray) : ByteArray × Int := if rightN (bytes a) = true ∧ rightN (bytes b) = true then ((a ++ ⟨#[47]⟩) ++ b, 0) else (⟨#[]⟩, 3)
def splitF (p : ByteArray) : ByteArray × ByteArray × Int :=
  if rightN (Lib.cut (bytes p) [47]).1 = true ∧ rightN (Lib.cut (bytes p) [47]).2.1 = true then (ofBytes (Lib.cut (bytes p) [47]).1, ofBytes (Lib.cut (bytes p) [47]).2.1, 0) else (⟨#[]⟩, ⟨#[]⟩, 3)
theorem right_val (a : ByteArray) (h : a.size ≤ 9223372036854775807) : name_Right.f a = some (rightN (bytes a)) := by unfold name_Right.f; rw [if_pos h]
theorem path_val (a b : ByteArray) (ha : a.size ≤ 1000000000000) (hb : b.size ≤ 1000000000000) : name_Path.f a b = some (pathF a b) := by
  unfold name_Path.f pathF
  rw [right_val a (by omega), right_val b (by omega)]
  simp only [Option.bind_some]
  cases rightN (bytes a) with
  | false => rw [if_neg (by simp), if_neg (by simp)]
  | true =>
    rw [if_pos rfl]
    cases rightN (bytes b) with
    | false => rw [if_neg (by simp), if_neg (by simp)]
    | true =>
      have e1 : (⟨#[47]⟩ : ByteArray).size = 1 := rfl
      rw [if_pos rfl, if_pos (by omega), if_pos (by rw [ByteArray.size_append, e1]; omega), if_pos ⟨rfl, rfl⟩]
theorem cut_len (l : Bs) : (Lib.cut l [47]).1.length ≤ l.length ∧ (Lib.cut l [47]).2.1.length ≤ l.length := by
  rcases cut_cases l with ⟨a, b, e, _, h⟩ | ⟨_, h⟩
  · rw [h, e]; simp; omega
  · rw [h]; simp
theorem split_val (p : ByteArray) (h : p.size < 4294967281) : name_Split.f p = some (splitF p) := by
  have hl := cut_len (bytes p)
  rw [bytes_length] at hl
  unfold name_Split.f splitF strings_Cut.f
  rw [if_pos h]
  simp only [Option.bind_some]
  rw [show bytes (⟨#[47]⟩ : ByteArray) = [47] from rfl, right_val _ (by rw [size_ofBytes]; omega), right_val _ (by rw [size_ofBytes]; omega), bytes_ofBytes, bytes_ofBytes]
  simp only [Option.bind_some]
  cases rightN (Lib.cut (bytes p) [47]).1 with
  | false => rw [if_neg (by simp), if_neg (by simp)]
  | true =>
    rw [if_pos rfl]
    cases rightN (Lib.cut (bytes p) [47]).2.1 with
    | false => rw [if_neg (by simp), if_neg (by simp)]
    | true => rw [if_pos rfl, if_pos ⟨rfl, rfl⟩]
theorem bytes_path (a b : ByteArray) : bytes ((a ++ ⟨#[47]⟩) ++ b) = bytes a ++ 47 :: bytes b := by
  rw [bytes_append, bytes_append, show bytes (⟨#[47]⟩ : ByteArray) = [47] from rfl, List.append_assoc]; rfl
/-- Two names make a path that is parted in them again. -/
theorem split_path {a b : ByteArray} (ha : rightN (bytes a) = true) (hb : rightN (bytes b) = true) : splitF ((a ++ ⟨#[47]⟩) ++ b) = (a, b, 0) := by
  unfold splitF
  rw [bytes_path, cut_at (no_slash ha), if_pos ⟨ha, hb⟩, ofBytes_bytes, ofBytes_bytes]
theorem split_bad {p : ByteArray} (h : ∀ a b : Bs, bytes p = a ++ 47 :: b → rightN a = true → rightN b = true → False) : splitF p = (⟨#[]⟩, ⟨#[]⟩, 3) := by
  unfold splitF
  rcases cut_cases (bytes p) with ⟨a, b, e, hn, hc⟩ | ⟨hn, hc⟩
  · rw [hc, if_neg (fun hh => h a b e hh.1 hh.2)]
  · rw [hc, if_neg (fun hh => by rw [show ((bytes p, ([] : Bs), false) : Bs × Bs × Bool).2.1 = [] from rfl, right_nil] at hh; simp at hh)]
theorem split_ok {p a b : ByteArray} (h : splitF p = (a, b, 0)) : p = (a ++ ⟨#[47]⟩) ++ b ∧ rightN (bytes a) = true ∧ rightN (bytes b) = true := by
  unfold splitF at h
  split at h
  · rename_i hr
    simp only [Prod.mk.injEq, and_true] at h
    obtain ⟨rfl, rfl⟩ := h
    rcases cut_cases (bytes p) with ⟨a, b, e, hn, hc⟩ | ⟨hn, hc⟩
    · rw [hc] at hr ⊢
      refine ⟨bs_inj ?_, by rw [bytes_ofBytes]; exact hr.1, by rw [bytes_ofBytes]; exact hr.2⟩
      rw [bytes_path, bytes_ofBytes, bytes_ofBytes]; exact e
    · rw [hc] at hr
      rw [show ((bytes p, ([] : Bs), false) : Bs × Bs × Bool).2.1 = [] from rfl, right_nil] at hr
      simp at hr
  · simp at h
theorem make_ascii {l : List Int} (h : ∀ r ∈ l, 0 ≤ r ∧ r ≤ 127) : makeD l = l.map fun r => r.toNat.toUInt8 := by
  induction l with
  | nil => rfl
  | cons r l ih =>
    have hr := h r List.mem_cons_self
    rw [makeD_cons, ih (fun x hx => h x (List.mem_cons_of_mem _ hx))]
    unfold Lib.encodeRune
    rw [Lib.encodeRuneZ_one hr.1 hr.2]; rfl
theorem shown1_val : letterlocklaw1_shown.f = some true := by
  have h1 : rightN [97, 110, 110, 97] = true := by
    rw [show ([97, 110, 110, 97] : Bs) = makeD [97, 110, 110, 97] by rw [make_ascii (by decide)]; decide, right_make (by decide)]; decide
  have h2 : rightN [110, 111, 116, 101, 115] = true := by
    rw [show ([110, 111, 116, 101, 115] : Bs) = makeD [110, 111, 116, 101, 115] by rw [make_ascii (by decide)]; decide, right_make (by decide)]; decide
  have hp : (⟨#[97, 110, 110, 97, 47, 110, 111, 116, 101, 115]⟩ : ByteArray) = (((⟨#[97, 110, 110, 97]⟩ : ByteArray) ++ ⟨#[47]⟩) ++ ⟨#[110, 111, 116, 101, 115]⟩) := rfl
  have hs := split_path (a := ⟨#[97, 110, 110, 97]⟩) (b := ⟨#[110, 111, 116, 101, 115]⟩) h1 h2
  unfold letterlocklaw1_shown.f
  rw [split_val _ (by decide), hp, hs]
  simp only [Option.bind_some]
  rw [if_pos (by rw [bytes_toList]; rfl), if_pos (by rw [bytes_toList]; rfl)]
  rfl

end Go.Proofs.YtngdpoghfacokaaDoor.Ref
