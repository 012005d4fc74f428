/- Bytes and big-endian numbers in plain Lean: what wire's texts come to. No program is in sight. -/
import Derived.Lib.Strings
namespace Go.Proofs.YtfhanoloaejmkaaDoor

abbrev Bs := List UInt8
def bytes (s : ByteArray) : Bs := s.data.toList
def ofBytes (l : Bs) : ByteArray := ⟨l.toArray⟩
theorem bytes_ofBytes (l : Bs) : bytes (ofBytes l) = l := by simp [bytes, ofBytes]
theorem ofBytes_bytes (s : ByteArray) : ofBytes (bytes s) = s := by
  cases s; simp [bytes, ofBytes]
theorem bs_inj {s t : ByteArray} (h : bytes s = bytes t) : s = t := by rw [← ofBytes_bytes s, h, ofBytes_bytes]
theorem ofBytes_inj {s t : Bs} (h : ofBytes s = ofBytes t) : s = t := by rw [← bytes_ofBytes s, h, bytes_ofBytes]
theorem bytes_length (s : ByteArray) : (bytes s).length = s.size := (Lib.size_eq s).symm
theorem size_ofBytes (l : Bs) : (ofBytes l).size = l.length := by rw [← bytes_length, bytes_ofBytes]
theorem bytes_toList (s : ByteArray) : s.toList = bytes s := Lib.toList_data s
theorem bytes_append (s t : ByteArray) : bytes (s ++ t) = bytes s ++ bytes t := by simp [bytes]
theorem ofBytes_append (s t : Bs) : ofBytes (s ++ t) = ofBytes s ++ ofBytes t := bs_inj (by rw [bytes_append, bytes_ofBytes, bytes_ofBytes, bytes_ofBytes])
theorem bytes_extract (s : ByteArray) (a b : Nat) : bytes (s.extract a b) = ((bytes s).drop a).take (b - a) := Lib.extract_data s a b
theorem bytes_from (s : ByteArray) (a : Nat) : bytes (s.extract a s.size) = (bytes s).drop a := by
  rw [bytes_extract, List.take_of_length_le (by rw [List.length_drop, bytes_length]; omega)]
theorem bytes_to (s : ByteArray) (b : Nat) : bytes (s.extract 0 b) = (bytes s).take b := by
  rw [bytes_extract]; simp

theorem snoc_ind {α : Type} {p : List α → Prop} (h0 : p []) (h1 : ∀ l a, p l → p (l ++ [a])) (l : List α) : p l := by
  have : ∀ r : List α, p r.reverse := by
    intro r
    induction r with
    | nil => exact h0
    | cons a r ih => rw [List.reverse_cons]; exact h1 _ _ ih
  have h := this l.reverse
  rwa [List.reverse_reverse] at h

/-- The number that bytes write, the greatest first. -/
def beNum (l : Bs) : Nat := l.foldl (fun n b => n * 256 + b.toNat) 0
theorem beNum_nil : beNum [] = 0 := rfl
theorem beNum_snoc (l : Bs) (b : UInt8) : beNum (l ++ [b]) = beNum l * 256 + b.toNat := by simp [beNum, List.foldl_append]
theorem beNum_lt (l : Bs) : beNum l < 256 ^ l.length := by
  induction l using snoc_ind with
  | h0 => simp [beNum]
  | h1 l b ih =>
    rw [beNum_snoc, List.length_append, List.length_singleton, Nat.pow_succ]
    have := b.toNat_lt
    omega
theorem take_succ_get (l : Bs) (k : Nat) (h : k < l.length) : l.take (k + 1) = l.take k ++ [l[k]] := by
  rw [List.take_succ_eq_append_getElem h]

/-- wire.Take in plain words: a number and what is behind it. -/
def takeL : Bs → Option (Nat × Bs)
  | [] => none
  | c :: r => if 8 < c.toNat then none else if r.length < c.toNat then none else if 0 < c.toNat ∧ r.head? = some 0 then none else some (beNum (r.take c.toNat), r.drop c.toNat)
def takeF (s : ByteArray) : Int × ByteArray × Int :=
  match takeL (bytes s) with
  | none => (0, ⟨#[]⟩, 2)
  | some (n, r) => (n, ofBytes r, 0)

end Go.Proofs.YtfhanoloaejmkaaDoor
