/- What the printed words of wire and term come to: numbers, texts, pairs, hashes, at right terms too. -/
import Derived.Test.YtnieihhnchefdaaHub
namespace Go.Proofs.Ytnieihhnchefdaa.Ref
open Go.RowKit Go.Proofs.Ytnieihhnchefdaa Go.Proofs.Ytnieihhnchefdaa.PA Go.Proofs.YtnieihhnchefdaaW.PrintWords Go.Proofs.YtnieihhnchefdaaW.PrintLast
set_option linter.unusedVariables false


theorem Ev.pos {α : Type} {c : Prop} [Decidable c] {f g : Nat → Option α} {r : α} (h : c) (k : Ev f r) : Ev (fun n => if c then f n else g n) r := by
  simp only [if_pos h]; exact k
theorem Ev.neg {α : Type} {c : Prop} [Decidable c] {f g : Nat → Option α} {r : α} (h : ¬ c) (k : Ev g r) : Ev (fun n => if c then f n else g n) r := by
  simp only [if_neg h]; exact k
theorem Ev.const {α : Type} {g : Option α} {r : α} (h : g = some r) : Ev (fun _ => g) r := ⟨0, fun _ _ => h⟩
theorem Ev.put {α β : Type} {g : Option α} {f : Nat → α → Option β} {a : α} {r : β} (h : g = some a) (k : Ev (fun n => f n a) r) : Ev (fun n => g.bind (f n)) r := Ev.bind (Ev.const h) k
theorem ev_cast {α : Type} {g : Nat → Option α} {r s : α} (h : Ev g r) (e : r = s) : Ev g s := e ▸ h

theorem w64 {n : Int} (h0 : -9223372036854775808 ≤ n) (h1 : n ≤ 9223372036854775807) : wrap64 n = n := by unfold wrap64; omega
theorem nums_bytes (l : List Int) : bytes (strOfNums l) = l.map fun n => UInt8.ofNat n.toNat := strOfNums_data l
theorem nums_of (l : List Int) : strOfNums l = ofBytes (l.map fun n => UInt8.ofNat n.toNat) := bs_inj (by rw [nums_bytes, bytes_ofBytes])
theorem u8_mod (n : Nat) : UInt8.ofNat (n % 256) = UInt8.ofNat n := UInt8.toNat_inj.1 (by rw [UInt8.toNat_ofNat', UInt8.toNat_ofNat']; omega)

/-! ### wire.Put -/
theorem beBytes_bits {n : Nat} (h : n < 18446744073709551616) : (beBytes n).length = (Lib.bitLen n + 7) / 8 := by
  induction n using Nat.strongRecOn with
  | _ n ih =>
    by_cases h0 : n = 0
    · subst h0
      rw [beBytes_zero]
      rfl
    by_cases h1 : n < 256
    · have h2 := Lib.bitLen_le8 ⟨n, h1⟩
      have h3 := Lib.bitLen_half n h0 (by omega)
      have h2 : Lib.bitLen n ≤ 8 := h2
      rw [beBytes_pos h0, show n / 256 = 0 from by omega, beBytes_zero]
      simp only [List.nil_append, List.length_singleton]
      omega
    · have h2 := Lib.bitLen_shift8 n (by omega) h
      have h3 := ih (n / 256) (by omega) (by omega)
      rw [beBytes_pos h0, List.length_append, h3, List.length_singleton]
      omega
theorem put_loop (i x : Nat) (h : Int) (zs tl : List Int) (hz : zs.length = i) (hx : (beBytes x).length = i) (hi : i ≤ 8) :
    Ev (fun k => wire_Put.l0 k (x : Int) (h :: (zs ++ tl)) (i : Int)) (strOfNums (h :: ((beBytes x).map (fun c => (c.toNat : Int)) ++ tl))) := by
  induction i generalizing x zs tl with
  | zero =>
    obtain rfl := List.length_eq_zero_iff.1 hz
    have : beBytes x = [] := List.length_eq_zero_iff.1 hx
    rw [this]
    refine Ev.step (fun _ => rfl) (Ev.neg (by simp) (Ev.now _))
  | succ i ih =>
    have hx0 : x ≠ 0 := by rintro rfl; rw [beBytes_zero] at hx; simp at hx
    rw [beBytes_pos hx0] at hx
    simp only [List.length_append, List.length_singleton, Nat.add_right_cancel_iff] at hx
    obtain ⟨ys, z, rfl⟩ : ∃ ys z, zs = ys ++ [z] := ⟨zs.dropLast, zs.getLast (by rintro rfl; simp at hz), (List.dropLast_concat_getLast _).symm⟩
    simp only [List.length_append, List.length_singleton, Nat.add_right_cancel_iff] at hz
    refine Ev.step (fun _ => rfl) (Ev.pos (by omega) (Ev.pos (by omega) (Ev.pos (by simp only [List.length_cons, List.length_append, hz]; omega) ?_)))
    have h1 : (h :: (ys ++ [z] ++ tl)).set (((i + 1 : Nat) : Int)).toNat ((x : Int) % 256) = h :: (ys ++ ((x : Int) % 256 :: tl)) := by
      rw [Int.toNat_natCast, List.set_cons_succ, List.append_assoc, List.set_append_right _ _ (by omega), hz, Nat.sub_self]
      rfl
    have h2 : wrap64 (((i + 1 : Nat) : Int) - 1) = (i : Int) := by rw [w64 (by omega) (by omega)]; omega
    rw [h1, h2]
    refine ev_cast (ih (x / 256) ys ((x : Int) % 256 :: tl) hz hx (by omega)) ?_
    rw [beBytes_pos hx0, List.map_append, List.append_assoc]
    congr 3
    simp only [List.map_cons, List.map_nil, List.singleton_append, toNat_mod]
    congr 1
theorem ofNat_map (l : Bs) : (l.map (fun c => (c.toNat : Int))).map (fun n => UInt8.ofNat n.toNat) = l := by
  rw [List.map_map]
  conv => rhs; rw [← List.map_id l]
  congr 1
  funext c
  simp [UInt8.ofNat_toNat]
theorem wirePut_ev (n : Nat) (h : n < 18446744073709551616) : Ev (fun k => wire_Put.f k (n : Int)) (ofBytes (putL n)) := by
  have hb := beBytes_bits h
  have h8 := beBytes_len8 h
  have hl : bits_Len64.f (n : Int) = some ((Lib.bitLen n : Nat) : Int) := by
    unfold bits_Len64.f
    rw [if_pos ⟨by omega, by omega⟩, Int.toNat_natCast]
  have h1 : wrap64 (Int.tdiv (wrap64 (((Lib.bitLen n : Nat) : Int) + 7)) 8) = ((beBytes n).length : Int) := by
    rw [w64 (n := ((Lib.bitLen n : Nat) : Int) + 7) (by omega) (by omega), Int.tdiv_eq_ediv_of_nonneg (by omega), hb]
    rw [w64 (by omega) (by omega)]
    omega
  unfold wire_Put.f
  refine Ev.put hl ?_
  rw [h1, w64 (n := 1 + ((beBytes n).length : Int)) (by omega) (by omega)]
  refine Ev.pos (by omega) (Ev.pos (by omega) (Ev.put rfl (Ev.pos (by rw [List.length_replicate]; omega) ?_)))
  rw [show (1 + ((beBytes n).length : Int)).toNat = (beBytes n).length + 1 from by omega, List.replicate_succ]
  have h2 := put_loop (beBytes n).length n (((beBytes n).length : Int) % 256) (List.replicate (beBytes n).length 0) [] (by simp) rfl h8
  rw [List.append_nil] at h2
  refine ev_cast h2 ?_
  rw [nums_of, List.append_nil, List.map_cons, ofNat_map]
  unfold putL
  clear h2 h1 hl
  congr 2
  rw [show (((beBytes n).length : Int) % 256).toNat = (beBytes n).length % 256 from by omega]
  exact u8_mod _
def numB (n : Nat) : ByteArray := ofBytes (putL n)
theorem size_numB {n : Nat} (h : n < 18446744073709551616) : (numB n).size ≤ 9 := by
  unfold numB; rw [size_ofBytes]; exact putL_len h

/-! ### Texts, atoms, hashes, pairs -/
theorem joinB_two (a b : ByteArray) : joinB [a, b] = a ++ b := by
  unfold joinB
  simp only [List.flatMap_cons, List.flatMap_nil, List.append_nil]
  rw [ofBytes_append, ofBytes_bytes, ofBytes_bytes]
theorem putText_ev (s : ByteArray) (h : s.size ≤ 100000000000000) : Ev (fun k => wire_PutText.f k s) (numB s.size ++ s) := by
  have hw : IntKind.u64.wrap (s.size : Int) = (s.size : Int) := by rw [IntKind.wrap_u64]; omega
  unfold wire_PutText.f
  rw [hw]
  refine Ev.bind (wirePut_ev s.size (by omega)) (Ev.put (a := numB s.size ++ s) ?_ (Ev.now _))
  have := size_numB (n := s.size) (by omega)
  show wire_join.f [numB s.size, s] = _
  unfold wire_join.f
  rw [if_pos ⟨by simp, by rw [joinB_two, ByteArray.size_append]; omega⟩, joinB_two]
def textB (s : ByteArray) : ByteArray := (⟨#[116]⟩ : ByteArray) ++ (numB s.size ++ s)
def textF (s : ByteArray) : ByteArray × Int := if (textB s).size > 4000 then (⟨#[]⟩, 10) else (textB s, 0)
theorem ofText_ev (s : ByteArray) (h : s.size ≤ 100000000000000) : Ev (fun k => term_OfText.f k s) (textF s) := by
  have h1 := size_numB (n := s.size) (by omega)
  have h2 : (numB s.size ++ s).size ≤ 100000000000009 := by rw [ByteArray.size_append]; omega
  unfold term_OfText.f
  refine Ev.bind (putText_ev s h) (Ev.pos (by omega) ?_)
  unfold textF textB
  by_cases h3 : ((⟨#[116]⟩ : ByteArray) ++ (numB s.size ++ s)).size > 4000
  · rw [if_pos h3]
    exact Ev.pos (by omega) (Ev.now _)
  · rw [if_neg h3]
    exact Ev.neg (by omega) (Ev.now _)
def atomB (n : Nat) : ByteArray := (⟨#[97]⟩ : ByteArray) ++ numB n
theorem size_one (c : UInt8) : (⟨#[c]⟩ : ByteArray).size = 1 := rfl
theorem size_atomB {n : Nat} (h : n < 18446744073709551616) : (atomB n).size ≤ 10 := by
  unfold atomB
  have := size_numB h
  rw [ByteArray.size_append, size_one]; omega
theorem of_val (c : ByteArray) (l : List ByteArray) (hc : c.size ≤ 1000000) (hl : l.length ≤ 1000000) (h : ∀ s ∈ l, s.size ≤ 9223372036854774000) : term_of.f c l = some (ofF c l) := by
  unfold term_of.f
  rw [if_pos ⟨hc, hl, by simpa using h⟩]
def hashF (s : ByteArray) : ByteArray × Int := ofF (⟨#[104]⟩ : ByteArray) [s]
def pairF (a b : ByteArray) : ByteArray × Int := ofF (⟨#[112]⟩ : ByteArray) [a, b]
theorem hash_val (s : ByteArray) (h : s.size ≤ 9223372036854774000) : term_OfHash.f s = some (hashF s) := by
  unfold term_OfHash.f
  rw [of_val _ _ (by rw [size_one]; omega) (by simp) (by simpa using h)]
  rfl
theorem pair_val (a b : ByteArray) (ha : a.size ≤ 9223372036854774000) (hb : b.size ≤ 9223372036854774000) : term_OfPair.f a b = some (pairF a b) := by
  unfold term_OfPair.f
  rw [of_val _ _ (by rw [size_one]; omega) (by simp) (by simpa using ⟨ha, hb⟩)]
  rfl

/-! ### Right terms -/
theorem right_big {s : ByteArray} (h : 4000 < s.size) : right s = false := by
  cases hr : right s with
  | false => rfl
  | true => have := right_size hr; omega
theorem empty_wrong : right (⟨#[]⟩ : ByteArray) = false := by decide
theorem right_of {s : ByteArray} {t : T} (h : bytes s = enc t) (hw : Wf t) : right s = true := by
  unfold right; rw [h, termOf_enc hw]; rfl
theorem right_inv {s : ByteArray} (h : right s = true) : ∃ t, Wf t ∧ bytes s = enc t := by
  obtain ⟨t, ht⟩ := Option.isSome_iff_exists.1 h
  obtain ⟨h1, h2⟩ := termOf_inv ht
  exact ⟨t, h2, h1⟩
theorem ofF_size (c : ByteArray) (l : List ByteArray) : (ofF c l).1.size ≤ 4000 := by
  unfold ofF
  split
  · split
    · rename_i h; exact right_size h
    · exact Nat.zero_le _
  · exact Nat.zero_le _
theorem ofF_right {c : ByteArray} {l : List ByteArray} (h : (ofF c l).2 = 0) : right (ofF c l).1 = true := by
  unfold ofF at h ⊢
  split
  · rename_i h1
    rw [if_pos h1] at h
    split
    · rename_i h2; exact h2
    · rename_i h2; rw [if_neg h2] at h; simp at h
  · rename_i h1; rw [if_neg h1] at h; simp at h
theorem kindF_zero (s : ByteArray) : kindF s = 0 ↔ right s = false := by
  unfold kindF right
  cases h : termOf (bytes s) with
  | none => simp
  | some t =>
    have : t.code.toNat ≠ 0 := by
      cases t with
      | atom n => exact (by decide : (97 : UInt8).toNat ≠ 0)
      | text n => exact (by decide : (116 : UInt8).toNat ≠ 0)
      | one k a => exact (by cases k <;> decide : k.code.toNat ≠ 0)
      | two k a b => exact (by cases k <;> decide : k.code.toNat ≠ 0)
    simp only [Option.isSome_some]
    constructor
    · intro h; omega
    · intro h; simp at h
theorem bytes_numB (n : Nat) : bytes (numB n) = putL n := bytes_ofBytes _
theorem bytes_one (c : UInt8) : bytes (⟨#[c]⟩ : ByteArray) = [c] := rfl
theorem bytes_textB (s : ByteArray) : bytes (textB s) = enc (.text (bytes s)) := by
  unfold textB
  rw [bytes_append, bytes_append, bytes_one, bytes_numB]
  show _ = 116 :: putT (bytes s)
  unfold putT
  rw [bytes_length]; rfl
theorem bytes_atomB (n : Nat) : bytes (atomB n) = enc (.atom n) := by
  unfold atomB
  rw [bytes_append, bytes_one, bytes_numB]; rfl
theorem right_textB (s : ByteArray) : right (textB s) = decide ((textB s).size ≤ 4000) := by
  by_cases h : (textB s).size ≤ 4000
  · rw [decide_eq_true h]
    refine right_of (bytes_textB s) ⟨?_, ?_⟩
    · show (bytes s).length ≤ 4000
      have : s.size ≤ (textB s).size := by unfold textB; rw [ByteArray.size_append, ByteArray.size_append]; omega
      rw [bytes_length]; omega
    · rw [← bytes_textB, bytes_length]; exact h
  · rw [decide_eq_false h]
    exact right_big (by omega)
theorem right_atomB {n : Nat} (h : n < 18446744073709551616) : right (atomB n) = true :=
  right_of (bytes_atomB n) ⟨h, by rw [← bytes_atomB, bytes_length]; have := size_atomB h; omega⟩
theorem textF_right (s : ByteArray) : textF s = if right (textB s) = true then (textB s, 0) else (⟨#[]⟩, 10) := by
  unfold textF
  rw [right_textB]
  by_cases h : (textB s).size ≤ 4000
  · rw [if_neg (by omega), decide_eq_true h, if_pos rfl]
  · rw [if_pos (by omega), decide_eq_false h, if_neg (by simp)]
theorem textF_size (s : ByteArray) : (textF s).1.size ≤ 4000 := by
  unfold textF
  split
  · exact Nat.zero_le _
  · rename_i h; show (textB s).size ≤ 4000; omega
theorem ofF_err {c : ByteArray} {l : List ByteArray} (h : (ofF c l).2 ≠ 0) : (ofF c l).1 = ⟨#[]⟩ := by
  unfold ofF at h ⊢
  split
  · rename_i h1
    rw [if_pos h1] at h
    split
    · rename_i h2; rw [if_pos h2] at h; exact absurd rfl h
    · rfl
  · rfl
theorem hash_size (s : ByteArray) : (hashF s).1.size ≤ 4000 := ofF_size _ _
theorem pair_size (a b : ByteArray) : (pairF a b).1.size ≤ 4000 := ofF_size _ _
theorem kind_val (s : ByteArray) (h : s.size ≤ 9223372036854774000) : term_Kind.f s = some (kindF s) := by
  unfold term_Kind.f; rw [if_pos h]
theorem hash_of {s : ByteArray} {t : T} (h : bytes s = enc t) (hw : Wf (.one .h t)) : hashF s = (⟨#[104]⟩ ++ s, 0) := by
  have h1 : right s = true := right_of h ⟨ok_mono (d := 39) (show ok 39 t from hw.1) (by omega), by have := hw.2; simp only [enc, List.length_cons] at this; omega⟩
  have h2 : right ((⟨#[104]⟩ : ByteArray) ++ s) = true := right_of (t := .one .h t) (by rw [bytes_append, h]; rfl) hw
  unfold hashF ofF
  rw [if_pos (by simp [h1]), if_pos (show right (catB ⟨#[104]⟩ [s]) = true from h2)]
  rfl
def tm (t : T) : ByteArray := ofBytes (enc t)
theorem bytes_tm (t : T) : bytes (tm t) = enc t := bytes_ofBytes _
theorem size_tm (t : T) : (tm t).size = (enc t).length := size_ofBytes _
theorem right_tm {t : T} (h : Wf t) : right (tm t) = true := right_of (bytes_tm t) h
theorem hash_tm {t : T} (hw : Wf (.one .h t)) : hashF (tm t) = (tm (.one .h t), 0) := by
  rw [hash_of (bytes_tm t) hw, show (⟨#[104]⟩ : ByteArray) ++ tm t = tm (.one .h t) from bs_inj (by rw [bytes_append, bytes_tm, bytes_tm]; rfl)]
theorem pair_tm {a b : T} (hw : Wf (.two .p a b)) : pairF (tm a) (tm b) = (tm (.two .p a b), 0) := by
  have ha : Wf a := ⟨ok_mono (d := 39) hw.1.1 (by omega), by have := hw.2; simp only [enc, List.length_cons, List.length_append] at this; omega⟩
  have hb : Wf b := ⟨ok_mono (d := 39) hw.1.2.1 (by omega), by have := hw.2; simp only [enc, List.length_cons, List.length_append] at this; omega⟩
  have he : catB ⟨#[112]⟩ [tm a, tm b] = tm (.two .p a b) := bs_inj (by
    show bytes ((⟨#[112]⟩ ++ tm a) ++ tm b) = _
    rw [bytes_append, bytes_append, bytes_tm, bytes_tm, bytes_tm]
    simp only [enc, K2.code]
    rfl)
  unfold pairF ofF
  rw [he, if_pos (by simp [right_tm ha, right_tm hb]), if_pos (right_tm hw)]
theorem textB_tm (s : ByteArray) : textB s = tm (.text (bytes s)) := bs_inj (by rw [bytes_textB, bytes_tm])
theorem atomB_tm (n : Nat) : atomB n = tm (.atom n) := bs_inj (by rw [bytes_atomB, bytes_tm])
theorem len_text (s : ByteArray) (h : s.size ≤ 4000) : (enc (.text (bytes s))).length ≤ 10 + s.size := by
  rw [← bytes_textB, bytes_length]
  have := size_numB (n := s.size) (by omega)
  unfold textB
  rw [ByteArray.size_append, ByteArray.size_append, size_one]; omega
theorem len_atom (n : Nat) (h : n < 18446744073709551616) : (enc (.atom n)).length ≤ 10 := by
  rw [← bytes_atomB, bytes_length]; exact size_atomB h
theorem ofF_codes2 {c : ByteArray} {l : List ByteArray} (h : l.all right = true) : (ofF c l).2 = 0 ∨ (ofF c l).2 = 10 := by
  unfold ofF
  rw [if_pos h]
  split
  · exact Or.inl rfl
  · exact Or.inr rfl
theorem right_tm_of {s : ByteArray} (h : right s = true) : ∃ t, Wf t ∧ s = tm t := by
  obtain ⟨t, h1, h2⟩ := right_inv h
  exact ⟨t, h1, bs_inj (by rw [h2, bytes_tm])⟩
theorem hash_inv {t : T} (ht : Wf t) (h : (hashF (tm t)).2 = 0) : hashF (tm t) = (tm (.one .h t), 0) ∧ Wf (.one .h t) := by
  have h1 := ofF_right h
  have hv : (hashF (tm t)).1 = tm (.one .h t) := by
    have h2 : (hashF (tm t)).1 = catB ⟨#[104]⟩ [tm t] := by
      unfold hashF ofF at h ⊢
      rw [if_pos (by simp [right_tm ht])] at h ⊢
      split
      · rfl
      · rename_i h2; rw [if_neg h2] at h; exact absurd h (by simp)
    rw [h2]
    exact bs_inj (by show bytes (⟨#[104]⟩ ++ tm t) = _; rw [bytes_append, bytes_tm, bytes_tm]; rfl)
  refine ⟨Prod.ext hv h, ?_⟩
  have h1 : right (hashF (tm t)).1 = true := h1
  rw [hv] at h1
  obtain ⟨u, hu, he⟩ := right_inv h1
  rw [bytes_tm] at he
  have := enc_inj (d := 41) (show ok 41 (.one .h t) from ht.1) (ok_mono hu.1 (by omega)) he
  rw [this]; exact hu
theorem parts_hash {t : T} (h : Wf (.one .h t)) : partsF (tm (.one .h t)) = ([tm t], 0) := by
  unfold partsF
  rw [bytes_tm, termOf_enc h]
  rfl
theorem kind_hash {t : T} (h : Wf (.one .h t)) : kindF (tm (.one .h t)) = 104 := by
  unfold kindF
  rw [bytes_tm, termOf_enc h]
  rfl

end Go.Proofs.Ytnieihhnchefdaa.Ref
