/- What the printed words of names come to: runes, texts made of runes, folded; the reference's texts made of runes; names made of numbers. -/
import Derived.Test.YtngdpoghfacokaaDoorEvName
namespace Go.Proofs.YtngdpoghfacokaaDoor.Ref
open Go.RowKit Go.Proofs.YtngdpoghfacokaaDoor Go.Proofs.YtngdpoghfacokaaDoor.PA Go.Proofs.YtngdpoghfacokaaDoorW.PrintWords Go.Proofs.YtngdpoghfacokaaDoorW.PrintLast
set_option linter.unusedVariables false

def runesF (s : ByteArray) : List Int × Int := (if Lib.validD (bytes s) = true then runesD (bytes s) else [], if Lib.validD (bytes s) = true then 0 else 2)
theorem runes_val (s : ByteArray) (h : s.size ≤ 1000000) : name_Runes.f s = some (runesF s) := by unfold name_Runes.f runesF; rw [if_pos h]
theorem make_val (l : List Int) (h : l.length ≤ 1000000) : name_Make.f l = some (makeF l) := by unfold name_Make.f; rw [if_pos h]
def foldF (s : ByteArray) : ByteArray := ofBytes (foldD (bytes s))
theorem fold_val (s : ByteArray) (h : s.size ≤ 1000000) : name_Fold.f s = some (foldF s) := by unfold name_Fold.f foldF; rw [if_pos h]
theorem bytes_foldF (s : ByteArray) : bytes (foldF s) = foldD (bytes s) := bytes_ofBytes _
theorem size_foldF (s : ByteArray) : (foldF s).size = s.size := by rw [← bytes_length, bytes_foldF, fold_len, bytes_length]
theorem runesF_valid {s : ByteArray} (h : Lib.validD (bytes s) = true) : runesF s = (runesD (bytes s), 0) := by unfold runesF; rw [if_pos h, if_pos h]
theorem runesF_bad {s : ByteArray} (h : Lib.validD (bytes s) = false) : runesF s = ([], 2) := by unfold runesF; rw [h]; rfl
theorem makeF_valid {l : List Int} (h : ∀ r ∈ l, ValidR r) : makeF l = (ofBytes (makeD l), 0) := by
  unfold makeF
  rw [if_pos (List.all_eq_true.2 fun r hr => decide_eq_true (h r hr))]
theorem makeF_cases (l : List Int) : ((∀ r ∈ l, ValidR r) ∧ makeF l = (ofBytes (makeD l), 0)) ∨ makeF l = (⟨#[]⟩, 1) := by
  by_cases h : l.all (fun r => decide (ValidR r)) = true
  · have h2 : ∀ r ∈ l, ValidR r := fun r hr => of_decide_eq_true (List.all_eq_true.1 h r hr)
    exact Or.inl ⟨h2, makeF_valid h2⟩
  · right
    unfold makeF
    rw [if_neg h]
theorem same_loop (a : List Int) (hlen : a.length ≤ 9223372036854775807) (m i : Nat) (hm : i + m = a.length) : Ev (fun k => letterlocklaw1_same.l0 k a a (i : Int)) true := by
  induction m generalizing i with
  | zero => exact Ev.step (fun _ => rfl) (Ev.neg (by omega) (Ev.now _))
  | succ m ih =>
    refine Ev.step (fun _ => rfl) (Ev.pos (by omega) (Ev.pos (by omega) (Ev.pos (by omega) (Ev.pos rfl ?_))))
    rw [w64 (by omega) (by omega)]
    exact ih (i + 1) (by omega)
theorem same_ev (a : List Int) (hlen : a.length ≤ 9223372036854775807) : Ev (fun k => letterlocklaw1_same.f k a a) true := by
  unfold letterlocklaw1_same.f
  exact Ev.pos rfl (same_loop a hlen a.length 0 (by omega))

/-! ### The reference's texts made of runes -/
theorem valid_ref (r : Int) : letterlockref1_valid.f r = some (decide (ValidR r)) := by
  unfold letterlockref1_valid.f
  by_cases h0 : r ≥ 0
  · rw [if_pos h0]
    by_cases h1 : r ≤ 1114111
    · rw [if_pos h1]
      by_cases h2 : r < 55296
      · rw [if_pos h2, decide_eq_true (show ValidR r from Or.inl ⟨h0, h2⟩)]
      · rw [if_neg h2]
        by_cases h3 : r > 57343
        · rw [decide_eq_true h3, decide_eq_true (show ValidR r from Or.inr ⟨h3, h1⟩)]
        · rw [decide_eq_false h3, decide_eq_false (fun h => by unfold ValidR at h; omega)]
    · rw [if_neg h1, decide_eq_false (fun h => by unfold ValidR at h; omega)]
  · rw [if_neg h0, decide_eq_false (fun h => by unfold ValidR at h; omega)]
theorem w32 {n : Int} (h0 : -2147483648 ≤ n) (h1 : n ≤ 2147483647) : wrap32 n = n := by unfold wrap32; omega
theorem nums_eq {l : List Int} {m : Bs} (h : l.map (fun n => UInt8.ofNat n.toNat) = m) : strOfNums l = ofBytes m := bs_inj (by rw [nums_bytes, bytes_ofBytes, h])
theorem one_ref {r : Int} (h : ValidR r) : letterlockref1_one.f r = some (ofBytes (Lib.encodeRune r)) := by
  have h0 : 0 ≤ r ∧ r ≤ 1114111 := by unfold ValidR at h; omega
  have td : ∀ d : Int, 0 < d → Int.tdiv r d = r / d := fun d _ => Int.tdiv_eq_ediv_of_nonneg h0.1
  have tm : ∀ d : Int, 0 < d → Int.tmod r d = r % d := fun d _ => Int.tmod_eq_emod_of_nonneg h0.1
  unfold letterlockref1_one.f Lib.encodeRune
  by_cases c1 : r < 128
  · rw [if_pos c1, Lib.encodeRuneZ_one h0.1 (by omega)]
    refine congrArg some (nums_eq ?_)
    simp only [List.map_cons, List.map_nil]
    rw [show r % 256 = r from by omega]
  rw [if_neg c1]
  by_cases c2 : r < 2048
  · rw [if_pos c2, Lib.encodeRuneZ_two (by omega) (by omega), td 64 (by omega), tm 64 (by omega)]
    refine congrArg some (nums_eq ?_)
    simp only [List.map_cons, List.map_nil]
    rw [w32 (n := r / 64) (by omega) (by omega), w32 (n := 192 + r / 64) (by omega) (by omega), w32 (n := 128 + r % 64) (by omega) (by omega), show (192 + r / 64) % 256 = 192 + r / 64 from by omega, show (128 + r % 64) % 256 = 128 + r % 64 from by omega]
  rw [if_neg c2]
  have td2 : ∀ e d : Int, 0 ≤ e → Int.tmod e d = e % d := fun e d he => Int.tmod_eq_emod_of_nonneg he
  by_cases c3 : r < 65536
  · rw [if_pos c3, Lib.encodeRuneZ_three (by unfold ValidR at h; omega), td 4096 (by omega), td 64 (by omega), tm 64 (by omega), w32 (n := r / 64) (by omega) (by omega), td2 (r / 64) 64 (by omega)]
    refine congrArg some (nums_eq ?_)
    simp only [List.map_cons, List.map_nil]
    rw [w32 (n := r / 4096) (by omega) (by omega), w32 (n := 224 + r / 4096) (by omega) (by omega), w32 (n := 128 + r / 64 % 64) (by omega) (by omega), w32 (n := 128 + r % 64) (by omega) (by omega),
      show (224 + r / 4096) % 256 = 224 + r / 4096 from by omega, show (128 + r / 64 % 64) % 256 = 128 + r / 64 % 64 from by omega, show (128 + r % 64) % 256 = 128 + r % 64 from by omega]
  · rw [if_neg c3, Lib.encodeRuneZ_four (by omega) (by omega), td 262144 (by omega), td 4096 (by omega), td 64 (by omega), tm 64 (by omega), w32 (n := r / 64) (by omega) (by omega), w32 (n := r / 4096) (by omega) (by omega), td2 (r / 64) 64 (by omega), td2 (r / 4096) 64 (by omega)]
    refine congrArg some (nums_eq ?_)
    simp only [List.map_cons, List.map_nil]
    rw [w32 (n := r / 262144) (by omega) (by omega), w32 (n := 240 + r / 262144) (by omega) (by omega), w32 (n := 128 + r / 4096 % 64) (by omega) (by omega), w32 (n := 128 + r / 64 % 64) (by omega) (by omega), w32 (n := 128 + r % 64) (by omega) (by omega),
      show (240 + r / 262144) % 256 = 240 + r / 262144 from by omega, show (128 + r / 4096 % 64) % 256 = 128 + r / 4096 % 64 from by omega, show (128 + r / 64 % 64) % 256 = 128 + r / 64 % 64 from by omega, show (128 + r % 64) % 256 = 128 + r % 64 from by omega]
theorem refMake_loop (l : List Int) (hlen : l.length ≤ 1000000) (m i : Nat) (hm : i + m = l.length) (hv : ∀ r ∈ l.take i, ValidR r) :
    Ev (fun k => letterlockref1_Make.l0 k l (ofBytes (makeD (l.take i))) (i : Int)) (makeF l) := by
  induction m generalizing i with
  | zero =>
    obtain rfl : i = l.length := by omega
    rw [List.take_length] at hv ⊢
    rw [makeF_valid hv]
    exact Ev.step (fun _ => rfl) (Ev.neg (by omega) (Ev.now _))
  | succ m ih =>
    have hi : i < l.length := by omega
    have hr := rd_get l i hi
    have ht := List.take_succ_eq_append_getElem hi
    have hl1 := makeD_len (l.take i)
    rw [List.length_take] at hl1
    refine Ev.step (fun _ => rfl) (Ev.pos (by omega) (Ev.pos (by omega) ?_))
    rw [hr]
    refine Ev.put (valid_ref l[i]) ?_
    by_cases h : ValidR l[i]
    · refine Ev.pos (decide_eq_true h) (Ev.put (one_ref h) (Ev.pos ?_ ?_))
      · rw [size_ofBytes, size_ofBytes]; have := encode_len l[i]; omega
      · rw [w64 (by omega) (by omega)]
        have := ih (i + 1) (by omega) (by
          intro r hr
          rw [ht] at hr
          rcases List.mem_append.1 hr with hr | hr
          · exact hv r hr
          · rw [List.mem_singleton.1 hr]; exact h)
        rw [ht, makeD_append, ofBytes_append, makeD_cons, makeD_nil, List.append_nil] at this
        exact this
    · have hm : makeF l = (⟨#[]⟩, 1) := by
        rcases makeF_cases l with ⟨h1, _⟩ | h1
        · exact absurd (h1 _ (List.getElem_mem hi)) h
        · exact h1
      rw [hm]
      exact Ev.neg (by simpa using h) (Ev.now _)
theorem refMake_ev (l : List Int) (hlen : l.length ≤ 1000000) : Ev (fun k => letterlockref1_Make.f k l) (makeF l) := by
  unfold letterlockref1_Make.f
  exact refMake_loop l hlen l.length 0 (by omega) (by simp)

/-! ### Names made of numbers -/
theorem pick1_val (n m : Int) (hn : (Lit.int .i64 n).wf = true) (hm : 0 < m) : ∃ r, letterlocklaw1_pick.f n m = some r ∧ 0 ≤ r ∧ r < m := by
  have hw : -9223372036854775808 ≤ n ∧ n ≤ 9223372036854775807 := by
    simpa [Lit.wf, IntKind.min, IntKind.max, IntKind.bits, IntKind.signed] using hn
  unfold letterlocklaw1_pick.f
  by_cases h0 : n < 0
  · rw [if_pos h0, if_neg (by omega), w64 (n := n + 1) (by omega) (by omega), w64 (by omega) (by omega)]
    exact ⟨_, rfl, by rw [Int.tmod_eq_emod_of_nonneg (by omega)]; exact ⟨Int.emod_nonneg _ (by omega), Int.emod_lt_of_pos _ hm⟩⟩
  · rw [if_neg h0, if_neg (by omega)]
    exact ⟨_, rfl, by rw [Int.tmod_eq_emod_of_nonneg (by omega)]; exact ⟨Int.emod_nonneg _ (by omega), Int.emod_lt_of_pos _ hm⟩⟩
theorem wrap64_wf' (n : Int) : (Lit.int .i64 (wrap64 n)).wf = true := wrap64_wf n
theorem named_letter {k p : Int} (hk0 : 0 ≤ k) (hk1 : k < 7) : 0 < rd [26, 10, 24, 8, 25, 32, 1] k ∧
    ∀ p, 0 ≤ p → p < rd [26, 10, 24, 8, 25, 32, 1] k → letterZ (wrap32 (rd [97, 48, 223, 248, 945, 1072, 45] k + wrap32 p)) = true := by
  have hk : k = 0 ∨ k = 1 ∨ k = 2 ∨ k = 3 ∨ k = 4 ∨ k = 5 ∨ k = 6 := by omega
  rcases hk with rfl | rfl | rfl | rfl | rfl | rfl | rfl
  · refine ⟨by decide, fun p h0 h1 => ?_⟩
    have h1 : p < 26 := h1
    rw [w32 (n := p) (by omega) (by omega), show rd [97, 48, 223, 248, 945, 1072, 45] 0 = 97 from rfl, w32 (by omega) (by omega), letter_iff]; omega
  · refine ⟨by decide, fun p h0 h1 => ?_⟩
    have h1 : p < 10 := h1
    rw [w32 (n := p) (by omega) (by omega), show rd [97, 48, 223, 248, 945, 1072, 45] 1 = 48 from rfl, w32 (by omega) (by omega), letter_iff]; omega
  · refine ⟨by decide, fun p h0 h1 => ?_⟩
    have h1 : p < 24 := h1
    rw [w32 (n := p) (by omega) (by omega), show rd [97, 48, 223, 248, 945, 1072, 45] 2 = 223 from rfl, w32 (by omega) (by omega), letter_iff]; omega
  · refine ⟨by decide, fun p h0 h1 => ?_⟩
    have h1 : p < 8 := h1
    rw [w32 (n := p) (by omega) (by omega), show rd [97, 48, 223, 248, 945, 1072, 45] 3 = 248 from rfl, w32 (by omega) (by omega), letter_iff]; omega
  · refine ⟨by decide, fun p h0 h1 => ?_⟩
    have h1 : p < 25 := h1
    rw [w32 (n := p) (by omega) (by omega), show rd [97, 48, 223, 248, 945, 1072, 45] 4 = 945 from rfl, w32 (by omega) (by omega), letter_iff]; omega
  · refine ⟨by decide, fun p h0 h1 => ?_⟩
    have h1 : p < 32 := h1
    rw [w32 (n := p) (by omega) (by omega), show rd [97, 48, 223, 248, 945, 1072, 45] 5 = 1072 from rfl, w32 (by omega) (by omega), letter_iff]; omega
  · refine ⟨by decide, fun p h0 h1 => ?_⟩
    have h1 : p < 1 := h1
    rw [w32 (n := p) (by omega) (by omega), show rd [97, 48, 223, 248, 945, 1072, 45] 6 = 45 from rfl, w32 (by omega) (by omega), letter_iff]; omega
theorem named_loop (l : List Int) (hl : ∀ x ∈ l, (Lit.int .i64 x).wf = true) (hlen : l.length ≤ 9223372036854775807) (m i : Nat) (hm : i + m = 31) (xs : List Int) (hx : xs.length = i + 1) (hv : ∀ r ∈ xs, letterZ r = true) :
    ∃ rs : List Int, (∀ r ∈ rs, letterZ r = true) ∧ 1 ≤ rs.length ∧ rs.length ≤ 32 ∧ Ev (fun k => letterlocklaw1_named.l0 k l [97, 48, 223, 248, 945, 1072, 45] [26, 10, 24, 8, 25, 32, 1] xs (i : Int)) (ofBytes (makeD rs)) := by
  have hend : Ev (fun k => letterlocklaw1_named.j1 k l [97, 48, 223, 248, 945, 1072, 45] [26, 10, 24, 8, 25, 32, 1] xs (i : Int) false) (ofBytes (makeD xs)) := by
    have h1 := refMake_ev xs (by omega)
    rw [makeF_valid (fun r hr => letter_valid (hv r hr))] at h1
    exact Ev.step (fun _ => rfl) (Ev.bind h1 (Ev.now _))
  induction m generalizing i xs with
  | zero =>
    refine ⟨xs, hv, by omega, by omega, Ev.step (fun _ => rfl) ?_⟩
    by_cases h : (i : Int) < (l.length : Int)
    · refine Ev.pos h ?_
      rw [decide_eq_false (by omega)]
      exact hend
    · exact Ev.neg h hend
  | succ m ih =>
    by_cases h : (i : Int) < (l.length : Int)
    · have hin := hl _ (rd_mem l (i : Int) (by rw [Int.toNat_natCast]; omega))
      obtain ⟨a, ha, ha0, ha1⟩ := pick1_val (rd l (i : Int)) 7 hin (by decide)
      obtain ⟨hmn, hlt⟩ := named_letter (p := 0) ha0 ha1
      obtain ⟨b, hb, hb0, hb1⟩ := pick1_val (wrap64 (Int.tdiv (rd l (i : Int)) 7)) (rd [26, 10, 24, 8, 25, 32, 1] a) (wrap64_wf _) hmn
      have hlt := hlt b hb0 hb1
      have hv2 : ∀ r ∈ xs ++ [wrap32 (rd [97, 48, 223, 248, 945, 1072, 45] a + wrap32 b)], letterZ r = true := by
        intro r hr
        rcases List.mem_append.1 hr with hr | hr
        · exact hv r hr
        · rw [List.mem_singleton.1 hr]; exact hlt
      obtain ⟨rs, r1, r2, r3, r4⟩ := ih (i + 1) (by omega) (xs ++ [wrap32 (rd [97, 48, 223, 248, 945, 1072, 45] a + wrap32 b)]) (by simp [hx]) hv2 (by
        have h1 := refMake_ev (xs ++ [wrap32 (rd [97, 48, 223, 248, 945, 1072, 45] a + wrap32 b)]) (by simp; omega)
        rw [makeF_valid (fun r hr => letter_valid (hv2 r hr))] at h1
        exact Ev.step (fun _ => rfl) (Ev.bind h1 (Ev.now _)))
      refine ⟨rs, r1, r2, r3, Ev.step (fun _ => rfl) (Ev.pos h ?_)⟩
      rw [decide_eq_true (by omega : (i : Int) < 31)]
      refine Ev.step (fun _ => rfl) (Ev.pos h (Ev.put ha (Ev.pos ha0 (Ev.pos (by simpa using ha1) (Ev.pos (by simpa using ha1) (Ev.put hb (Ev.pos (by omega) ?_)))))))
      rw [w64 (by omega) (by omega)]
      exact r4
    · exact ⟨xs, hv, by omega, by omega, Ev.step (fun _ => rfl) (Ev.neg h hend)⟩
theorem named_ev (l : List Int) (hl : ∀ x ∈ l, (Lit.int .i64 x).wf = true) (hlen : l.length ≤ 9223372036854775807) :
    ∃ rs : List Int, (∀ r ∈ rs, letterZ r = true) ∧ 1 ≤ rs.length ∧ rs.length ≤ 32 ∧ Ev (fun k => letterlocklaw1_named.f k l) (ofBytes (makeD rs)) := by
  obtain ⟨rs, h1, h2, h3, h4⟩ := named_loop l hl hlen 31 0 rfl [110] rfl (by decide)
  exact ⟨rs, h1, h2, h3, h4⟩
theorem named_right {rs : List Int} (h : ∀ r ∈ rs, letterZ r = true) (h1 : 1 ≤ rs.length) (h2 : rs.length ≤ 32) : rightN (bytes (ofBytes (makeD rs))) = true := by
  rw [bytes_ofBytes, right_make h, decide_eq_true ⟨h1, h2⟩]
theorem named_size {rs : List Int} (h2 : rs.length ≤ 32) : (ofBytes (makeD rs)).size ≤ 128 := by
  rw [size_ofBytes]; have := makeD_len rs; omega

end Go.Proofs.YtngdpoghfacokaaDoor.Ref
