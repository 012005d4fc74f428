/- Two names make a path that is parted in them again; a name is folded as it is, and with a great letter, a blank, or a slash in it is none: the printed law tells true for all numbers. -/
import Derived.Test.YtngdpoghfacokaaDoorEvName2
import Derived.Test.YtngdpoghfacokaaDoorPAx11
namespace Go.Proofs.YtngdpoghfacokaaDoor.Pure
open Go.RowKit Go.Proofs.YtngdpoghfacokaaDoor Go.Proofs.YtngdpoghfacokaaDoor.Ref Go.Proofs.YtngdpoghfacokaaDoor.PA Go.Proofs.YtngdpoghfacokaaDoorW.PrintWords Go.Proofs.YtngdpoghfacokaaDoorW.PrintLast
set_option linter.unusedVariables false

theorem cut_once {c : UInt8} {a b r s : Bs} (ha : c ∉ a) (hb : c ∉ b) (h : a ++ c :: r = b ++ c :: s) : a = b ∧ r = s := by
  induction a generalizing b with
  | nil =>
    cases b with
    | nil => exact ⟨rfl, by simpa using h⟩
    | cons x b =>
      simp only [List.nil_append, List.cons_append, List.cons.injEq] at h
      exact absurd h.1 (fun e => hb (by rw [e]; simp))
  | cons x a ih =>
    cases b with
    | nil =>
      simp only [List.nil_append, List.cons_append, List.cons.injEq] at h
      exact absurd h.1 (fun e => ha (by rw [← e]; simp))
    | cons y b =>
      simp only [List.cons_append, List.cons.injEq] at h
      obtain ⟨h1, h2⟩ := ih (b := b) (fun e => ha (List.mem_cons_of_mem _ e)) (fun e => hb (List.mem_cons_of_mem _ e)) h.2
      exact ⟨by rw [h.1, h1], h2⟩
/-- What is no name is not the first part of a path. -/
theorem split_odd {c b : ByteArray} (h : rightN (bytes c) = false) : splitF ((c ++ ⟨#[47]⟩) ++ b) = (⟨#[]⟩, ⟨#[]⟩, 3) := by
  refine split_bad fun x y e hx hy => ?_
  rw [bytes_path] at e
  rcases cut_cases (bytes c) with ⟨c1, c2, ec, hn, _⟩ | ⟨hn, _⟩
  · rw [ec, List.append_assoc, List.cons_append] at e
    obtain ⟨_, h2⟩ := cut_once (no_slash hx) hn e.symm
    exact no_slash hy (by rw [h2]; simp)
  · obtain ⟨h1, _⟩ := cut_once (no_slash hx) hn e.symm
    rw [h1, h] at hx
    simp at hx
theorem not_rune {rs : List Int} (hv : ∀ r ∈ rs, ValidR r) {r : Int} (hr : r ∈ rs) (hl : letterZ r = false) : rightN (makeD rs) = false := by
  obtain ⟨h1, h2⟩ := runes_of_make hv
  unfold rightN
  rw [h1, h2, List.all_eq_false.2 ⟨r, hr, by rw [hl]; simp⟩]
  rfl
theorem not_bad2 {h : List Int} (hv : ∀ r ∈ h, ValidR r) {l : Bs} (hne : l ≠ []) (hb : Bad l) : rightN (makeD h ++ l) = false := by
  unfold rightN
  rw [(runes_make hv l).2, valid_step hne, if_pos hb]
  rfl
theorem letter_head {t : List Int} (ht : ∀ r ∈ t, letterZ r = true) : makeD t = [] ∨ ∃ c l, makeD t = c :: l ∧ (c.toNat < 128 ∨ 192 ≤ c.toNat) := by
  cases t with
  | nil => exact Or.inl rfl
  | cons r t =>
    right
    have hr := (letter_iff r).1 (ht r List.mem_cons_self)
    rw [makeD_cons]
    unfold Lib.encodeRune
    by_cases c : r ≤ 127
    · rw [Lib.encodeRuneZ_one (by omega) c]
      exact ⟨_, _, rfl, Or.inl (by rw [byte_toNat rfl (by omega)]; omega)⟩
    · rw [Lib.encodeRuneZ_two (by omega) (by omega)]
      exact ⟨_, _, rfl, Or.inr (by rw [byte_toNat rfl (by omega)]; omega)⟩
theorem bad_one {t : List Int} (ht : ∀ r ∈ t, letterZ r = true) : Bad (128 :: makeD t) := by
  unfold Bad
  rw [Lib.decodeL_N]
  show (Lib.decodeN _ 128 _ _ _).1 = 65533 ∧ (Lib.decodeN _ 128 _ _ _).2 = 1
  unfold Lib.decodeN
  simp
theorem bad_two {t : List Int} (ht : ∀ r ∈ t, letterZ r = true) : Bad (195 :: makeD t) := by
  unfold Bad
  rw [Lib.decodeL_N]
  rcases letter_head ht with h | ⟨c, l, h, hc⟩
  · rw [h]; decide
  · rw [h]
    show (Lib.decodeN (l.length + 2) 195 c.toNat _ _).1 = 65533 ∧ (Lib.decodeN (l.length + 2) 195 c.toNat _ _).2 = 1
    have hlt := c.toNat_lt
    unfold Lib.decodeN
    rw [if_neg (by omega), if_neg (by omega), if_neg (by omega), if_neg (by omega)]
    exact ⟨rfl, rfl⟩
def odds : List ByteArray := [(⟨#[65]⟩ : ByteArray), (⟨#[32]⟩ : ByteArray), (⟨#[47]⟩ : ByteArray), (⟨#[95]⟩ : ByteArray), (⟨#[128]⟩ : ByteArray), (⟨#[195]⟩ : ByteArray), (⟨#[195, 151]⟩ : ByteArray), (⟨#[207, 130, 204, 129]⟩ : ByteArray)]
theorem odd_not {h t : List Int} (hh : ∀ r ∈ h, letterZ r = true) (ht : ∀ r ∈ t, letterZ r = true) {k : Int} (h0 : 0 ≤ k) (h1 : k < 8) :
    rightN (bytes ((ofBytes (makeD h) ++ rdOf ByteArray.empty odds k) ++ ofBytes (makeD t))) = false ∧ (rdOf ByteArray.empty odds k).size ≤ 4 := by
  have hv : ∀ r ∈ h, ValidR r := fun r hr => letter_valid (hh r hr)
  have one : ∀ (os : List Int) (o : Int) (b : ByteArray), bytes b = makeD os → (∀ r ∈ os, ValidR r) → o ∈ os → letterZ o = false → rightN (bytes ((ofBytes (makeD h) ++ b) ++ ofBytes (makeD t))) = false := by
    intro os o b hb hos ho hl
    rw [bytes_append, bytes_append, bytes_ofBytes, bytes_ofBytes, hb, ← makeD_append, ← makeD_append]
    refine not_rune (r := o) (fun r hr => ?_) (List.mem_append.2 (Or.inl (List.mem_append.2 (Or.inr ho)))) hl
    rcases List.mem_append.1 hr with hr | hr
    · rcases List.mem_append.1 hr with hr | hr
      · exact hv r hr
      · exact hos r hr
    · exact letter_valid (ht r hr)
  have two : ∀ (c : UInt8) (b : ByteArray), bytes b = [c] → Bad (c :: makeD t) → rightN (bytes ((ofBytes (makeD h) ++ b) ++ ofBytes (makeD t))) = false := by
    intro c b hb hbad
    rw [bytes_append, bytes_append, bytes_ofBytes, bytes_ofBytes, hb, List.append_assoc]
    exact not_bad2 hv (by simp) hbad
  have hk : k = 0 ∨ k = 1 ∨ k = 2 ∨ k = 3 ∨ k = 4 ∨ k = 5 ∨ k = 6 ∨ k = 7 := by omega
  rcases hk with rfl | rfl | rfl | rfl | rfl | rfl | rfl | rfl
  · exact ⟨one [65] 65 _ (by decide) (by decide) (by simp) (by decide), by decide⟩
  · exact ⟨one [32] 32 _ (by decide) (by decide) (by simp) (by decide), by decide⟩
  · exact ⟨one [47] 47 _ (by decide) (by decide) (by simp) (by decide), by decide⟩
  · exact ⟨one [95] 95 _ (by decide) (by decide) (by simp) (by decide), by decide⟩
  · exact ⟨two 128 _ rfl (bad_one ht), by decide⟩
  · exact ⟨two 195 _ rfl (bad_two ht), by decide⟩
  · exact ⟨one [215] 215 _ (by decide) (by decide) (by simp) (by decide), by decide⟩
  · exact ⟨one [962, 769] 769 _ (by decide) (by decide) (by simp) (by decide), by decide⟩

theorem paths_end (a2 : Int) (w2 : (Lit.int .i64 a2).wf = true) (rs : List Int) (hr : ∀ r ∈ rs, letterZ r = true) (h1 : 1 ≤ rs.length) (h2 : rs.length ≤ 32) (y : ByteArray) (hy : y.size ≤ 128) :
    Ev (fun k => letterlocklaw1_NamePaths.j0 k a2 (ofBytes (makeD rs)) y false) true := by
  have vx := fun r h => letter_valid (hr r h)
  have zx := named_size (rs := rs) h2
  have ex := runes_val (ofBytes (makeD rs)) (by omega)
  rw [runesF_valid (by rw [bytes_ofBytes]; exact (runes_of_make vx).2), bytes_ofBytes, (runes_of_make vx).1] at ex
  obtain ⟨i, hi, hi0, hi1⟩ := pick1_val a2 (wrap64 ((rs.length : Int) + 1)) w2 (by rw [w64 (by omega) (by omega)]; omega)
  rw [w64 (n := (rs.length : Int) + 1) (by omega) (by omega)] at hi1
  obtain ⟨i, rfl⟩ := Int.eq_ofNat_of_zero_le hi0
  obtain ⟨o, ho, ho0, ho1⟩ := pick1_val a2 8 w2 (by decide)
  have hh : ∀ r ∈ rs.take i, letterZ r = true := fun r h => hr r (List.mem_of_mem_take h)
  have ht : ∀ r ∈ rs.drop i, letterZ r = true := fun r h => hr r (List.mem_of_mem_drop h)
  have lh : (rs.take i).length ≤ 32 := by rw [List.length_take]; omega
  have lt : (rs.drop i).length ≤ 32 := by rw [List.length_drop]; omega
  have m1 := make_val (rs.take i) (by omega)
  rw [makeF_valid (fun r h => letter_valid (hh r h))] at m1
  have m2 := make_val (rs.drop i) (by omega)
  rw [makeF_valid (fun r h => letter_valid (ht r h))] at m2
  obtain ⟨hn, hz⟩ := odd_not hh ht ho0 ho1
  have z1 := makeD_len (rs.take i)
  have z2 := makeD_len (rs.drop i)
  have z1 : (ofBytes (makeD (rs.take i))).size ≤ 128 := by rw [size_ofBytes]; omega
  have z2 : (ofBytes (makeD (rs.drop i))).size ≤ 128 := by rw [size_ofBytes]; omega
  have e0 := right_val (⟨#[]⟩ : ByteArray) (by decide)
  rw [show bytes (⟨#[]⟩ : ByteArray) = [] from rfl, right_nil] at e0
  have ea := right_val (ofBytes (makeD rs) ++ (⟨#[97]⟩ : ByteArray)) (by rw [ByteArray.size_append, show (⟨#[97]⟩ : ByteArray).size = 1 from rfl]; omega)
  have e97 : makeD [97] = [97] := by decide
  rw [bytes_append, bytes_ofBytes, show bytes (⟨#[97]⟩ : ByteArray) = makeD [97] from e97.symm, ← makeD_append, right_make (fun r h => by
    rcases List.mem_append.1 h with h | h
    · exact hr r h
    · rw [List.mem_singleton.1 h]; decide)] at ea
  have e47 : (⟨#[47]⟩ : ByteArray).size = 1 := rfl
  generalize hod : rdOf ByteArray.empty odds o = od at hn hz
  have s1 : ((ofBytes (makeD (rs.take i)) ++ od) ++ ofBytes (makeD (rs.drop i))).size ≤ 260 := by rw [ByteArray.size_append, ByteArray.size_append]; omega
  have er := right_val ((ofBytes (makeD (rs.take i)) ++ od) ++ ofBytes (makeD (rs.drop i))) (by omega)
  rw [hn] at er
  have es := split_val ((((ofBytes (makeD (rs.take i)) ++ od) ++ ofBytes (makeD (rs.drop i))) ++ ⟨#[47]⟩) ++ y) (by rw [ByteArray.size_append, ByteArray.size_append, e47]; omega)
  rw [split_odd hn] at es
  refine Ev.step (fun _ => rfl) (Ev.put ex (Ev.put hi (Ev.pos (by omega) (Ev.pos (by show (i : Int) ≤ (rs.length : Int); omega) ?_))))
  simp only [Int.toNat_natCast]
  refine Ev.put m1 (Ev.put m2 (Ev.put (a := odds) rfl (Ev.put ho (Ev.pos ho0 (Ev.pos ho1 ?_)))))
  rw [hod]
  refine Ev.pos (show (ofBytes (makeD (rs.take i))).size + od.size ≤ 9223372036854775807 by omega) (Ev.pos (show (ofBytes (makeD (rs.take i)) ++ od).size + (ofBytes (makeD (rs.drop i))).size ≤ 9223372036854775807 by rw [ByteArray.size_append]; omega)
    (Ev.pos (show ((ofBytes (makeD (rs.take i)) ++ od) ++ ofBytes (makeD (rs.drop i))).size + 1 ≤ 9223372036854775807 by omega) (Ev.pos (show (((ofBytes (makeD (rs.take i)) ++ od) ++ ofBytes (makeD (rs.drop i))) ++ (⟨#[47]⟩ : ByteArray)).size + y.size ≤ 9223372036854775807 by rw [ByteArray.size_append, e47]; omega)
    (Ev.put es (Ev.put er (Ev.neg (by simp) (Ev.pos rfl (Ev.put e0 (Ev.neg (by simp) ?_)))))))))
  by_cases c : (rs.length : Int) < 32
  · exact Ev.pos c (Ev.now _)
  · refine Ev.neg c (Ev.pos (by omega) (Ev.put ea ?_))
    rw [decide_eq_false (by rw [List.length_append, List.length_singleton]; omega)]
    exact Ev.now _

theorem NamePaths (l0 l1 : List Int) (a2 : Int) (g0 : l0.length ≤ 9223372036854775807 ∧ ∀ x ∈ l0, (Lit.int .i64 x).wf = true) (g1 : l1.length ≤ 9223372036854775807 ∧ ∀ x ∈ l1, (Lit.int .i64 x).wf = true)
    (w2 : (Lit.int .i64 a2).wf = true) : ∃ k, letterlocklaw1_NamePaths.f k l0 l1 a2 = some true := by
  refine Ev.rounds ?_
  obtain ⟨rs, r1, r2, r3, r4⟩ := named_ev l0 g0.2 g0.1
  obtain ⟨ss, s1, s2, s3, s4⟩ := named_ev l1 g1.2 g1.1
  have hx := named_right r1 r2 r3
  have hy := named_right s1 s2 s3
  have sx := named_size (rs := rs) r3
  have sy := named_size (rs := ss) s3
  have vx := fun r h => letter_valid (r1 r h)
  have vy := fun r h => letter_valid (s1 r h)
  have e1 : (⟨#[47]⟩ : ByteArray).size = 1 := rfl
  have hend := paths_end a2 w2 rs r1 r2 r3 (ofBytes (makeD ss)) sy
  have hfx : foldF (ofBytes (makeD rs)) = ofBytes (makeD rs) := bs_inj (by
    rw [bytes_foldF, bytes_ofBytes]
    unfold foldD
    have := foldRs_make vx []
    rw [List.append_nil, foldRs_nil, List.append_nil] at this
    rw [this, List.map_congr_left (fun r hr => letter_fold (r1 r hr)), List.map_id'])
  have hpb : bytes ((ofBytes (makeD rs) ++ ⟨#[47]⟩) ++ ofBytes (makeD ss)) = makeD (rs ++ 47 :: ss) := by
    rw [bytes_path, bytes_ofBytes, bytes_ofBytes, makeD_append, makeD_cons]; rfl
  have hpv : ∀ r ∈ rs ++ 47 :: ss, ValidR r := by
    intro r hr
    rcases List.mem_append.1 hr with hr | hr
    · exact vx r hr
    · rcases List.mem_cons.1 hr with rfl | hr
      · decide
      · exact vy r hr
  have hfp : foldF ((ofBytes (makeD rs) ++ ⟨#[47]⟩) ++ ofBytes (makeD ss)) = (ofBytes (makeD rs) ++ ⟨#[47]⟩) ++ ofBytes (makeD ss) := bs_inj (by
    rw [bytes_foldF, hpb]
    unfold foldD
    have := foldRs_make hpv []
    rw [List.append_nil, foldRs_nil, List.append_nil] at this
    rw [this]
    congr 1
    conv => rhs; rw [← List.map_id' (rs ++ 47 :: ss)]
    refine List.map_congr_left fun r hr => ?_
    rcases List.mem_append.1 hr with hr | hr
    · exact letter_fold (r1 r hr)
    · rcases List.mem_cons.1 hr with rfl | hr
      · decide
      · exact letter_fold (s1 r hr))
  have hnp : rightN (bytes ((ofBytes (makeD rs) ++ ⟨#[47]⟩) ++ ofBytes (makeD ss))) = false := by
    rw [hpb]
    exact not_rune hpv (r := 47) (by simp) (by decide)
  generalize ofBytes (makeD rs) = x at r4 hx sx hend hfx hfp hnp
  generalize ofBytes (makeD ss) = y at s4 hy sy hend hfp hnp
  have hsz : ((x ++ ⟨#[47]⟩) ++ y).size ≤ 257 := by rw [ByteArray.size_append, ByteArray.size_append, e1]; omega
  have hp : name_Path.f x y = some ((x ++ ⟨#[47]⟩) ++ y, 0) := by
    rw [path_val x y (by omega) (by omega)]; unfold pathF; rw [if_pos ⟨hx, hy⟩]
  have hs := split_val ((x ++ ⟨#[47]⟩) ++ y) (by omega)
  rw [split_path hx hy] at hs
  have vr := right_val x (by omega)
  rw [hx] at vr
  have vr2 := right_val y (by omega)
  rw [hy] at vr2
  have vr3 := right_val ((x ++ ⟨#[47]⟩) ++ y) (by omega)
  rw [hnp] at vr3
  have f1 := fold_val x (by omega)
  rw [hfx] at f1
  have f2 := fold_val ((x ++ ⟨#[47]⟩) ++ y) (by omega)
  rw [hfp] at f2
  unfold letterlocklaw1_NamePaths.f
  refine Ev.put shown1_val (Ev.pos rfl (Ev.bind r4 (Ev.bind s4 (Ev.put hp (Ev.put hs (Ev.put vr (Ev.pos rfl (Ev.put vr2 (Ev.pos rfl (Ev.pos rfl (Ev.pos rfl (Ev.pos rfl (Ev.pos rfl (Ev.put vr3 (Ev.neg (by simp) (Ev.put f1 (Ev.pos rfl (Ev.put f2 ?_))))))))))))))))))
  show Ev (fun k => letterlocklaw1_NamePaths.j0 k a2 x y ((((x ++ ⟨#[47]⟩) ++ y) : ByteArray).toList != ((x ++ ⟨#[47]⟩) ++ y : ByteArray).toList)) true
  rw [show ((((x ++ ⟨#[47]⟩) ++ y) : ByteArray).toList != ((x ++ ⟨#[47]⟩) ++ y : ByteArray).toList) = false by simp]
  exact hend

end Go.Proofs.YtngdpoghfacokaaDoor.Pure
