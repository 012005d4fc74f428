/- A text is parted just if the path of what it is parted in is it again; no path has two slashes, or none: the printed law tells true for any text and any numbers. -/
import Derived.Test.YtngdpoghfacokaaDoorEvName2
import Derived.Test.YtngdpoghfacokaaDoorPAx8
namespace Go.Proofs.YtngdpoghfacokaaDoor.Pure
open Go.RowKit Go.Proofs.YtngdpoghfacokaaDoor Go.Proofs.YtngdpoghfacokaaDoor.Ref Go.Proofs.YtngdpoghfacokaaDoor.PA Go.Proofs.YtngdpoghfacokaaDoorW.PrintWords Go.Proofs.YtngdpoghfacokaaDoorW.PrintLast
set_option linter.unusedVariables false

theorem cut_once {c : UInt8} {a b r s : Bs} (ha : c ∉ a) (hb : c ∉ b) (h : a ++ c :: r = b ++ c :: s) : a = b ∧ r = s := by
  induction a generalizing b with
  | nil =>
    cases b with
    | nil => exact ⟨rfl, by simpa using h⟩
    | cons x b =>
      simp only [List.nil_append, List.cons_append, List.cons.injEq] at h
      exact absurd h.1 (fun e => hb (by rw [e]; simp))
  | cons x a ih =>
    cases b with
    | nil =>
      simp only [List.nil_append, List.cons_append, List.cons.injEq] at h
      exact absurd h.1 (fun e => ha (by rw [← e]; simp))
    | cons y b =>
      simp only [List.cons_append, List.cons.injEq] at h
      obtain ⟨h1, h2⟩ := ih (b := b) (fun e => ha (List.mem_cons_of_mem _ e)) (fun e => hb (List.mem_cons_of_mem _ e)) h.2
      exact ⟨by rw [h.1, h1], h2⟩

theorem splits_end (x1 x2 : List Int) (g1 : x1.length ≤ 9223372036854775807 ∧ ∀ x ∈ x1, (Lit.int .i64 x).wf = true) (g2 : x2.length ≤ 9223372036854775807 ∧ ∀ x ∈ x2, (Lit.int .i64 x).wf = true) :
    Ev (fun k => letterlocklaw1_NameSplits.j1 k x1 x2 false) true := by
  obtain ⟨rs, a1, a2, a3, a4⟩ := named_ev x1 g1.2 g1.1
  obtain ⟨ss, b1, b2, b3, b4⟩ := named_ev x2 g2.2 g2.1
  have hx := named_right a1 a2 a3
  have hy := named_right b1 b2 b3
  have sx := named_size (rs := rs) a3
  have sy := named_size (rs := ss) b3
  generalize ofBytes (makeD rs) = x at a4 hx sx
  generalize ofBytes (makeD ss) = y at b4 hy sy
  have e1 : (⟨#[47]⟩ : ByteArray).size = 1 := rfl
  have hb1 : bytes (⟨#[47]⟩ : ByteArray) = [47] := rfl
  have hp : name_Path.f x y = some ((x ++ ⟨#[47]⟩) ++ y, 0) := by
    rw [path_val x y (by omega) (by omega)]; unfold pathF; rw [if_pos ⟨hx, hy⟩]
  have hsz : ((x ++ ⟨#[47]⟩) ++ y).size ≤ 257 := by rw [ByteArray.size_append, ByteArray.size_append, e1]; omega
  have s1 : name_Split.f ((((x ++ ⟨#[47]⟩) ++ y) ++ ⟨#[47]⟩) ++ x) = some (⟨#[]⟩, ⟨#[]⟩, 3) := by
    rw [split_val _ (by rw [ByteArray.size_append, ByteArray.size_append, e1]; omega), split_bad]
    intro a b e ha hb
    rw [bytes_path, bytes_path, List.append_assoc, List.cons_append] at e
    obtain ⟨_, h2⟩ := cut_once (no_slash ha) (no_slash hx) e.symm
    exact no_slash hb (by rw [h2]; simp)
  have s2 : name_Split.f x = some (⟨#[]⟩, ⟨#[]⟩, 3) := by
    rw [split_val _ (by omega), split_bad]
    intro a b e ha hb
    exact no_slash hx (by rw [e]; simp)
  have s3 : name_Split.f ((⟨#[47]⟩ : ByteArray) ++ ((x ++ ⟨#[47]⟩) ++ y)) = some (⟨#[]⟩, ⟨#[]⟩, 3) := by
    rw [split_val _ (by rw [ByteArray.size_append, e1]; omega), split_bad]
    intro a b e ha hb
    rw [bytes_append, hb1] at e
    obtain ⟨h1, _⟩ := cut_once (a := a) (b := []) (no_slash ha) (by simp) e.symm
    rw [h1, right_nil] at ha
    simp at ha
  refine Ev.step (fun _ => rfl) (Ev.bind a4 (Ev.bind b4 (Ev.put hp (Ev.pos (show ((x ++ ⟨#[47]⟩) ++ y).size + 1 ≤ 9223372036854775807 by omega) (Ev.pos ?_ (Ev.put s1 (Ev.put s2 (Ev.pos (show 1 + ((x ++ ⟨#[47]⟩) ++ y).size ≤ 9223372036854775807 by omega) (Ev.put s3 (Ev.pos rfl (Ev.pos rfl (Ev.pos rfl (Ev.now _)))))))))))))
  show (((x ++ ⟨#[47]⟩) ++ y) ++ (⟨#[47]⟩ : ByteArray)).size + x.size ≤ 9223372036854775807
  rw [ByteArray.size_append, e1]; omega

theorem NameSplits (a0 : ByteArray) (l1 l2 : List Int) (h0 : a0.size ≤ 140737488351232) (g1 : l1.length ≤ 9223372036854775807 ∧ ∀ x ∈ l1, (Lit.int .i64 x).wf = true) (g2 : l2.length ≤ 9223372036854775807 ∧ ∀ x ∈ l2, (Lit.int .i64 x).wf = true) :
    ∃ k, letterlocklaw1_NameSplits.f k a0 l1 l2 = some true := by
  refine Ev.rounds ?_
  unfold letterlocklaw1_NameSplits.f
  refine Ev.put shown1_val (Ev.pos rfl ?_)
  by_cases h : (a0.size : Int) > 2000
  · rw [decide_eq_true h]
    exact Ev.step (fun _ => rfl) (Ev.now _)
  rw [decide_eq_false h]
  have hs := split_val a0 (by omega)
  have hend := splits_end l1 l2 g1 g2
  rcases hv : splitF a0 with ⟨a, b, e⟩
  rw [hv] at hs
  have hcase : (e = 0 ∧ a0 = (a ++ ⟨#[47]⟩) ++ b ∧ rightN (bytes a) = true ∧ rightN (bytes b) = true) ∨ (e = 3 ∧ a = ⟨#[]⟩ ∧ b = ⟨#[]⟩) := by
    by_cases he : e = 0
    · subst he; exact Or.inl ⟨rfl, split_ok hv⟩
    · right
      unfold splitF at hv
      split at hv
      · simp only [Prod.mk.injEq] at hv; exact absurd hv.2.2.symm he
      · simp only [Prod.mk.injEq] at hv; exact ⟨hv.2.2.symm, hv.1.symm, hv.2.1.symm⟩
  rcases hcase with ⟨rfl, hp, ha, hb⟩ | ⟨rfl, rfl, rfl⟩
  · have hsz : a.size ≤ 2000 ∧ b.size ≤ 2000 := by
      have := congrArg ByteArray.size hp
      rw [ByteArray.size_append, ByteArray.size_append] at this
      omega
    have hpa : name_Path.f a b = some ((a ++ ⟨#[47]⟩) ++ b, 0) := by
      rw [path_val a b (by omega) (by omega)]; unfold pathF; rw [if_pos ⟨ha, hb⟩]
    exact Ev.step (fun _ => rfl) (Ev.put hs (Ev.put hpa (Ev.pos rfl (Ev.pos rfl (Ev.pos (by rw [← hp]) hend)))))
  · have hpa : name_Path.f (⟨#[]⟩ : ByteArray) ⟨#[]⟩ = some (⟨#[]⟩, 3) := by
      rw [path_val _ _ (by decide) (by decide)]; unfold pathF; rw [if_neg (by rintro ⟨h1, _⟩; exact absurd (h1.symm.trans right_nil) (by simp))]
    have hnil : (⟨#[]⟩ : ByteArray).toList = [] := by rw [bytes_toList]; rfl
    refine Ev.step (fun _ => rfl) (Ev.put hs (Ev.put hpa (Ev.neg (by simp) (Ev.pos rfl (Ev.pos hnil ?_)))))
    show Ev (fun k => letterlocklaw1_NameSplits.j1 k l1 l2 ((⟨#[]⟩ : ByteArray).toList != ([] : List UInt8))) true
    rw [hnil]
    exact hend

end Go.Proofs.YtngdpoghfacokaaDoor.Pure
