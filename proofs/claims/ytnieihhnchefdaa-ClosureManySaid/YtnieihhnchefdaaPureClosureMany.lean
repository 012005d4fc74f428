/- Of so many terms at most what can be told is told; of one more it is too many: the printed law tells true for every number and any text. -/
import Derived.Test.YtnieihhnchefdaaEvRef
import Derived.Test.YtnieihhnchefdaaEvShown4
import Derived.Test.YtnieihhnchefdaaHubM
namespace Go.Proofs.Ytnieihhnchefdaa.Pure
open Go.RowKit Go.Proofs.Ytnieihhnchefdaa Go.Proofs.Ytnieihhnchefdaa.Ref Go.Proofs.Ytnieihhnchefdaa.PA Go.Proofs.YtnieihhnchefdaaW.PrintWords Go.Proofs.YtnieihhnchefdaaW.PrintLast
set_option linter.unusedVariables false

theorem pick4_val (n m : Int) (hn : (Lit.int .i64 n).wf = true) (hm : 0 < m) : ∃ r, letterlocklaw4_pick.f n m = some r ∧ 0 ≤ r ∧ r < m := by
  have hw : -9223372036854775808 ≤ n ∧ n ≤ 9223372036854775807 := by
    simpa [Lit.wf, IntKind.min, IntKind.max, IntKind.bits, IntKind.signed] using hn
  unfold letterlocklaw4_pick.f
  by_cases h0 : n < 0
  · rw [if_pos h0, if_neg (by omega), w64 (n := n + 1) (by omega) (by omega), w64 (by omega) (by omega)]
    exact ⟨_, rfl, by rw [Int.tmod_eq_emod_of_nonneg (by omega)]; exact ⟨Int.emod_nonneg _ (by omega), Int.emod_lt_of_pos _ hm⟩⟩
  · rw [if_neg h0, if_neg (by omega)]
    exact ⟨_, rfl, by rw [Int.tmod_eq_emod_of_nonneg (by omega)]; exact ⟨Int.emod_nonneg _ (by omega), Int.emod_lt_of_pos _ hm⟩⟩

def atoms (n : Nat) : List T := (List.range n).map T.atom
theorem atoms_succ (n : Nat) : atoms (n + 1) = atoms n ++ [T.atom n] := by unfold atoms; rw [List.range_succ, List.map_append]; rfl
theorem atoms_len (n : Nat) : (atoms n).length = n := by simp [atoms]
theorem mem_atoms (n : Nat) (t : T) : t ∈ atoms n ↔ ∃ k, k < n ∧ t = .atom k := by
  unfold atoms
  rw [List.mem_map]
  constructor
  · rintro ⟨k, hk, rfl⟩; exact ⟨k, List.mem_range.1 hk, rfl⟩
  · rintro ⟨k, hk, rfl⟩; exact ⟨k, List.mem_range.2 hk, rfl⟩
theorem wf_atom {n : Nat} (h : n < 18446744073709551616) : Wf (.atom n) := ⟨h, by have := len_atom n h; omega⟩
theorem wf_atoms {n : Nat} (h : n ≤ 230) : ∀ t ∈ atoms n, Wf t := by
  intro t ht
  obtain ⟨k, hk, rfl⟩ := (mem_atoms n t).1 ht
  exact wf_atom (by omega)
theorem closed_atoms (n : Nat) : ClosedT (atoms n) := closed_plain fun t ht => by
  obtain ⟨k, _, rfl⟩ := (mem_atoms n t).1 ht
  exact Or.inr ⟨k, rfl⟩
theorem nodup_atoms (n : Nat) : (atoms n).Nodup := by
  unfold atoms
  refine List.pairwise_map.2 (List.nodup_range.imp ?_)
  intro a b h e
  exact h (by simpa using e)
theorem had_atoms_len (n : Nat) : (hadL (atoms n)).length = n := by
  have hp : (hadL (atoms n)).Perm (atoms n) := (List.perm_ext_iff_of_nodup (hadL_nodup _) (nodup_atoms n)).2 fun x =>
    (hadL_iff (h := atoms n) (C := atoms n) (fun x hx => hx) (closed_atoms n) (fun x hx => hadL_sup _ x hx) x).symm
  rw [hp.length_eq, atoms_len]

theorem many_end (s : ByteArray) (hs : s.size ≤ 500) (n : Nat) (hn : n < 230) : Ev (fun k => letterlocklaw4_ClosureMany.j2 k s ((atoms n).map tm)) true := by
  refine Ev.step (fun _ => rfl) (Ev.put (kind_val s (by omega)) ?_)
  by_cases h : kindF s = 0
  · have hr : right s = false := (kindF_zero s).1 h
    have hl : ((atoms n).map tm).length = n := by rw [List.length_map, atoms_len]
    have hz : ∀ t ∈ atoms n, (tm t).size ≤ 9223372036854774000 := fun t ht => by have := tm_size_le (wf_atoms (by omega) t ht); omega
    have d1 : closure_Apart.f (([] ++ (atoms n).map tm) ++ [s]) = some ([], 1) := by
      rw [List.nil_append]
      unfold closure_Apart.f
      rw [if_pos]
      · unfold apartF
        rw [if_neg (by rw [List.all_append]; simp [hr])]
      · refine ⟨by simp [hl]; omega, List.all_eq_true.2 fun x hx => decide_eq_true ?_⟩
        rcases List.mem_append.1 hx with hx | hx
        · obtain ⟨t, ht, rfl⟩ := List.mem_map.1 hx
          exact hz t ht
        · rw [List.mem_singleton.1 hx]; omega
    have d2 : closure_Derives.f ([s] ++ (atoms n).map tm) s = some (false, 1) := by
      unfold closure_Derives.f
      rw [if_pos]
      · unfold derivesF
        rw [if_neg (by rw [List.all_append]; simp [hr])]
      · refine ⟨by simp [hl]; omega, List.all_eq_true.2 fun x hx => decide_eq_true ?_, by omega⟩
        rcases List.mem_append.1 hx with hx | hx
        · rw [List.mem_singleton.1 hx]; omega
        · obtain ⟨t, ht, rfl⟩ := List.mem_map.1 hx
          exact hz t ht
    exact Ev.pos h (Ev.put rfl (Ev.pos (by rw [hl]; simp; omega) (Ev.put rfl (Ev.pos (by rw [List.length_append, hl]; simp; omega) (Ev.put d1 (Ev.put rfl (Ev.pos (by rw [hl]; simp; omega) (Ev.put d2 (Ev.pos rfl (Ev.now _))))))))))
  · exact Ev.neg h (Ev.now _)

theorem many_loop (s : ByteArray) (hs : s.size ≤ 500) (n : Nat) (hn : n < 230) (m i : Nat) (hm : i + m = n) : Ev (fun k => letterlocklaw4_ClosureMany.l0 k s (n : Int) ((atoms i).map tm) (i : Int)) true := by
  induction m generalizing i with
  | succ m ih =>
    have ha := refAtom_ev i (by omega)
    rw [atomB_tm] at ha
    refine Ev.step (fun _ => rfl) (Ev.pos (by omega) ?_)
    rw [show IntKind.u64.wrap (i : Int) = (i : Int) from by rw [IntKind.wrap_u64]; omega]
    refine Ev.bind ha (Ev.pos (by rw [List.length_map, atoms_len]; omega) ?_)
    rw [w64 (by omega) (by omega)]
    have := ih (i + 1) (by omega)
    rw [atoms_succ, List.map_append] at this
    exact this
  | zero =>
    obtain rfl : i = n := by omega
    have ha := refAtom_ev 7 (by omega)
    rw [atomB_tm] at ha
    have hw7 : Wf (.atom 7) := wf_atom (by omega)
    refine Ev.step (fun _ => rfl) (Ev.neg (by omega) ?_)
    by_cases h : i ≤ 200
    · have d1 := apart_tm (wf_atoms (n := i) (by omega)) (by rw [atoms_len]; exact h)
      have d2 := derives_tm (wf_atoms (n := i) (by omega)) (by rw [atoms_len]; exact h) hw7
      rw [tog_closedT (closed_atoms i)] at d2
      have e2 : tog (atoms i) (.atom 7) = decide ((i : Int) > 7) := by
        by_cases h7 : 7 < i
        · rw [decide_eq_true (by omega)]; exact tog_of_mem ((mem_atoms i _).2 ⟨7, h7, rfl⟩)
        · rw [decide_eq_false (by omega)]
          refine contains_not fun hm => ?_
          obtain ⟨k, hk, e⟩ := (mem_atoms i _).1 hm
          have : 7 = k := by simpa using e
          omega
      rw [e2] at d2
      refine Ev.put d1 (Ev.bind ha (Ev.put d2 (Ev.neg (by omega) (Ev.pos rfl (Ev.pos rfl (Ev.pos ?_ (Ev.neg (by simp) (many_end s hs i hn))))))))
      rw [LT_len, had_atoms_len]
    · obtain ⟨d1, d2⟩ := big_tm (wf_atoms (n := i) (by omega)) (by rw [atoms_len]; omega) (by rw [atoms_len]; omega)
      exact Ev.put d1 (Ev.bind ha (Ev.put (d2 _ (by have := tm_size_le hw7; omega)) (Ev.pos (by omega) (Ev.pos rfl (Ev.pos rfl (Ev.pos rfl (Ev.neg (by simp) (many_end s hs i hn))))))))

theorem ClosureMany : letterlocklaw4_ClosureMany.Pure := by
  intro a0 a1 h0 h1
  refine Ev.rounds ?_
  obtain ⟨n, hn, hn0, hn1⟩ := pick4_val a0 230 h0 (by decide)
  obtain ⟨n, rfl⟩ := Int.eq_ofNat_of_zero_le hn0
  unfold letterlocklaw4_ClosureMany.f
  refine Ev.put shown4_val (Ev.pos rfl ?_)
  by_cases h : a1.size ≤ 500
  · rw [decide_eq_false (by omega)]
    exact Ev.step (fun _ => rfl) (Ev.put hn (many_loop a1 h n (by omega) n 0 (by omega)))
  · rw [decide_eq_true (by omega)]
    exact Ev.step (fun _ => rfl) (Ev.now _)

end Go.Proofs.Ytnieihhnchefdaa.Pure
