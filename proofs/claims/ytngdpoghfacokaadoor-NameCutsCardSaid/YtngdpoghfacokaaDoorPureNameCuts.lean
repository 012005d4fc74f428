/- What is between two runes of a name is a name; two names together are, if they are not too long: the printed law tells true for all numbers. -/
import Derived.Test.YtngdpoghfacokaaDoorEvName2
import Derived.Test.YtngdpoghfacokaaDoorPAx9
namespace Go.Proofs.YtngdpoghfacokaaDoor.Pure
open Go.RowKit Go.Proofs.YtngdpoghfacokaaDoor Go.Proofs.YtngdpoghfacokaaDoor.Ref Go.Proofs.YtngdpoghfacokaaDoor.PA Go.Proofs.YtngdpoghfacokaaDoorW.PrintWords Go.Proofs.YtngdpoghfacokaaDoorW.PrintLast
set_option linter.unusedVariables false

theorem NameCuts (l0 l1 : List Int) (a2 a3 : Int) (g0 : l0.length ≤ 9223372036854775807 ∧ ∀ x ∈ l0, (Lit.int .i64 x).wf = true) (g1 : l1.length ≤ 9223372036854775807 ∧ ∀ x ∈ l1, (Lit.int .i64 x).wf = true)
    (w2 : (Lit.int .i64 a2).wf = true) (w3 : (Lit.int .i64 a3).wf = true) : ∃ k, letterlocklaw1_NameCuts.f k l0 l1 a2 a3 = some true := by
  refine Ev.rounds ?_
  obtain ⟨rs, r1, r2, r3, r4⟩ := named_ev l0 g0.2 g0.1
  obtain ⟨ss, s1, s2, s3, s4⟩ := named_ev l1 g1.2 g1.1
  have zx := named_size (rs := rs) r3
  have zy := named_size (rs := ss) s3
  have vx := fun r hr => letter_valid (r1 r hr)
  have vy := fun r hr => letter_valid (s1 r hr)
  have ex := runes_val (ofBytes (makeD rs)) (by omega)
  rw [runesF_valid (by rw [bytes_ofBytes]; exact (runes_of_make vx).2), bytes_ofBytes, (runes_of_make vx).1] at ex
  have ey := runes_val (ofBytes (makeD ss)) (by omega)
  rw [runesF_valid (by rw [bytes_ofBytes]; exact (runes_of_make vy).2), bytes_ofBytes, (runes_of_make vy).1] at ey
  unfold letterlocklaw1_NameCuts.f
  refine Ev.put shown1_val (Ev.pos rfl (Ev.bind r4 (Ev.bind s4 (Ev.put ex (Ev.put ey (Ev.pos rfl (Ev.pos rfl ?_)))))))
  show Ev (fun k => letterlocklaw1_NameCuts.j0 k a2 a3 (ofBytes (makeD rs)) (ofBytes (makeD ss)) rs ss ((rs.length : Int) == 0)) true
  rw [beq_eq_false_iff_ne.mpr (by omega : ¬ (rs.length : Int) = 0)]
  obtain ⟨a, ha, ha0, ha1⟩ := pick1_val a2 (rs.length : Int) w2 (by omega)
  obtain ⟨a, rfl⟩ := Int.eq_ofNat_of_zero_le ha0
  obtain ⟨b, hb, hb0, hb1⟩ := pick1_val a3 (wrap64 ((rs.length : Int) - (a : Int))) w3 (by rw [w64 (by omega) (by omega)]; omega)
  rw [w64 (n := (rs.length : Int) - (a : Int)) (by omega) (by omega)] at hb1
  obtain ⟨b, rfl⟩ := Int.eq_ofNat_of_zero_le hb0
  have hw : wrap64 (wrap64 ((a : Int) + 1) + (b : Int)) = ((a + 1 + b : Nat) : Int) := by rw [w64 (n := (a : Int) + 1) (by omega) (by omega), w64 (by omega) (by omega)]; omega
  have hsub : ∀ r ∈ (rs.take (a + 1 + b)).drop a, letterZ r = true := fun r hr => r1 r (List.mem_of_mem_take (List.mem_of_mem_drop hr))
  have hslen : ((rs.take (a + 1 + b)).drop a).length = b + 1 := by rw [List.length_drop, List.length_take]; omega
  have em := make_val ((rs.take (a + 1 + b)).drop a) (by omega)
  rw [makeF_valid (fun r hr => letter_valid (hsub r hr))] at em
  have hz := makeD_len ((rs.take (a + 1 + b)).drop a)
  have er := right_val (ofBytes (makeD ((rs.take (a + 1 + b)).drop a))) (by rw [size_ofBytes]; omega)
  rw [bytes_ofBytes, right_make hsub, decide_eq_true ⟨by omega, by omega⟩] at er
  have eb := right_val (ofBytes (makeD rs) ++ ofBytes (makeD ss)) (by rw [ByteArray.size_append]; omega)
  rw [bytes_append, bytes_ofBytes, bytes_ofBytes, ← makeD_append, right_make (fun r hr => by
    rcases List.mem_append.1 hr with hr | hr
    · exact r1 r hr
    · exact s1 r hr)] at eb
  have e0 := right_val (⟨#[]⟩ : ByteArray) (by decide)
  rw [show bytes (⟨#[]⟩ : ByteArray) = [] from rfl, right_nil] at e0
  have hdec : (decide (1 ≤ (rs ++ ss).length ∧ (rs ++ ss).length ≤ 32)) = decide (wrap64 ((rs.length : Int) + (ss.length : Int)) ≤ 32) := by
    rw [w64 (n := (rs.length : Int) + (ss.length : Int)) (by omega) (by omega), List.length_append]
    by_cases h : rs.length + ss.length ≤ 32
    · rw [decide_eq_true ⟨by omega, h⟩, decide_eq_true (by omega)]
    · rw [decide_eq_false (fun hh => h hh.2), decide_eq_false (by omega)]
  rw [hdec] at eb
  refine Ev.step (fun _ => rfl) (Ev.put ha (Ev.put hb (Ev.pos (by omega) ?_)))
  rw [hw]
  simp only [Int.toNat_natCast]
  exact Ev.pos (by omega) (Ev.pos (by omega) (Ev.put em (Ev.pos rfl (Ev.put er (Ev.pos rfl (Ev.pos (by omega) (Ev.put eb (Ev.pos (by simp) (Ev.put e0 (Ev.now _))))))))))

end Go.Proofs.YtngdpoghfacokaaDoor.Pure
