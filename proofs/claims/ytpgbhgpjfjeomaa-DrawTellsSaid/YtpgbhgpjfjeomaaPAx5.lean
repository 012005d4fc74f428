-- printed by a program of this session (a copy of print.py that takes stubs) out of the translation; Lean checks it
import Derived.Test.YtpgbhgpjfjeomaaPAx0
import Derived.Test.YtpgbhgpjfjeomaaPAx1
import Derived.Test.YtpgbhgpjfjeomaaPAx4
namespace Go.Proofs.Ytpgbhgpjfjeomaa.PA
open Go.RowKit Go.Proofs.YtpgbhgpjfjeomaaW.PrintWords Go.Proofs.YtpgbhgpjfjeomaaW.PrintLast Go.Proofs.YtpgbhgpjfjeomaaW.PrintMore
attribute [local go_sem] max2_int min2_int max_two min_two max_three min_three max_four min_four   -- for this text's walks alone
set_option linter.unusedVariables false
set_option linter.unusedSimpArgs false

/-! ### letterlocklaw6_grown: function 10 -/
mutual
def letterlocklaw6_grown.l0 : Nat → List Int → List ByteArray → Int → Option (ByteArray)
  | 0, _, _, _ => none
  | k + 1, x0, x3, x4 => if x4 < (x0.length : Int) then (letterlocklaw6_grown.j1 k x0 x3 x4 (decide (x4 < 40))) else (letterlocklaw6_grown.j1 k x0 x3 x4 false)
def letterlocklaw6_grown.j1 : Nat → List Int → List ByteArray → Int → Bool → Option (ByteArray)
  | 0, _, _, _, _ => none
  | k + 1, x0, x3, x4, x24 => if x24 = true then (if 0 ≤ x4 then (if x4 < (x0.length : Int) then ((letterlocklaw6_pick.f (rd x0 x4) 10).bind fun t203 => ((letterlocklaw6_pick.f (wrap64 (Int.tdiv (rd x0 x4) 10)) 5).bind fun t205 => (if t203 < 3 then ((letterlockref3_OfAtom.f k (IntKind.u64.wrap (t205))).bind fun t206 => (if x3.length < 8796093022208 then (letterlocklaw6_grown.l0 k x0 (x3 ++ [t206]) (wrap64 (x4 + 1))) else (none))) else (if t203 = 3 then (if 0 ≤ t205 then (if t205 ≤ 5 then ((letterlockref3_OfText.f k ((⟨#[97, 98, 99, 100, 101]⟩ : ByteArray).extract 0 (t205 : Int).toNat)).bind fun bt210 => (if x3.length < 8796093022208 then (letterlocklaw6_grown.l0 k x0 (x3 ++ [bt210.1]) (wrap64 (x4 + 1))) else (none))) else (none)) else (none)) else (if t203 = 4 then (if 0 ≤ (wrap64 ((x3.length : Int) - 1)) then (if (wrap64 ((x3.length : Int) - 1)) < (x3.length : Int) then ((letterlockref3_OfHash.f k (rdOf ByteArray.empty x3 (wrap64 ((x3.length : Int) - 1)))).bind fun bt216 => (if bt216.2 = 0 then (letterlocklaw6_grown.l0 k x0 (x3.set ((wrap64 ((x3.length : Int) - 1)) : Int).toNat bt216.1) (wrap64 (x4 + 1))) else (letterlocklaw6_grown.l0 k x0 x3 (wrap64 (x4 + 1))))) else (none)) else (none)) else (if t203 = 5 then (if 0 ≤ (wrap64 ((x3.length : Int) - 1)) then (if (wrap64 ((x3.length : Int) - 1)) < (x3.length : Int) then ((letterlockref3_OfPublic.f k (rdOf ByteArray.empty x3 (wrap64 ((x3.length : Int) - 1)))).bind fun bt220 => (if bt220.2 = 0 then (letterlocklaw6_grown.l0 k x0 (x3.set ((wrap64 ((x3.length : Int) - 1)) : Int).toNat bt220.1) (wrap64 (x4 + 1))) else (letterlocklaw6_grown.l0 k x0 x3 (wrap64 (x4 + 1))))) else (none)) else (none)) else (if (x3.length : Int) > 1 then (if 0 ≤ (wrap64 ((x3.length : Int) - 2)) then (if (wrap64 ((x3.length : Int) - 2)) < (x3.length : Int) then (if 0 ≤ (wrap64 ((x3.length : Int) - 1)) then (if (wrap64 ((x3.length : Int) - 1)) < (x3.length : Int) then ((letterlocklaw6_joined.f k t203 (rdOf ByteArray.empty x3 (wrap64 ((x3.length : Int) - 2))) (rdOf ByteArray.empty x3 (wrap64 ((x3.length : Int) - 1)))).bind fun t225 => ((some (([] : List ByteArray) : List ByteArray)).bind fun y226 => (if (wrap64 ((x3.length : Int) - 2)) ≤ (x3.length : Int) then ((some (x3.take ((wrap64 ((x3.length : Int) - 2)) : Int).toNat : List ByteArray)).bind fun y229 => (if y226.length + y229.length < 8796093022208 then ((some (y226 ++ y229 : List ByteArray)).bind fun y233 => (if y233.length < 8796093022208 then (letterlocklaw6_grown.l0 k x0 (y233 ++ [t225]) (wrap64 (x4 + 1))) else (none))) else (none))) else (none)))) else (none)) else (none)) else (none)) else (none)) else (letterlocklaw6_grown.l0 k x0 x3 (wrap64 (x4 + 1)))))))))) else (none)) else (none)) else (if 0 ≤ (wrap64 ((x3.length : Int) - 1)) then (if (wrap64 ((x3.length : Int) - 1)) < (x3.length : Int) then (some (rdOf ByteArray.empty x3 (wrap64 ((x3.length : Int) - 1)))) else (none)) else (none))
end
def letterlocklaw6_grown.f (k : Nat) (l0 : List Int) : Option (ByteArray) := (letterlockref3_OfAtom.f k 0).bind fun t197 => (letterlocklaw6_grown.l0 k l0 (([t197] : List ByteArray)) 0)
theorem letterlocklaw6_grown.mono_l : ∀ k, (∀ y0 y1 y2, LeO (letterlocklaw6_grown.l0 k y0 y1 y2) (letterlocklaw6_grown.l0 (k + 1) y0 y1 y2)) ∧ (∀ y0 y1 y2 y3, LeO (letterlocklaw6_grown.j1 k y0 y1 y2 y3) (letterlocklaw6_grown.j1 (k + 1) y0 y1 y2 y3))
  | 0 => ⟨fun _ _ _ r h => by simp [letterlocklaw6_grown.l0] at h, fun _ _ _ _ r h => by simp [letterlocklaw6_grown.j1] at h⟩
  | k + 1 => by
    obtain ⟨ih0, ih1⟩ := letterlocklaw6_grown.mono_l k
    refine ⟨?_, ?_⟩
    · intro y0 y1 y2
      unfold letterlocklaw6_grown.l0
      repeat' first
      | (with_reducible exact ih0 _ _ _)
      | (with_reducible exact ih1 _ _ _ _)
      | (with_reducible exact letterlocklaw6_joined.mono _ _ _ _)
      | (with_reducible exact letterlockref3_OfAtom.mono _ _)
      | (with_reducible exact letterlockref3_OfHash.mono _ _)
      | (with_reducible exact letterlockref3_OfPublic.mono _ _)
      | (with_reducible exact letterlockref3_OfText.mono _ _)
      | (with_reducible exact LeO.refl _)
      | (with_reducible exact LeO.none _)
      | (with_reducible refine LeO.ite ?_ ?_)
      | (with_reducible refine LeO.bind ?_ (fun _ => ?_))
      | exact ih0 _ _ _
      | exact ih1 _ _ _ _
      | exact letterlocklaw6_joined.mono _ _ _ _
      | exact letterlockref3_OfAtom.mono _ _
      | exact letterlockref3_OfHash.mono _ _
      | exact letterlockref3_OfPublic.mono _ _
      | exact letterlockref3_OfText.mono _ _
      | exact LeO.none _
      | refine LeO.ite ?_ ?_
      | refine LeO.bind ?_ (fun _ => ?_)
    · intro y0 y1 y2 y3
      unfold letterlocklaw6_grown.j1
      repeat' first
      | (with_reducible exact ih0 _ _ _)
      | (with_reducible exact ih1 _ _ _ _)
      | (with_reducible exact letterlocklaw6_joined.mono _ _ _ _)
      | (with_reducible exact letterlockref3_OfAtom.mono _ _)
      | (with_reducible exact letterlockref3_OfHash.mono _ _)
      | (with_reducible exact letterlockref3_OfPublic.mono _ _)
      | (with_reducible exact letterlockref3_OfText.mono _ _)
      | (with_reducible exact LeO.refl _)
      | (with_reducible exact LeO.none _)
      | (with_reducible refine LeO.ite ?_ ?_)
      | (with_reducible refine LeO.bind ?_ (fun _ => ?_))
      | exact ih0 _ _ _
      | exact ih1 _ _ _ _
      | exact letterlocklaw6_joined.mono _ _ _ _
      | exact letterlockref3_OfAtom.mono _ _
      | exact letterlockref3_OfHash.mono _ _
      | exact letterlockref3_OfPublic.mono _ _
      | exact letterlockref3_OfText.mono _ _
      | exact LeO.none _
      | refine LeO.ite ?_ ?_
      | refine LeO.bind ?_ (fun _ => ?_)
theorem letterlocklaw6_grown.mono : ∀ a0 k, LeO (letterlocklaw6_grown.f k a0) (letterlocklaw6_grown.f (k + 1) a0) := by
  intro a0 k
  obtain ⟨ih0, ih1⟩ := letterlocklaw6_grown.mono_l k
  unfold letterlocklaw6_grown.f
  repeat' first
      | (with_reducible exact ih0 _ _ _)
      | (with_reducible exact ih1 _ _ _ _)
      | (with_reducible exact letterlocklaw6_joined.mono _ _ _ _)
      | (with_reducible exact letterlockref3_OfAtom.mono _ _)
      | (with_reducible exact letterlockref3_OfHash.mono _ _)
      | (with_reducible exact letterlockref3_OfPublic.mono _ _)
      | (with_reducible exact letterlockref3_OfText.mono _ _)
      | (with_reducible exact LeO.refl _)
      | (with_reducible exact LeO.none _)
      | (with_reducible refine LeO.ite ?_ ?_)
      | (with_reducible refine LeO.bind ?_ (fun _ => ?_))
      | exact ih0 _ _ _
      | exact ih1 _ _ _ _
      | exact letterlocklaw6_joined.mono _ _ _ _
      | exact letterlockref3_OfAtom.mono _ _
      | exact letterlockref3_OfHash.mono _ _
      | exact letterlockref3_OfPublic.mono _ _
      | exact letterlockref3_OfText.mono _ _
      | exact LeO.none _
      | refine LeO.ite ?_ ?_
      | refine LeO.bind ?_ (fun _ => ?_)
def letterlocklaw6_grown.T22 : Bool × List (List Nat × List Nat) := (true, [([], []), ([], []), ([], []), ([2], [2]), ([1, 3], [1, 3]), ([4], [4]), ([], []), ([], []), ([7], [7]), ([6, 8], [6, 8]), ([9], [9]), ([0, 5, 10], [0, 5, 10]), ([11, 11, 0, 1, 2, 3, 4, 5, 6, 7, 8, 9, 10, 11], [11])])
def letterlocklaw6_grown.B22 : List Nat := [0, 0, 0, 4, 14, 30, 0, 0, 128, 448, 960, 2047, 4095]
theorem letterlocklaw6_grown.tab22 : rtab .any (opsOf Try.f10 22) = letterlocklaw6_grown.T22 := by kernel_rfl
theorem letterlocklaw6_grown.bits22 : waitsOk letterlocklaw6_grown.T22.2 letterlocklaw6_grown.B22 = true := by kernel_rfl
set_option maxHeartbeats 8000000 in
set_option maxRecDepth 100000 in
theorem letterlocklaw6_grown.calls (k : Nat) (A0 : Option Addr) (c0 : Nat) (l0 : List Int) (r : ByteArray) (w : World) (hr0 : Kd.C (Kd.int .i64) w A0 l0.length l0) (hc0 : l0.length ≤ c0) (h : letterlocklaw6_grown.f k l0 = some r) :
    Calls Try.prog 10 #[.slice A0 l0.length c0] w fun e w' => e = .returned (.string r) ∧ Below w.heap.size w w' := by
  have HR0 := Aside0.mk hr0
  have HC0 := Aside0.mk hc0
  clear hr0 hc0
  have HB := Aside0.mk (Below.refl w.heap.size w)
  have H : ((letterlockref3_OfAtom.f k 0).bind fun t197 => (letterlocklaw6_grown.l0 k l0 (([t197] : List ByteArray)) 0)) = some r := h
  clear h
  replace H := Option.bind_eq_some_iff.mp H
  obtain ⟨t197, A20, H⟩ := H
  replace H : (letterlocklaw6_grown.l0 k l0 (([t197] : List ByteArray)) 0) = some r := H
  have A2 := Aside0.mk A20
  clear A20
  obtain ⟨y198, hy198⟩ : ∃ y_ : List ByteArray, y_ = (([t197] : List ByteArray)) := ⟨_, rfl⟩
  replace H : (letterlocklaw6_grown.l0 k l0 y198 0) = some r := by first | (rw [hy198]; with_reducible exact H) | (have H2_ := (Option.bind_some _ _).symm.trans H; rw [hy198]; with_reducible exact H2_) | (have H2_ := (Option.bind_some _ _).symm.trans H; with_reducible exact H2_) | with_reducible exact H | (rw [hy198]; exact H) | exact H
  have Ny198 := Aside0.mk hy198
  clear hy198
  have H' := Aside0.mk H
  clear H
  go_enter Try.func10, Try.ntmps10
  go_wp2_with (first | ((with_reducible refine gate_callee (f := 33) rfl ?_); refine goesL_ (some 15) rfl rfl Try.func33 (by kernel_rfl) rfl #[.int .u64 0] rfl (by (try simp only [List.map_toArray, List.map_cons, List.map_nil]); first | done | rfl | (simp only [List.length_drop, List.length_take]; rfl)) ?_; (with_reducible refine (letterlockref3_OfAtom.calls k 0 t197 _ A2.out).mono ?_); rintro e w3 ⟨rfl, hb⟩; refine ⟨_, rfl, ?_⟩; have n0_ := Aside0.mk (below_step (by repeat (first | (with_reducible first | exact HB.out | apply below_alloc | apply pw_below_drewN | apply below_drew1) | exact HB.out)) hb); clear HB; have HB := n0_; clear n0_; (try clear hb); (try clear hb2); (try clear hk); (try clear hi)) | ((with_reducible refine gate_dst (N := 16) rfl ?_); refine Kd.R_lit Kd.string _ 9 ?hg (N := 16) ?hd (xs := ([t197] : List ByteArray)) (inner := [.string t197]) (ok := fun _ => True) (okp := fun _ => True) ?hr ?hp (fun _ hk => hk) trivial (Below.refl _ _) (Nat.le_refl _) (by simp) ?_; (case hd => rfl); (case hg => rfl); (case hr => first | (go_simp; done) | (go_simp; rfl)); (case hp => exact (Reps.one (show Kd.M Kd.string _ _ _ t197 [.string t197] from rfl) (Reps.none _ _))); intro v199 w4 ho5 hb hg_ hnew_; clear hg_ hnew_; (first | rw [← Ny198.out] at ho5 | (simp only [Int.reduceToNat] at ho5; rw [← Ny198.out] at ho5)); have n0_ := Aside0.mk (Kd.R_lower ho5 (below_size (by repeat (first | (with_reducible first | exact HB.out | apply below_alloc | apply pw_below_drewN | apply below_drew1) | exact HB.out)))); have n1_ := Aside0.mk (below_step (by repeat (first | (with_reducible first | exact HB.out | apply below_alloc | apply pw_below_drewN | apply below_drew1) | exact HB.out)) hb); clear HB; have HO200 := n0_; have HB := n1_; clear n0_ n1_; clear hb ho5))
  go_loopg [3, 4] k (fun kq v3 v4 w' => ∃ (x3_1 : List ByteArray) (x4_1 : Int), v4 = .int .i64 x4_1 ∧ Aside0 (letterlocklaw6_grown.l0 kq l0 x3_1 x4_1 = some r) ∧ Aside0 (kq ≤ k) ∧ Aside0 (Kd.R Kd.string 9 w' w.heap.size (fun _ => True) v3 x3_1) ∧ Aside0 (Below w.heap.size w w'))
  case atStart => exact ⟨(y198), (0), (by first | rfl | (simp; done) | (simp [*]; done)), H', ⟨Nat.le_refl _⟩, ⟨by (with_reducible repeat (first | apply Kd.R_alloc | apply Kd.R_drewN | apply Kd.R_drew)); exact HO200.out⟩, ⟨by repeat (first | (with_reducible first | exact HB.out | apply below_alloc | apply pw_below_drewN | apply below_drew1) | exact HB.out)⟩⟩
  case round =>
    clear H'
    try clear c1
    try clear p2
    try clear c3
    obtain ⟨x3_1, x4_1, rfl, HA, HK1, HO_3, HB⟩ := hrel
    cases gk with
    | zero => exact absurd HA.out (by simp [letterlocklaw6_grown.l0])
    | succ k1 =>
      have H := HA.out
      clear HA
      simp only [letterlocklaw6_grown.l0] at H
      have HC6 := Aside0.mk H
      clear H
      go_upto_region 3 with (fail)
      go_cut [24] (fun v24 wc => ∃ (kq : Nat) (x24_5 : Bool), v24 = .bool x24_5 ∧ Aside0 (letterlocklaw6_grown.j1 kq l0 x3_1 x4_1 x24_5 = some r) ∧ Aside0 (kq ≤ k1) ∧ Aside0 (Kd.R Kd.string 9 wc w.heap.size (fun _ => True) u3 x3_1) ∧ Aside0 (Below w.heap.size w wc))
      case first =>
        have H := HC6.out
        clear HC6
        by_cases c7 : x4_1 < (l0.length : Int)
        · rw [if_pos c7] at H
          have c7b0 : decide (x4_1 < (l0.length : Int)) = true := decide_eq_true c7
          clear c7
          (first | rw [c7b0] | (simp only [i64_w, i32_w]; rw [c7b0]) | skip)
          have H' := Aside0.mk H
          clear H
          go_wp2
          go_meet
          case rel => exact ⟨_, (decide (x4_1 < 40)), (by first | rfl | (simp; done) | (simp [*]; done)), H', ⟨by have := HK1.out; first | omega | exact Nat.le_refl _⟩, ⟨by (with_reducible repeat (first | apply Kd.R_alloc | apply Kd.R_drewN | apply Kd.R_drew)); exact HO_3.out⟩, ⟨by repeat (first | (with_reducible first | exact HB.out | apply below_alloc | apply pw_below_drewN | apply below_drew1) | exact HB.out)⟩⟩
        · rw [if_neg c7] at H
          have c7b0 : decide (x4_1 < (l0.length : Int)) = false := decide_eq_false c7
          clear c7
          (first | rw [c7b0] | (simp only [i64_w, i32_w]; rw [c7b0]) | skip)
          have H' := Aside0.mk H
          clear H
          go_wp2
          go_meet
          case rel => exact ⟨_, (false), (by first | rfl | (simp; done) | (simp [*]; done)), H', ⟨by have := HK1.out; first | omega | exact Nat.le_refl _⟩, ⟨by (with_reducible repeat (first | apply Kd.R_alloc | apply Kd.R_drewN | apply Kd.R_drew)); exact HO_3.out⟩, ⟨by repeat (first | (with_reducible first | exact HB.out | apply below_alloc | apply pw_below_drewN | apply below_drew1) | exact HB.out)⟩⟩
      case rest =>
        clear HC6
        try clear c1
        try clear p2
        try clear c3
        try clear c7
        try clear c7b0
        try clear p2
        obtain ⟨kq, x24_5, rfl, HA, HJ5, HO_3, HB⟩ := hcut
        cases kq with
        | zero => exact absurd HA.out (by simp [letterlocklaw6_grown.j1])
        | succ kj5 =>
          have H := HA.out
          clear HA
          simp only [letterlocklaw6_grown.j1] at H
          by_cases c8 : x24_5 = true
          · subst c8
            have H1 : (if 0 ≤ x4_1 then (if x4_1 < (l0.length : Int) then ((letterlocklaw6_pick.f (rd l0 x4_1) 10).bind fun t203 => ((letterlocklaw6_pick.f (wrap64 (Int.tdiv (rd l0 x4_1) 10)) 5).bind fun t205 => (if t203 < 3 then ((letterlockref3_OfAtom.f kj5 (IntKind.u64.wrap (t205))).bind fun t206 => (if x3_1.length < 8796093022208 then (letterlocklaw6_grown.l0 kj5 l0 (x3_1 ++ [t206]) (wrap64 (x4_1 + 1))) else (none))) else (if t203 = 3 then (if 0 ≤ t205 then (if t205 ≤ 5 then ((letterlockref3_OfText.f kj5 ((⟨#[97, 98, 99, 100, 101]⟩ : ByteArray).extract 0 (t205 : Int).toNat)).bind fun bt210 => (if x3_1.length < 8796093022208 then (letterlocklaw6_grown.l0 kj5 l0 (x3_1 ++ [bt210.1]) (wrap64 (x4_1 + 1))) else (none))) else (none)) else (none)) else (if t203 = 4 then (if 0 ≤ (wrap64 ((x3_1.length : Int) - 1)) then (if (wrap64 ((x3_1.length : Int) - 1)) < (x3_1.length : Int) then ((letterlockref3_OfHash.f kj5 (rdOf ByteArray.empty x3_1 (wrap64 ((x3_1.length : Int) - 1)))).bind fun bt216 => (if bt216.2 = 0 then (letterlocklaw6_grown.l0 kj5 l0 (x3_1.set ((wrap64 ((x3_1.length : Int) - 1)) : Int).toNat bt216.1) (wrap64 (x4_1 + 1))) else (letterlocklaw6_grown.l0 kj5 l0 x3_1 (wrap64 (x4_1 + 1))))) else (none)) else (none)) else (if t203 = 5 then (if 0 ≤ (wrap64 ((x3_1.length : Int) - 1)) then (if (wrap64 ((x3_1.length : Int) - 1)) < (x3_1.length : Int) then ((letterlockref3_OfPublic.f kj5 (rdOf ByteArray.empty x3_1 (wrap64 ((x3_1.length : Int) - 1)))).bind fun bt220 => (if bt220.2 = 0 then (letterlocklaw6_grown.l0 kj5 l0 (x3_1.set ((wrap64 ((x3_1.length : Int) - 1)) : Int).toNat bt220.1) (wrap64 (x4_1 + 1))) else (letterlocklaw6_grown.l0 kj5 l0 x3_1 (wrap64 (x4_1 + 1))))) else (none)) else (none)) else (if (x3_1.length : Int) > 1 then (if 0 ≤ (wrap64 ((x3_1.length : Int) - 2)) then (if (wrap64 ((x3_1.length : Int) - 2)) < (x3_1.length : Int) then (if 0 ≤ (wrap64 ((x3_1.length : Int) - 1)) then (if (wrap64 ((x3_1.length : Int) - 1)) < (x3_1.length : Int) then ((letterlocklaw6_joined.f kj5 t203 (rdOf ByteArray.empty x3_1 (wrap64 ((x3_1.length : Int) - 2))) (rdOf ByteArray.empty x3_1 (wrap64 ((x3_1.length : Int) - 1)))).bind fun t225 => ((some (([] : List ByteArray) : List ByteArray)).bind fun y226 => (if (wrap64 ((x3_1.length : Int) - 2)) ≤ (x3_1.length : Int) then ((some (x3_1.take ((wrap64 ((x3_1.length : Int) - 2)) : Int).toNat : List ByteArray)).bind fun y229 => (if y226.length + y229.length < 8796093022208 then ((some (y226 ++ y229 : List ByteArray)).bind fun y233 => (if y233.length < 8796093022208 then (letterlocklaw6_grown.l0 kj5 l0 (y233 ++ [t225]) (wrap64 (x4_1 + 1))) else (none))) else (none))) else (none)))) else (none)) else (none)) else (none)) else (none)) else (letterlocklaw6_grown.l0 kj5 l0 x3_1 (wrap64 (x4_1 + 1)))))))))) else (none)) else (none)) = some r := by rw [if_pos rfl] at H; exact H
            clear H
            have H := H1
            clear H1
            by_cases c9 : 0 ≤ x4_1
            · rw [if_pos c9] at H
              have c9b0 : decide (0 ≤ x4_1) = true := decide_eq_true c9
              clear c9
              by_cases c10 : x4_1 < (l0.length : Int)
              · rw [if_pos c10] at H
                have c10b0 : decide (x4_1 < (l0.length : Int)) = true := decide_eq_true c10
                clear c10
                replace H := Option.bind_eq_some_iff.mp H
                obtain ⟨t203, A110, H⟩ := H
                replace H : ((letterlocklaw6_pick.f (wrap64 (Int.tdiv (rd l0 x4_1) 10)) 5).bind fun t205 => (if t203 < 3 then ((letterlockref3_OfAtom.f kj5 (IntKind.u64.wrap (t205))).bind fun t206 => (if x3_1.length < 8796093022208 then (letterlocklaw6_grown.l0 kj5 l0 (x3_1 ++ [t206]) (wrap64 (x4_1 + 1))) else (none))) else (if t203 = 3 then (if 0 ≤ t205 then (if t205 ≤ 5 then ((letterlockref3_OfText.f kj5 ((⟨#[97, 98, 99, 100, 101]⟩ : ByteArray).extract 0 (t205 : Int).toNat)).bind fun bt210 => (if x3_1.length < 8796093022208 then (letterlocklaw6_grown.l0 kj5 l0 (x3_1 ++ [bt210.1]) (wrap64 (x4_1 + 1))) else (none))) else (none)) else (none)) else (if t203 = 4 then (if 0 ≤ (wrap64 ((x3_1.length : Int) - 1)) then (if (wrap64 ((x3_1.length : Int) - 1)) < (x3_1.length : Int) then ((letterlockref3_OfHash.f kj5 (rdOf ByteArray.empty x3_1 (wrap64 ((x3_1.length : Int) - 1)))).bind fun bt216 => (if bt216.2 = 0 then (letterlocklaw6_grown.l0 kj5 l0 (x3_1.set ((wrap64 ((x3_1.length : Int) - 1)) : Int).toNat bt216.1) (wrap64 (x4_1 + 1))) else (letterlocklaw6_grown.l0 kj5 l0 x3_1 (wrap64 (x4_1 + 1))))) else (none)) else (none)) else (if t203 = 5 then (if 0 ≤ (wrap64 ((x3_1.length : Int) - 1)) then (if (wrap64 ((x3_1.length : Int) - 1)) < (x3_1.length : Int) then ((letterlockref3_OfPublic.f kj5 (rdOf ByteArray.empty x3_1 (wrap64 ((x3_1.length : Int) - 1)))).bind fun bt220 => (if bt220.2 = 0 then (letterlocklaw6_grown.l0 kj5 l0 (x3_1.set ((wrap64 ((x3_1.length : Int) - 1)) : Int).toNat bt220.1) (wrap64 (x4_1 + 1))) else (letterlocklaw6_grown.l0 kj5 l0 x3_1 (wrap64 (x4_1 + 1))))) else (none)) else (none)) else (if (x3_1.length : Int) > 1 then (if 0 ≤ (wrap64 ((x3_1.length : Int) - 2)) then (if (wrap64 ((x3_1.length : Int) - 2)) < (x3_1.length : Int) then (if 0 ≤ (wrap64 ((x3_1.length : Int) - 1)) then (if (wrap64 ((x3_1.length : Int) - 1)) < (x3_1.length : Int) then ((letterlocklaw6_joined.f kj5 t203 (rdOf ByteArray.empty x3_1 (wrap64 ((x3_1.length : Int) - 2))) (rdOf ByteArray.empty x3_1 (wrap64 ((x3_1.length : Int) - 1)))).bind fun t225 => ((some (([] : List ByteArray) : List ByteArray)).bind fun y226 => (if (wrap64 ((x3_1.length : Int) - 2)) ≤ (x3_1.length : Int) then ((some (x3_1.take ((wrap64 ((x3_1.length : Int) - 2)) : Int).toNat : List ByteArray)).bind fun y229 => (if y226.length + y229.length < 8796093022208 then ((some (y226 ++ y229 : List ByteArray)).bind fun y233 => (if y233.length < 8796093022208 then (letterlocklaw6_grown.l0 kj5 l0 (y233 ++ [t225]) (wrap64 (x4_1 + 1))) else (none))) else (none))) else (none)))) else (none)) else (none)) else (none)) else (none)) else (letterlocklaw6_grown.l0 kj5 l0 x3_1 (wrap64 (x4_1 + 1))))))))) = some r := H
                have A11 := Aside0.mk A110
                clear A110
                replace H := Option.bind_eq_some_iff.mp H
                obtain ⟨t205, A120, H⟩ := H
                replace H : (if t203 < 3 then ((letterlockref3_OfAtom.f kj5 (IntKind.u64.wrap (t205))).bind fun t206 => (if x3_1.length < 8796093022208 then (letterlocklaw6_grown.l0 kj5 l0 (x3_1 ++ [t206]) (wrap64 (x4_1 + 1))) else (none))) else (if t203 = 3 then (if 0 ≤ t205 then (if t205 ≤ 5 then ((letterlockref3_OfText.f kj5 ((⟨#[97, 98, 99, 100, 101]⟩ : ByteArray).extract 0 (t205 : Int).toNat)).bind fun bt210 => (if x3_1.length < 8796093022208 then (letterlocklaw6_grown.l0 kj5 l0 (x3_1 ++ [bt210.1]) (wrap64 (x4_1 + 1))) else (none))) else (none)) else (none)) else (if t203 = 4 then (if 0 ≤ (wrap64 ((x3_1.length : Int) - 1)) then (if (wrap64 ((x3_1.length : Int) - 1)) < (x3_1.length : Int) then ((letterlockref3_OfHash.f kj5 (rdOf ByteArray.empty x3_1 (wrap64 ((x3_1.length : Int) - 1)))).bind fun bt216 => (if bt216.2 = 0 then (letterlocklaw6_grown.l0 kj5 l0 (x3_1.set ((wrap64 ((x3_1.length : Int) - 1)) : Int).toNat bt216.1) (wrap64 (x4_1 + 1))) else (letterlocklaw6_grown.l0 kj5 l0 x3_1 (wrap64 (x4_1 + 1))))) else (none)) else (none)) else (if t203 = 5 then (if 0 ≤ (wrap64 ((x3_1.length : Int) - 1)) then (if (wrap64 ((x3_1.length : Int) - 1)) < (x3_1.length : Int) then ((letterlockref3_OfPublic.f kj5 (rdOf ByteArray.empty x3_1 (wrap64 ((x3_1.length : Int) - 1)))).bind fun bt220 => (if bt220.2 = 0 then (letterlocklaw6_grown.l0 kj5 l0 (x3_1.set ((wrap64 ((x3_1.length : Int) - 1)) : Int).toNat bt220.1) (wrap64 (x4_1 + 1))) else (letterlocklaw6_grown.l0 kj5 l0 x3_1 (wrap64 (x4_1 + 1))))) else (none)) else (none)) else (if (x3_1.length : Int) > 1 then (if 0 ≤ (wrap64 ((x3_1.length : Int) - 2)) then (if (wrap64 ((x3_1.length : Int) - 2)) < (x3_1.length : Int) then (if 0 ≤ (wrap64 ((x3_1.length : Int) - 1)) then (if (wrap64 ((x3_1.length : Int) - 1)) < (x3_1.length : Int) then ((letterlocklaw6_joined.f kj5 t203 (rdOf ByteArray.empty x3_1 (wrap64 ((x3_1.length : Int) - 2))) (rdOf ByteArray.empty x3_1 (wrap64 ((x3_1.length : Int) - 1)))).bind fun t225 => ((some (([] : List ByteArray) : List ByteArray)).bind fun y226 => (if (wrap64 ((x3_1.length : Int) - 2)) ≤ (x3_1.length : Int) then ((some (x3_1.take ((wrap64 ((x3_1.length : Int) - 2)) : Int).toNat : List ByteArray)).bind fun y229 => (if y226.length + y229.length < 8796093022208 then ((some (y226 ++ y229 : List ByteArray)).bind fun y233 => (if y233.length < 8796093022208 then (letterlocklaw6_grown.l0 kj5 l0 (y233 ++ [t225]) (wrap64 (x4_1 + 1))) else (none))) else (none))) else (none)))) else (none)) else (none)) else (none)) else (none)) else (letterlocklaw6_grown.l0 kj5 l0 x3_1 (wrap64 (x4_1 + 1)))))))) = some r := H
                have A12 := Aside0.mk A120
                clear A120
                by_cases c13 : t203 < 3
                · rw [if_pos c13] at H
                  have c13b0 : decide (t203 < 3) = true := decide_eq_true c13
                  clear c13
                  replace H := Option.bind_eq_some_iff.mp H
                  obtain ⟨t206, A140, H⟩ := H
                  replace H : (if x3_1.length < 8796093022208 then (letterlocklaw6_grown.l0 kj5 l0 (x3_1 ++ [t206]) (wrap64 (x4_1 + 1))) else (none)) = some r := H
                  have A14 := Aside0.mk A140
                  clear A140
                  by_cases c15 : x3_1.length < 8796093022208
                  · rw [if_pos c15] at H
                    have LMc15 := Aside0.mk c15
                    clear c15
                    obtain ⟨y207, hy207⟩ : ∃ y_ : List ByteArray, y_ = (x3_1 ++ [t206]) := ⟨_, rfl⟩
                    replace H : (letterlocklaw6_grown.l0 kj5 l0 y207 (wrap64 (x4_1 + 1))) = some r := by first | (rw [hy207]; with_reducible exact H) | (have H2_ := (Option.bind_some _ _).symm.trans H; rw [hy207]; with_reducible exact H2_) | (have H2_ := (Option.bind_some _ _).symm.trans H; with_reducible exact H2_) | with_reducible exact H | (rw [hy207]; exact H) | exact H
                    have Ny207 := Aside0.mk hy207
                    clear hy207
                    have H' := Aside0.mk H
                    clear H
                    obtain ⟨Ao16, co16, eo16⟩ := Kd.R_slice HO_3.out
                    subst eo16
                    have p202 : 0 ≤ (x4_1 : Int) := of_decide_eq_true (by first | (with_reducible assumption) | assumption)
                    have q202 : x4_1 < (l0.length : Int) := of_decide_eq_true (by first | (with_reducible assumption) | assumption)
                    obtain ⟨ad202, e202, hx202_0⟩ := Kd.at_int HR0.out x4_1 p202 q202
                    cases e202
                    replace hx202_0 := (HB.out.cell (World.block_lt_of_cell? w _ hx202_0)).trans hx202_0
                    replace p202 := eq_true p202
                    replace q202 := eq_true q202
                    go_wp2_with (first | ((with_reducible refine gate_callee (f := 11) rfl ?_); refine goesL_ (some 33) rfl rfl Try.func11 (by kernel_rfl) rfl #[.int .i64 (rd l0 x4_1), .int .i64 10] rfl (by (try simp only [List.map_toArray, List.map_cons, List.map_nil]); first | done | rfl | (simp only [List.length_drop, List.length_take]; rfl)) ?_; (with_reducible refine (letterlocklaw6_pick.calls (rd l0 x4_1) 10 t203 _ A11.out).mono ?_); rintro e w' ⟨rfl, ⟨nd, rfl⟩⟩; refine ⟨_, rfl, ?_⟩; have p204 : 0 ≤ (x4_1 : Int) := of_decide_eq_true (by first | (with_reducible assumption) | assumption); have q204 : x4_1 < (l0.length : Int) := of_decide_eq_true (by first | (with_reducible assumption) | assumption); obtain ⟨ad204, e204, hx204_0⟩ := Kd.at_int HR0.out x4_1 p204 q204; obtain rfl : ad202 = ad204 := (by injection e204); replace hx204_0 := (HB.out.cell (World.block_lt_of_cell? w _ hx204_0)).trans hx204_0; replace p204 := eq_true p204; replace q204 := eq_true q204) | ((with_reducible refine gate_callee (f := 11) rfl ?_); refine goesL_ (some 39) rfl rfl Try.func11 (by kernel_rfl) rfl #[.int .i64 (wrap64 (Int.tdiv (rd l0 x4_1) 10)), .int .i64 5] rfl (by (try simp only [List.map_toArray, List.map_cons, List.map_nil]); first | done | rfl | (simp only [List.length_drop, List.length_take]; rfl)) ?_; (with_reducible refine (letterlocklaw6_pick.calls (wrap64 (Int.tdiv (rd l0 x4_1) 10)) 5 t205 _ A12.out).mono ?_); rintro e w' ⟨rfl, ⟨nd, rfl⟩⟩; refine ⟨_, rfl, ?_⟩) | ((with_reducible refine gate_callee (f := 33) rfl ?_); refine goesL_ (some 46) rfl rfl Try.func33 (by kernel_rfl) rfl #[.int .u64 (IntKind.u64.wrap (t205))] rfl (by (try simp only [List.map_toArray, List.map_cons, List.map_nil]); first | done | rfl | (simp only [List.length_drop, List.length_take]; rfl)) ?_; (with_reducible refine (letterlockref3_OfAtom.calls kj5 (IntKind.u64.wrap (t205)) t206 _ A14.out).mono ?_); rintro e w17 ⟨rfl, hb⟩; refine ⟨_, rfl, ?_⟩; have n0_ := Aside0.mk (Kd.R_below (by (with_reducible repeat (first | apply Kd.R_alloc | apply Kd.R_drewN | apply Kd.R_drew)); exact HO_3.out) hb); have n1_ := Aside0.mk (below_step (by repeat (first | (with_reducible first | exact HB.out | apply below_alloc | apply pw_below_drewN | apply below_drew1) | exact HB.out)) hb); clear HO_3; clear HB; have HO_3 := n0_; have HB := n1_; clear n0_ n1_; (try clear hb); (try clear hb2); (try clear hk); (try clear hi)) | ((with_reducible refine gate_builtin (b := .append) (xs := #[.tmp 43, .tmp 47]) rfl ?_); at_builtin; refine Kd.R_append Kd.string (w0 := w) w.heap.size rfl (.tmp 43) (.tmp 47) 29 9 (.string ⟨#[]⟩) 16 rfl Try.underlying29 info9 rfl (by decide) (by omega) (.slice Ao16 x3_1.length co16) x3_1 t206 [.string t206] (fun _ => True) (fun _ => False) rfl rfl ?aP (fun _ hk => hk.elim) ?aF ?aO ?aB ?aS ?aL ?_; (case aP => exact rfl); (case aB => exact (by repeat (first | (with_reducible first | exact HB.out | apply below_alloc | apply pw_below_drewN | apply below_drew1) | exact HB.out))); (case aF => exact (fun _ _ => trivial)); (case aO => exact (by (with_reducible repeat (first | apply Kd.R_alloc | apply Kd.R_drewN | apply Kd.R_drew)); exact HO_3.out)); (case aS => exact (below_size (by repeat (first | (with_reducible first | exact HB.out | apply below_alloc | apply pw_below_drewN | apply below_drew1) | exact HB.out)))); (case aL => have := LMc15.out; omega); intro v208 w18 ho hb hg hat; rw [← Ny207.out] at ho; have n0_ := Aside0.mk (hb); have n1_ := Aside0.mk (ho); clear HB; clear HO_3; have HB := n0_; have HO209 := n1_; clear n0_ n1_; clear ho hb hg hat))
                    go_roundg kj5
                    case measure => have := HK1.out; have := HJ5.out; omega
                    case rel => exact ⟨(y207), (wrap64 (x4_1 + 1)), (by first | rfl | (simp; done) | (simp [*]; done)), H', ⟨by have := HK1.out; have := HJ5.out; omega⟩, ⟨by (with_reducible repeat (first | apply Kd.R_alloc | apply Kd.R_drewN | apply Kd.R_drew)); exact HO209.out⟩, ⟨by repeat (first | (with_reducible first | exact HB.out | apply below_alloc | apply pw_below_drewN | apply below_drew1) | exact HB.out)⟩⟩
                  · rw [if_neg c15] at H
                    exact absurd H (by simp)
                · rw [if_neg c13] at H
                  have c13b0 : decide (t203 < 3) = false := decide_eq_false c13
                  clear c13
                  by_cases c19 : t203 = 3
                  · rw [if_pos c19] at H
                    have c19b0 : (t203 == 3) = true := beq_iff_eq.mpr c19
                    have c19b1 : (t203 != 3) = false := bne_eq_false_iff_eq.mpr c19
                    clear c19
                    by_cases c20 : 0 ≤ t205
                    · rw [if_pos c20] at H
                      have c20b0 := eq_true c20
                      have c20b1 : decide (0 ≤ t205) = true := decide_eq_true c20
                      clear c20
                      by_cases c21 : t205 ≤ 5
                      · rw [if_pos c21] at H
                        have c21b0 := eq_true c21
                        have c21b1 : decide (t205 ≤ 5) = true := decide_eq_true c21
                        clear c21
                        replace H := Option.bind_eq_some_iff.mp H
                        obtain ⟨⟨t210, t211⟩, A220, H⟩ := H
                        replace H : (if x3_1.length < 8796093022208 then (letterlocklaw6_grown.l0 kj5 l0 (x3_1 ++ [t210]) (wrap64 (x4_1 + 1))) else (none)) = some r := H
                        have A22 := Aside0.mk A220
                        clear A220
                        by_cases c23 : x3_1.length < 8796093022208
                        · rw [if_pos c23] at H
                          have LMc23 := Aside0.mk c23
                          clear c23
                          obtain ⟨y212, hy212⟩ : ∃ y_ : List ByteArray, y_ = (x3_1 ++ [t210]) := ⟨_, rfl⟩
                          replace H : (letterlocklaw6_grown.l0 kj5 l0 y212 (wrap64 (x4_1 + 1))) = some r := by first | (rw [hy212]; with_reducible exact H) | (have H2_ := (Option.bind_some _ _).symm.trans H; rw [hy212]; with_reducible exact H2_) | (have H2_ := (Option.bind_some _ _).symm.trans H; with_reducible exact H2_) | with_reducible exact H | (rw [hy212]; exact H) | exact H
                          have Ny212 := Aside0.mk hy212
                          clear hy212
                          have H' := Aside0.mk H
                          clear H
                          obtain ⟨Ao24, co24, eo24⟩ := Kd.R_slice HO_3.out
                          subst eo24
                          have p202 : 0 ≤ (x4_1 : Int) := of_decide_eq_true (by first | (with_reducible assumption) | assumption)
                          have q202 : x4_1 < (l0.length : Int) := of_decide_eq_true (by first | (with_reducible assumption) | assumption)
                          obtain ⟨ad202, e202, hx202_0⟩ := Kd.at_int HR0.out x4_1 p202 q202
                          cases e202
                          replace hx202_0 := (HB.out.cell (World.block_lt_of_cell? w _ hx202_0)).trans hx202_0
                          replace p202 := eq_true p202
                          replace q202 := eq_true q202
                          go_wp2_with (first | ((with_reducible refine gate_callee (f := 11) rfl ?_); refine goesL_ (some 33) rfl rfl Try.func11 (by kernel_rfl) rfl #[.int .i64 (rd l0 x4_1), .int .i64 10] rfl (by (try simp only [List.map_toArray, List.map_cons, List.map_nil]); first | done | rfl | (simp only [List.length_drop, List.length_take]; rfl)) ?_; (with_reducible refine (letterlocklaw6_pick.calls (rd l0 x4_1) 10 t203 _ A11.out).mono ?_); rintro e w' ⟨rfl, ⟨nd, rfl⟩⟩; refine ⟨_, rfl, ?_⟩; have p204 : 0 ≤ (x4_1 : Int) := of_decide_eq_true (by first | (with_reducible assumption) | assumption); have q204 : x4_1 < (l0.length : Int) := of_decide_eq_true (by first | (with_reducible assumption) | assumption); obtain ⟨ad204, e204, hx204_0⟩ := Kd.at_int HR0.out x4_1 p204 q204; obtain rfl : ad202 = ad204 := (by injection e204); replace hx204_0 := (HB.out.cell (World.block_lt_of_cell? w _ hx204_0)).trans hx204_0; replace p204 := eq_true p204; replace q204 := eq_true q204) | ((with_reducible refine gate_callee (f := 11) rfl ?_); refine goesL_ (some 39) rfl rfl Try.func11 (by kernel_rfl) rfl #[.int .i64 (wrap64 (Int.tdiv (rd l0 x4_1) 10)), .int .i64 5] rfl (by (try simp only [List.map_toArray, List.map_cons, List.map_nil]); first | done | rfl | (simp only [List.length_drop, List.length_take]; rfl)) ?_; (with_reducible refine (letterlocklaw6_pick.calls (wrap64 (Int.tdiv (rd l0 x4_1) 10)) 5 t205 _ A12.out).mono ?_); rintro e w' ⟨rfl, ⟨nd, rfl⟩⟩; refine ⟨_, rfl, ?_⟩) | ((with_reducible refine gate_callee (f := 34) rfl ?_); refine goesL_ (some 55) rfl rfl Try.func34 (by kernel_rfl) rfl #[.string ((⟨#[97, 98, 99, 100, 101]⟩ : ByteArray).extract 0 (t205 : Int).toNat)] rfl (by (try simp only [List.map_toArray, List.map_cons, List.map_nil]); first | done | rfl | (simp only [List.length_drop, List.length_take]; rfl)) ?_; (with_reducible refine (letterlockref3_OfText.calls kj5 ((⟨#[97, 98, 99, 100, 101]⟩ : ByteArray).extract 0 (t205 : Int).toNat) t210 t211 _ A22.out).mono ?_); rintro e w25 ⟨rfl, hb⟩; refine ⟨_, rfl, ?_⟩; have n0_ := Aside0.mk (Kd.R_below (by (with_reducible repeat (first | apply Kd.R_alloc | apply Kd.R_drewN | apply Kd.R_drew)); exact HO_3.out) hb); have n1_ := Aside0.mk (below_step (by repeat (first | (with_reducible first | exact HB.out | apply below_alloc | apply pw_below_drewN | apply below_drew1) | exact HB.out)) hb); clear HO_3; clear HB; have HO_3 := n0_; have HB := n1_; clear n0_ n1_; (try clear hb); (try clear hb2); (try clear hk); (try clear hi)) | ((with_reducible refine gate_builtin (b := .append) (xs := #[.tmp 58, .tmp 60]) rfl ?_); at_builtin; refine Kd.R_append Kd.string (w0 := w) w.heap.size rfl (.tmp 58) (.tmp 60) 29 9 (.string ⟨#[]⟩) 16 rfl Try.underlying29 info9 rfl (by decide) (by omega) (.slice Ao24 x3_1.length co24) x3_1 t210 [.string t210] (fun _ => True) (fun _ => False) rfl rfl ?aP (fun _ hk => hk.elim) ?aF ?aO ?aB ?aS ?aL ?_; (case aP => exact rfl); (case aB => exact (by repeat (first | (with_reducible first | exact HB.out | apply below_alloc | apply pw_below_drewN | apply below_drew1) | exact HB.out))); (case aF => exact (fun _ _ => trivial)); (case aO => exact (by (with_reducible repeat (first | apply Kd.R_alloc | apply Kd.R_drewN | apply Kd.R_drew)); exact HO_3.out)); (case aS => exact (below_size (by repeat (first | (with_reducible first | exact HB.out | apply below_alloc | apply pw_below_drewN | apply below_drew1) | exact HB.out)))); (case aL => have := LMc23.out; omega); intro v213 w26 ho hb hg hat; rw [← Ny212.out] at ho; have n0_ := Aside0.mk (hb); have n1_ := Aside0.mk (ho); clear HB; clear HO_3; have HB := n0_; have HO214 := n1_; clear n0_ n1_; clear ho hb hg hat))
                          go_roundg kj5
                          case measure => have := HK1.out; have := HJ5.out; omega
                          case rel => exact ⟨(y212), (wrap64 (x4_1 + 1)), (by first | rfl | (simp; done) | (simp [*]; done)), H', ⟨by have := HK1.out; have := HJ5.out; omega⟩, ⟨by (with_reducible repeat (first | apply Kd.R_alloc | apply Kd.R_drewN | apply Kd.R_drew)); exact HO214.out⟩, ⟨by repeat (first | (with_reducible first | exact HB.out | apply below_alloc | apply pw_below_drewN | apply below_drew1) | exact HB.out)⟩⟩
                        · rw [if_neg c23] at H
                          exact absurd H (by simp)
                      · rw [if_neg c21] at H
                        exact absurd H (by simp)
                    · rw [if_neg c20] at H
                      exact absurd H (by simp)
                  · rw [if_neg c19] at H
                    have c19b0 : (t203 == 3) = false := beq_eq_false_iff_ne.mpr c19
                    have c19b1 : (t203 != 3) = true := bne_iff_ne.mpr c19
                    by_cases c27 : t203 = 4
                    · rw [if_pos c27] at H
                      have c27b0 : (t203 == 4) = true := beq_iff_eq.mpr c27
                      have c27b1 : (t203 != 4) = false := bne_eq_false_iff_eq.mpr c27
                      clear c27
                      obtain ⟨ji28, hji28⟩ : ∃ j_ : Int, (wrap64 ((x3_1.length : Int) - 1)) = j_ := ⟨_, rfl⟩
                      replace H : (if 0 ≤ (ji28) then (if (ji28) < (x3_1.length : Int) then ((letterlockref3_OfHash.f kj5 (rdOf ByteArray.empty x3_1 (ji28))).bind fun bt216 => (if bt216.2 = 0 then (letterlocklaw6_grown.l0 kj5 l0 (x3_1.set ((ji28) : Int).toNat bt216.1) (wrap64 (x4_1 + 1))) else (letterlocklaw6_grown.l0 kj5 l0 x3_1 (wrap64 (x4_1 + 1))))) else (none)) else (none)) = some r := by first | (rw [hji28] at H; exact H) | (simp only [hji28] at H ⊢; exact H)
                      (try rw [hji28] at A11)
                      (try rw [hji28] at A12)
                      have hji28w : (IntKind.i64.wrap ((x3_1.length : Int) - 1)) = ji28 := (i64_w _).trans hji28
                      by_cases c29 : 0 ≤ (ji28)
                      · rw [if_pos c29] at H
                        have c29b0 : decide (0 ≤ (ji28)) = true := decide_eq_true c29
                        clear c29
                        by_cases c30 : (ji28) < (x3_1.length : Int)
                        · rw [if_pos c30] at H
                          have c30b0 : decide ((ji28) < (x3_1.length : Int)) = true := decide_eq_true c30
                          clear c30
                          replace H := Option.bind_eq_some_iff.mp H
                          obtain ⟨⟨t216, t217⟩, A310, H⟩ := H
                          replace H : (if t217 = 0 then (letterlocklaw6_grown.l0 kj5 l0 (x3_1.set ((ji28) : Int).toNat t216) (wrap64 (x4_1 + 1))) else (letterlocklaw6_grown.l0 kj5 l0 x3_1 (wrap64 (x4_1 + 1)))) = some r := H
                          have A31 := Aside0.mk A310
                          clear A310
                          by_cases c32 : t217 = 0
                          · rw [if_pos c32] at H
                            have c32b0 : (t217 == 0) = true := beq_iff_eq.mpr c32
                            have c32b1 : (t217 != 0) = false := bne_eq_false_iff_eq.mpr c32
                            clear c32
                            obtain ⟨y218, hy218⟩ : ∃ y_ : List ByteArray, y_ = (x3_1.set ((ji28) : Int).toNat t216) := ⟨_, rfl⟩
                            replace H : (letterlocklaw6_grown.l0 kj5 l0 y218 (wrap64 (x4_1 + 1))) = some r := by first | (rw [hy218]; with_reducible exact H) | (have H2_ := (Option.bind_some _ _).symm.trans H; rw [hy218]; with_reducible exact H2_) | (have H2_ := (Option.bind_some _ _).symm.trans H; with_reducible exact H2_) | with_reducible exact H | (rw [hy218]; exact H) | exact H
                            have Ny218 := Aside0.mk hy218
                            clear hy218
                            have H' := Aside0.mk H
                            clear H
                            obtain ⟨Ao34, co34, eo34⟩ := Kd.R_slice HO_3.out
                            subst eo34
                            have p202 : 0 ≤ (x4_1 : Int) := of_decide_eq_true (by first | (with_reducible assumption) | assumption)
                            have q202 : x4_1 < (l0.length : Int) := of_decide_eq_true (by first | (with_reducible assumption) | assumption)
                            obtain ⟨ad202, e202, hx202_0⟩ := Kd.at_int HR0.out x4_1 p202 q202
                            cases e202
                            replace hx202_0 := (HB.out.cell (World.block_lt_of_cell? w _ hx202_0)).trans hx202_0
                            replace p202 := eq_true p202
                            replace q202 := eq_true q202
                            go_wp2_with (first | ((with_reducible refine gate_callee (f := 11) rfl ?_); refine goesL_ (some 33) rfl rfl Try.func11 (by kernel_rfl) rfl #[.int .i64 (rd l0 x4_1), .int .i64 10] rfl (by (try simp only [List.map_toArray, List.map_cons, List.map_nil]); first | done | rfl | (simp only [List.length_drop, List.length_take]; rfl)) ?_; (with_reducible refine (letterlocklaw6_pick.calls (rd l0 x4_1) 10 t203 _ A11.out).mono ?_); rintro e w' ⟨rfl, ⟨nd, rfl⟩⟩; refine ⟨_, rfl, ?_⟩; (try (rw [drewN_self wc]; generalize hq_ : World.drewN wc _ = wc; have n0_ : Aside0 (Kd.R Kd.string 9 wc w.heap.size (fun _ => True) (.slice Ao34 x3_1.length co34) x3_1) := ⟨by rw [← hq_]; exact (by (with_reducible repeat (first | apply Kd.R_alloc | apply Kd.R_drewN | apply Kd.R_drew)); exact HO_3.out)⟩; have n1_ : Aside0 (Below w.heap.size w wc) := ⟨by rw [← hq_]; exact (by repeat (first | (with_reducible first | exact HB.out | apply below_alloc | apply pw_below_drewN | apply below_drew1) | exact HB.out))⟩; clear HO_3 HB hq_; have HO_3 := n0_; have HB := n1_; clear n0_ n1_)); have p204 : 0 ≤ (x4_1 : Int) := of_decide_eq_true (by first | (with_reducible assumption) | assumption); have q204 : x4_1 < (l0.length : Int) := of_decide_eq_true (by first | (with_reducible assumption) | assumption); obtain ⟨ad204, e204, hx204_0⟩ := Kd.at_int HR0.out x4_1 p204 q204; obtain rfl : ad202 = ad204 := (by injection e204); replace hx204_0 := (HB.out.cell (World.block_lt_of_cell? w _ hx204_0)).trans hx204_0; replace p204 := eq_true p204; replace q204 := eq_true q204) | ((with_reducible refine gate_callee (f := 11) rfl ?_); refine goesL_ (some 39) rfl rfl Try.func11 (by kernel_rfl) rfl #[.int .i64 (wrap64 (Int.tdiv (rd l0 x4_1) 10)), .int .i64 5] rfl (by (try simp only [List.map_toArray, List.map_cons, List.map_nil]); first | done | rfl | (simp only [List.length_drop, List.length_take]; rfl)) ?_; (with_reducible refine (letterlocklaw6_pick.calls (wrap64 (Int.tdiv (rd l0 x4_1) 10)) 5 t205 _ A12.out).mono ?_); rintro e w' ⟨rfl, ⟨nd, rfl⟩⟩; refine ⟨_, rfl, ?_⟩; (try (rw [drewN_self wc]; generalize hq_ : World.drewN wc _ = wc; have n0_ : Aside0 (Kd.R Kd.string 9 wc w.heap.size (fun _ => True) (.slice Ao34 x3_1.length co34) x3_1) := ⟨by rw [← hq_]; exact (by (with_reducible repeat (first | apply Kd.R_alloc | apply Kd.R_drewN | apply Kd.R_drew)); exact HO_3.out)⟩; have n1_ : Aside0 (Below w.heap.size w wc) := ⟨by rw [← hq_]; exact (by repeat (first | (with_reducible first | exact HB.out | apply below_alloc | apply pw_below_drewN | apply below_drew1) | exact HB.out))⟩; clear HO_3 HB hq_; have HO_3 := n0_; have HB := n1_; clear n0_ n1_)); have p215 : 0 ≤ ((ji28) : Int) := of_decide_eq_true (by first | (with_reducible assumption) | assumption); have q215 : (ji28) < (x3_1.length : Int) := of_decide_eq_true (by first | (with_reducible assumption) | assumption); obtain ⟨ad215, e215, hx215_0⟩ := Kd.at_string (Kd.R_reads' HO_3.out).2.2 (ji28) p215 q215; cases e215; replace p215 := eq_true p215; replace q215 := eq_true q215) | ((with_reducible refine gate_callee (f := 35) rfl ?_); refine goesL_ (some 71) rfl rfl Try.func35 (by kernel_rfl) rfl #[.string (rdOf ByteArray.empty x3_1 (ji28))] rfl (by (try simp only [List.map_toArray, List.map_cons, List.map_nil]); first | done | (simp only [hji28]; rfl) | rfl | (simp only [List.length_drop, List.length_take]; rfl)) ?_; (with_reducible refine (letterlockref3_OfHash.calls kj5 (rdOf ByteArray.empty x3_1 (ji28)) t216 t217 _ A31.out).mono ?_); rintro e w35 ⟨rfl, hb⟩; refine ⟨_, rfl, ?_⟩; have n0_ := Aside0.mk (Kd.R_below (by (with_reducible repeat (first | apply Kd.R_alloc | apply Kd.R_drewN | apply Kd.R_drew)); exact HO_3.out) hb); have n1_ := Aside0.mk (below_step (by repeat (first | (with_reducible first | exact HB.out | apply below_alloc | apply pw_below_drewN | apply below_drew1) | exact HB.out)) hb); clear HO_3; clear HB; have HO_3 := n0_; have HB := n1_; clear n0_ n1_; (try clear hb); (try clear hb2); (try clear hk); (try clear hi); have p33 : 0 ≤ ((ji28) : Int) := of_decide_eq_true (by first | (with_reducible assumption) | assumption); have q33 : ((ji28) : Int) < ((x3_1.length : Int) : Int) := of_decide_eq_true (by first | (with_reducible assumption) | assumption); obtain ⟨go33, co33, eo33, gb33, gl33, cl33, HG33⟩ := Kd.R_form HO_3.out (by omega); (first | cases eo33 | (injection eo33 with ea_ en_ ec_; (first | subst ea_ | (injection ea_ with ea_; subst ea_)); subst ec_; clear en_)); have GB33 := Aside0.mk gb33; have GG33 := Aside0.mk HG33; clear gb33 gl33 HG33; (first | simp only [add_plain] at hx215_0 | skip); obtain ⟨hx33_0, hf33_0⟩ := Kd.R_celln (⟨#[]⟩ : ByteArray) HO_3.out ((ji28) : Int) p33 q33; replace p33 := eq_true p33; replace q33 := eq_true q33; obtain ⟨hy36_, hz36_⟩ := Kd.R_celln (⟨#[]⟩ : ByteArray) HO_3.out ((ji28) : Int) (of_decide_eq_true (by first | (with_reducible assumption) | assumption)) (of_decide_eq_true (by first | (with_reducible assumption) | assumption)); have HP36 := Kd.R_putg HO_3.out ((ji28) : Int) t216) | ((with_reducible refine gate_store (t := 9) (p := 80) rfl ?_); refine store_event (t := 9) (p := 80) (v := ?vo_w37) (w1 := (w35.setCell ⟨go33, ((ji28) : Int).toNat, none⟩ (.string t216))) ?hg ?ho ?hn ?hr ?_; (case ho => rfl); (case hg => rfl); (case hn => rfl); (case hr => first | (go_simp; done) | (go_simp; rfl)); intro w37 hw; have hg : w35.grownBy w37 (some go33) := (by rw [hw]; exact HP36.2); have hp_ : Kd.R Kd.string 9 w37 w.heap.size (fun _ => True) (.slice (some ⟨go33, 0, none⟩) x3_1.length co34) y218 := (by rw [hw, Ny218.out]; exact HP36.1); clear HP36; have n0_ := Aside0.mk (hp_); have n1_ := Aside0.mk ((by rw [hw]; exact below_set (HB.out) GB33.out : Below w.heap.size w w37)); clear HO_3; clear HB; have HO_3 := n0_; have HB := n1_; clear n0_ n1_; clear hg hw hp_))
                            go_roundg kj5
                            case measure => have := HK1.out; have := HJ5.out; omega
                            case rel => exact ⟨(y218), (wrap64 (x4_1 + 1)), (by first | rfl | (simp; done) | (simp [*]; done)), H', ⟨by have := HK1.out; have := HJ5.out; omega⟩, ⟨by (with_reducible repeat (first | apply Kd.R_alloc | apply Kd.R_drewN | apply Kd.R_drew)); exact HO_3.out⟩, ⟨by repeat (first | (with_reducible first | exact HB.out | apply below_alloc | apply pw_below_drewN | apply below_drew1) | exact HB.out)⟩⟩
                          · rw [if_neg c32] at H
                            have c32b0 : (t217 == 0) = false := beq_eq_false_iff_ne.mpr c32
                            have c32b1 : (t217 != 0) = true := bne_iff_ne.mpr c32
                            have H' := Aside0.mk H
                            clear H
                            obtain ⟨Ao38, co38, eo38⟩ := Kd.R_slice HO_3.out
                            subst eo38
                            have p202 : 0 ≤ (x4_1 : Int) := of_decide_eq_true (by first | (with_reducible assumption) | assumption)
                            have q202 : x4_1 < (l0.length : Int) := of_decide_eq_true (by first | (with_reducible assumption) | assumption)
                            obtain ⟨ad202, e202, hx202_0⟩ := Kd.at_int HR0.out x4_1 p202 q202
                            cases e202
                            replace hx202_0 := (HB.out.cell (World.block_lt_of_cell? w _ hx202_0)).trans hx202_0
                            replace p202 := eq_true p202
                            replace q202 := eq_true q202
                            go_wp2_with (first | ((with_reducible refine gate_callee (f := 11) rfl ?_); refine goesL_ (some 33) rfl rfl Try.func11 (by kernel_rfl) rfl #[.int .i64 (rd l0 x4_1), .int .i64 10] rfl (by (try simp only [List.map_toArray, List.map_cons, List.map_nil]); first | done | rfl | (simp only [List.length_drop, List.length_take]; rfl)) ?_; (with_reducible refine (letterlocklaw6_pick.calls (rd l0 x4_1) 10 t203 _ A11.out).mono ?_); rintro e w' ⟨rfl, ⟨nd, rfl⟩⟩; refine ⟨_, rfl, ?_⟩; have p204 : 0 ≤ (x4_1 : Int) := of_decide_eq_true (by first | (with_reducible assumption) | assumption); have q204 : x4_1 < (l0.length : Int) := of_decide_eq_true (by first | (with_reducible assumption) | assumption); obtain ⟨ad204, e204, hx204_0⟩ := Kd.at_int HR0.out x4_1 p204 q204; obtain rfl : ad202 = ad204 := (by injection e204); replace hx204_0 := (HB.out.cell (World.block_lt_of_cell? w _ hx204_0)).trans hx204_0; replace p204 := eq_true p204; replace q204 := eq_true q204) | ((with_reducible refine gate_callee (f := 11) rfl ?_); refine goesL_ (some 39) rfl rfl Try.func11 (by kernel_rfl) rfl #[.int .i64 (wrap64 (Int.tdiv (rd l0 x4_1) 10)), .int .i64 5] rfl (by (try simp only [List.map_toArray, List.map_cons, List.map_nil]); first | done | rfl | (simp only [List.length_drop, List.length_take]; rfl)) ?_; (with_reducible refine (letterlocklaw6_pick.calls (wrap64 (Int.tdiv (rd l0 x4_1) 10)) 5 t205 _ A12.out).mono ?_); rintro e w' ⟨rfl, ⟨nd, rfl⟩⟩; refine ⟨_, rfl, ?_⟩; have p215 : 0 ≤ ((ji28) : Int) := of_decide_eq_true (by first | (with_reducible assumption) | assumption); have q215 : (ji28) < (x3_1.length : Int) := of_decide_eq_true (by first | (with_reducible assumption) | assumption); obtain ⟨ad215, e215, hx215_0⟩ := Kd.at_string (Kd.R_reads' HO_3.out).2.2 (ji28) p215 q215; cases e215; replace p215 := eq_true p215; replace q215 := eq_true q215) | ((with_reducible refine gate_callee (f := 35) rfl ?_); refine goesL_ (some 71) rfl rfl Try.func35 (by kernel_rfl) rfl #[.string (rdOf ByteArray.empty x3_1 (ji28))] rfl (by (try simp only [List.map_toArray, List.map_cons, List.map_nil]); first | done | (simp only [hji28]; rfl) | rfl | (simp only [List.length_drop, List.length_take]; rfl)) ?_; (with_reducible refine (letterlockref3_OfHash.calls kj5 (rdOf ByteArray.empty x3_1 (ji28)) t216 t217 _ A31.out).mono ?_); rintro e w39 ⟨rfl, hb⟩; refine ⟨_, rfl, ?_⟩; have n0_ := Aside0.mk (Kd.R_below (by (with_reducible repeat (first | apply Kd.R_alloc | apply Kd.R_drewN | apply Kd.R_drew)); exact HO_3.out) hb); have n1_ := Aside0.mk (below_step (by repeat (first | (with_reducible first | exact HB.out | apply below_alloc | apply pw_below_drewN | apply below_drew1) | exact HB.out)) hb); clear HO_3; clear HB; have HO_3 := n0_; have HB := n1_; clear n0_ n1_; (try clear hb); (try clear hb2); (try clear hk); (try clear hi)))
                            go_roundg kj5
                            case measure => have := HK1.out; have := HJ5.out; omega
                            case rel => exact ⟨(x3_1), (wrap64 (x4_1 + 1)), (by first | rfl | (simp; done) | (simp [*]; done)), H', ⟨by have := HK1.out; have := HJ5.out; omega⟩, ⟨by (with_reducible repeat (first | apply Kd.R_alloc | apply Kd.R_drewN | apply Kd.R_drew)); exact HO_3.out⟩, ⟨by repeat (first | (with_reducible first | exact HB.out | apply below_alloc | apply pw_below_drewN | apply below_drew1) | exact HB.out)⟩⟩
                        · rw [if_neg c30] at H
                          exact absurd H (by simp)
                      · rw [if_neg c29] at H
                        exact absurd H (by simp)
                    · rw [if_neg c27] at H
                      have c27b0 : (t203 == 4) = false := beq_eq_false_iff_ne.mpr c27
                      have c27b1 : (t203 != 4) = true := bne_iff_ne.mpr c27
                      by_cases c40 : t203 = 5
                      · rw [if_pos c40] at H
                        have c40b0 : (t203 == 5) = true := beq_iff_eq.mpr c40
                        have c40b1 : (t203 != 5) = false := bne_eq_false_iff_eq.mpr c40
                        clear c40
                        obtain ⟨ji41, hji41⟩ : ∃ j_ : Int, (wrap64 ((x3_1.length : Int) - 1)) = j_ := ⟨_, rfl⟩
                        replace H : (if 0 ≤ (ji41) then (if (ji41) < (x3_1.length : Int) then ((letterlockref3_OfPublic.f kj5 (rdOf ByteArray.empty x3_1 (ji41))).bind fun bt220 => (if bt220.2 = 0 then (letterlocklaw6_grown.l0 kj5 l0 (x3_1.set ((ji41) : Int).toNat bt220.1) (wrap64 (x4_1 + 1))) else (letterlocklaw6_grown.l0 kj5 l0 x3_1 (wrap64 (x4_1 + 1))))) else (none)) else (none)) = some r := by first | (rw [hji41] at H; exact H) | (simp only [hji41] at H ⊢; exact H)
                        (try rw [hji41] at A11)
                        (try rw [hji41] at A12)
                        have hji41w : (IntKind.i64.wrap ((x3_1.length : Int) - 1)) = ji41 := (i64_w _).trans hji41
                        by_cases c42 : 0 ≤ (ji41)
                        · rw [if_pos c42] at H
                          have c42b0 : decide (0 ≤ (ji41)) = true := decide_eq_true c42
                          clear c42
                          by_cases c43 : (ji41) < (x3_1.length : Int)
                          · rw [if_pos c43] at H
                            have c43b0 : decide ((ji41) < (x3_1.length : Int)) = true := decide_eq_true c43
                            clear c43
                            replace H := Option.bind_eq_some_iff.mp H
                            obtain ⟨⟨t220, t221⟩, A440, H⟩ := H
                            replace H : (if t221 = 0 then (letterlocklaw6_grown.l0 kj5 l0 (x3_1.set ((ji41) : Int).toNat t220) (wrap64 (x4_1 + 1))) else (letterlocklaw6_grown.l0 kj5 l0 x3_1 (wrap64 (x4_1 + 1)))) = some r := H
                            have A44 := Aside0.mk A440
                            clear A440
                            by_cases c45 : t221 = 0
                            · rw [if_pos c45] at H
                              have c45b0 : (t221 == 0) = true := beq_iff_eq.mpr c45
                              have c45b1 : (t221 != 0) = false := bne_eq_false_iff_eq.mpr c45
                              clear c45
                              obtain ⟨y222, hy222⟩ : ∃ y_ : List ByteArray, y_ = (x3_1.set ((ji41) : Int).toNat t220) := ⟨_, rfl⟩
                              replace H : (letterlocklaw6_grown.l0 kj5 l0 y222 (wrap64 (x4_1 + 1))) = some r := by first | (rw [hy222]; with_reducible exact H) | (have H2_ := (Option.bind_some _ _).symm.trans H; rw [hy222]; with_reducible exact H2_) | (have H2_ := (Option.bind_some _ _).symm.trans H; with_reducible exact H2_) | with_reducible exact H | (rw [hy222]; exact H) | exact H
                              have Ny222 := Aside0.mk hy222
                              clear hy222
                              have H' := Aside0.mk H
                              clear H
                              obtain ⟨Ao47, co47, eo47⟩ := Kd.R_slice HO_3.out
                              subst eo47
                              have p202 : 0 ≤ (x4_1 : Int) := of_decide_eq_true (by first | (with_reducible assumption) | assumption)
                              have q202 : x4_1 < (l0.length : Int) := of_decide_eq_true (by first | (with_reducible assumption) | assumption)
                              obtain ⟨ad202, e202, hx202_0⟩ := Kd.at_int HR0.out x4_1 p202 q202
                              cases e202
                              replace hx202_0 := (HB.out.cell (World.block_lt_of_cell? w _ hx202_0)).trans hx202_0
                              replace p202 := eq_true p202
                              replace q202 := eq_true q202
                              go_wp2_with (first | ((with_reducible refine gate_callee (f := 11) rfl ?_); refine goesL_ (some 33) rfl rfl Try.func11 (by kernel_rfl) rfl #[.int .i64 (rd l0 x4_1), .int .i64 10] rfl (by (try simp only [List.map_toArray, List.map_cons, List.map_nil]); first | done | rfl | (simp only [List.length_drop, List.length_take]; rfl)) ?_; (with_reducible refine (letterlocklaw6_pick.calls (rd l0 x4_1) 10 t203 _ A11.out).mono ?_); rintro e w' ⟨rfl, ⟨nd, rfl⟩⟩; refine ⟨_, rfl, ?_⟩; (try (rw [drewN_self wc]; generalize hq_ : World.drewN wc _ = wc; have n0_ : Aside0 (Kd.R Kd.string 9 wc w.heap.size (fun _ => True) (.slice Ao47 x3_1.length co47) x3_1) := ⟨by rw [← hq_]; exact (by (with_reducible repeat (first | apply Kd.R_alloc | apply Kd.R_drewN | apply Kd.R_drew)); exact HO_3.out)⟩; have n1_ : Aside0 (Below w.heap.size w wc) := ⟨by rw [← hq_]; exact (by repeat (first | (with_reducible first | exact HB.out | apply below_alloc | apply pw_below_drewN | apply below_drew1) | exact HB.out))⟩; clear HO_3 HB hq_; have HO_3 := n0_; have HB := n1_; clear n0_ n1_)); have p204 : 0 ≤ (x4_1 : Int) := of_decide_eq_true (by first | (with_reducible assumption) | assumption); have q204 : x4_1 < (l0.length : Int) := of_decide_eq_true (by first | (with_reducible assumption) | assumption); obtain ⟨ad204, e204, hx204_0⟩ := Kd.at_int HR0.out x4_1 p204 q204; obtain rfl : ad202 = ad204 := (by injection e204); replace hx204_0 := (HB.out.cell (World.block_lt_of_cell? w _ hx204_0)).trans hx204_0; replace p204 := eq_true p204; replace q204 := eq_true q204) | ((with_reducible refine gate_callee (f := 11) rfl ?_); refine goesL_ (some 39) rfl rfl Try.func11 (by kernel_rfl) rfl #[.int .i64 (wrap64 (Int.tdiv (rd l0 x4_1) 10)), .int .i64 5] rfl (by (try simp only [List.map_toArray, List.map_cons, List.map_nil]); first | done | rfl | (simp only [List.length_drop, List.length_take]; rfl)) ?_; (with_reducible refine (letterlocklaw6_pick.calls (wrap64 (Int.tdiv (rd l0 x4_1) 10)) 5 t205 _ A12.out).mono ?_); rintro e w' ⟨rfl, ⟨nd, rfl⟩⟩; refine ⟨_, rfl, ?_⟩; (try (rw [drewN_self wc]; generalize hq_ : World.drewN wc _ = wc; have n0_ : Aside0 (Kd.R Kd.string 9 wc w.heap.size (fun _ => True) (.slice Ao47 x3_1.length co47) x3_1) := ⟨by rw [← hq_]; exact (by (with_reducible repeat (first | apply Kd.R_alloc | apply Kd.R_drewN | apply Kd.R_drew)); exact HO_3.out)⟩; have n1_ : Aside0 (Below w.heap.size w wc) := ⟨by rw [← hq_]; exact (by repeat (first | (with_reducible first | exact HB.out | apply below_alloc | apply pw_below_drewN | apply below_drew1) | exact HB.out))⟩; clear HO_3 HB hq_; have HO_3 := n0_; have HB := n1_; clear n0_ n1_)); have p219 : 0 ≤ ((ji41) : Int) := of_decide_eq_true (by first | (with_reducible assumption) | assumption); have q219 : (ji41) < (x3_1.length : Int) := of_decide_eq_true (by first | (with_reducible assumption) | assumption); obtain ⟨ad219, e219, hx219_0⟩ := Kd.at_string (Kd.R_reads' HO_3.out).2.2 (ji41) p219 q219; cases e219; replace p219 := eq_true p219; replace q219 := eq_true q219) | ((with_reducible refine gate_callee (f := 36) rfl ?_); refine goesL_ (some 90) rfl rfl Try.func36 (by kernel_rfl) rfl #[.string (rdOf ByteArray.empty x3_1 (ji41))] rfl (by (try simp only [List.map_toArray, List.map_cons, List.map_nil]); first | done | (simp only [hji41]; rfl) | rfl | (simp only [List.length_drop, List.length_take]; rfl)) ?_; (with_reducible refine (letterlockref3_OfPublic.calls kj5 (rdOf ByteArray.empty x3_1 (ji41)) t220 t221 _ A44.out).mono ?_); rintro e w48 ⟨rfl, hb⟩; refine ⟨_, rfl, ?_⟩; have n0_ := Aside0.mk (Kd.R_below (by (with_reducible repeat (first | apply Kd.R_alloc | apply Kd.R_drewN | apply Kd.R_drew)); exact HO_3.out) hb); have n1_ := Aside0.mk (below_step (by repeat (first | (with_reducible first | exact HB.out | apply below_alloc | apply pw_below_drewN | apply below_drew1) | exact HB.out)) hb); clear HO_3; clear HB; have HO_3 := n0_; have HB := n1_; clear n0_ n1_; (try clear hb); (try clear hb2); (try clear hk); (try clear hi); have p46 : 0 ≤ ((ji41) : Int) := of_decide_eq_true (by first | (with_reducible assumption) | assumption); have q46 : ((ji41) : Int) < ((x3_1.length : Int) : Int) := of_decide_eq_true (by first | (with_reducible assumption) | assumption); obtain ⟨go46, co46, eo46, gb46, gl46, cl46, HG46⟩ := Kd.R_form HO_3.out (by omega); (first | cases eo46 | (injection eo46 with ea_ en_ ec_; (first | subst ea_ | (injection ea_ with ea_; subst ea_)); subst ec_; clear en_)); have GB46 := Aside0.mk gb46; have GG46 := Aside0.mk HG46; clear gb46 gl46 HG46; (first | simp only [add_plain] at hx219_0 | skip); obtain ⟨hx46_0, hf46_0⟩ := Kd.R_celln (⟨#[]⟩ : ByteArray) HO_3.out ((ji41) : Int) p46 q46; replace p46 := eq_true p46; replace q46 := eq_true q46; obtain ⟨hy49_, hz49_⟩ := Kd.R_celln (⟨#[]⟩ : ByteArray) HO_3.out ((ji41) : Int) (of_decide_eq_true (by first | (with_reducible assumption) | assumption)) (of_decide_eq_true (by first | (with_reducible assumption) | assumption)); have HP49 := Kd.R_putg HO_3.out ((ji41) : Int) t220) | ((with_reducible refine gate_store (t := 9) (p := 99) rfl ?_); refine store_event (t := 9) (p := 99) (v := ?vo_w50) (w1 := (w48.setCell ⟨go46, ((ji41) : Int).toNat, none⟩ (.string t220))) ?hg ?ho ?hn ?hr ?_; (case ho => rfl); (case hg => rfl); (case hn => rfl); (case hr => first | (go_simp; done) | (go_simp; rfl)); intro w50 hw; have hg : w48.grownBy w50 (some go46) := (by rw [hw]; exact HP49.2); have hp_ : Kd.R Kd.string 9 w50 w.heap.size (fun _ => True) (.slice (some ⟨go46, 0, none⟩) x3_1.length co47) y222 := (by rw [hw, Ny222.out]; exact HP49.1); clear HP49; have n0_ := Aside0.mk (hp_); have n1_ := Aside0.mk ((by rw [hw]; exact below_set (HB.out) GB46.out : Below w.heap.size w w50)); clear HO_3; clear HB; have HO_3 := n0_; have HB := n1_; clear n0_ n1_; clear hg hw hp_))
                              go_roundg kj5
                              case measure => have := HK1.out; have := HJ5.out; omega
                              case rel => exact ⟨(y222), (wrap64 (x4_1 + 1)), (by first | rfl | (simp; done) | (simp [*]; done)), H', ⟨by have := HK1.out; have := HJ5.out; omega⟩, ⟨by (with_reducible repeat (first | apply Kd.R_alloc | apply Kd.R_drewN | apply Kd.R_drew)); exact HO_3.out⟩, ⟨by repeat (first | (with_reducible first | exact HB.out | apply below_alloc | apply pw_below_drewN | apply below_drew1) | exact HB.out)⟩⟩
                            · rw [if_neg c45] at H
                              have c45b0 : (t221 == 0) = false := beq_eq_false_iff_ne.mpr c45
                              have c45b1 : (t221 != 0) = true := bne_iff_ne.mpr c45
                              have H' := Aside0.mk H
                              clear H
                              obtain ⟨Ao51, co51, eo51⟩ := Kd.R_slice HO_3.out
                              subst eo51
                              have p202 : 0 ≤ (x4_1 : Int) := of_decide_eq_true (by first | (with_reducible assumption) | assumption)
                              have q202 : x4_1 < (l0.length : Int) := of_decide_eq_true (by first | (with_reducible assumption) | assumption)
                              obtain ⟨ad202, e202, hx202_0⟩ := Kd.at_int HR0.out x4_1 p202 q202
                              cases e202
                              replace hx202_0 := (HB.out.cell (World.block_lt_of_cell? w _ hx202_0)).trans hx202_0
                              replace p202 := eq_true p202
                              replace q202 := eq_true q202
                              go_wp2_with (first | ((with_reducible refine gate_callee (f := 11) rfl ?_); refine goesL_ (some 33) rfl rfl Try.func11 (by kernel_rfl) rfl #[.int .i64 (rd l0 x4_1), .int .i64 10] rfl (by (try simp only [List.map_toArray, List.map_cons, List.map_nil]); first | done | rfl | (simp only [List.length_drop, List.length_take]; rfl)) ?_; (with_reducible refine (letterlocklaw6_pick.calls (rd l0 x4_1) 10 t203 _ A11.out).mono ?_); rintro e w' ⟨rfl, ⟨nd, rfl⟩⟩; refine ⟨_, rfl, ?_⟩; have p204 : 0 ≤ (x4_1 : Int) := of_decide_eq_true (by first | (with_reducible assumption) | assumption); have q204 : x4_1 < (l0.length : Int) := of_decide_eq_true (by first | (with_reducible assumption) | assumption); obtain ⟨ad204, e204, hx204_0⟩ := Kd.at_int HR0.out x4_1 p204 q204; obtain rfl : ad202 = ad204 := (by injection e204); replace hx204_0 := (HB.out.cell (World.block_lt_of_cell? w _ hx204_0)).trans hx204_0; replace p204 := eq_true p204; replace q204 := eq_true q204) | ((with_reducible refine gate_callee (f := 11) rfl ?_); refine goesL_ (some 39) rfl rfl Try.func11 (by kernel_rfl) rfl #[.int .i64 (wrap64 (Int.tdiv (rd l0 x4_1) 10)), .int .i64 5] rfl (by (try simp only [List.map_toArray, List.map_cons, List.map_nil]); first | done | rfl | (simp only [List.length_drop, List.length_take]; rfl)) ?_; (with_reducible refine (letterlocklaw6_pick.calls (wrap64 (Int.tdiv (rd l0 x4_1) 10)) 5 t205 _ A12.out).mono ?_); rintro e w' ⟨rfl, ⟨nd, rfl⟩⟩; refine ⟨_, rfl, ?_⟩; have p219 : 0 ≤ ((ji41) : Int) := of_decide_eq_true (by first | (with_reducible assumption) | assumption); have q219 : (ji41) < (x3_1.length : Int) := of_decide_eq_true (by first | (with_reducible assumption) | assumption); obtain ⟨ad219, e219, hx219_0⟩ := Kd.at_string (Kd.R_reads' HO_3.out).2.2 (ji41) p219 q219; cases e219; replace p219 := eq_true p219; replace q219 := eq_true q219) | ((with_reducible refine gate_callee (f := 36) rfl ?_); refine goesL_ (some 90) rfl rfl Try.func36 (by kernel_rfl) rfl #[.string (rdOf ByteArray.empty x3_1 (ji41))] rfl (by (try simp only [List.map_toArray, List.map_cons, List.map_nil]); first | done | (simp only [hji41]; rfl) | rfl | (simp only [List.length_drop, List.length_take]; rfl)) ?_; (with_reducible refine (letterlockref3_OfPublic.calls kj5 (rdOf ByteArray.empty x3_1 (ji41)) t220 t221 _ A44.out).mono ?_); rintro e w52 ⟨rfl, hb⟩; refine ⟨_, rfl, ?_⟩; have n0_ := Aside0.mk (Kd.R_below (by (with_reducible repeat (first | apply Kd.R_alloc | apply Kd.R_drewN | apply Kd.R_drew)); exact HO_3.out) hb); have n1_ := Aside0.mk (below_step (by repeat (first | (with_reducible first | exact HB.out | apply below_alloc | apply pw_below_drewN | apply below_drew1) | exact HB.out)) hb); clear HO_3; clear HB; have HO_3 := n0_; have HB := n1_; clear n0_ n1_; (try clear hb); (try clear hb2); (try clear hk); (try clear hi)))
                              go_roundg kj5
                              case measure => have := HK1.out; have := HJ5.out; omega
                              case rel => exact ⟨(x3_1), (wrap64 (x4_1 + 1)), (by first | rfl | (simp; done) | (simp [*]; done)), H', ⟨by have := HK1.out; have := HJ5.out; omega⟩, ⟨by (with_reducible repeat (first | apply Kd.R_alloc | apply Kd.R_drewN | apply Kd.R_drew)); exact HO_3.out⟩, ⟨by repeat (first | (with_reducible first | exact HB.out | apply below_alloc | apply pw_below_drewN | apply below_drew1) | exact HB.out)⟩⟩
                          · rw [if_neg c43] at H
                            exact absurd H (by simp)
                        · rw [if_neg c42] at H
                          exact absurd H (by simp)
                      · rw [if_neg c40] at H
                        have c40b0 : (t203 == 5) = false := beq_eq_false_iff_ne.mpr c40
                        have c40b1 : (t203 != 5) = true := bne_iff_ne.mpr c40
                        by_cases c53 : (x3_1.length : Int) > 1
                        · rw [if_pos c53] at H
                          have c53b0 : decide (1 < (x3_1.length : Int)) = true := decide_eq_true c53
                          have c53b1 : decide (1 < x3_1.length) = true := decide_eq_true (by omega)
                          clear c53
                          obtain ⟨ji54, hji54⟩ : ∃ j_ : Int, (wrap64 ((x3_1.length : Int) - 2)) = j_ := ⟨_, rfl⟩
                          replace H : (if 0 ≤ (ji54) then (if (ji54) < (x3_1.length : Int) then (if 0 ≤ (wrap64 ((x3_1.length : Int) - 1)) then (if (wrap64 ((x3_1.length : Int) - 1)) < (x3_1.length : Int) then ((letterlocklaw6_joined.f kj5 t203 (rdOf ByteArray.empty x3_1 (ji54)) (rdOf ByteArray.empty x3_1 (wrap64 ((x3_1.length : Int) - 1)))).bind fun t225 => ((some (([] : List ByteArray) : List ByteArray)).bind fun y226 => (if (ji54) ≤ (x3_1.length : Int) then ((some (x3_1.take ((ji54) : Int).toNat : List ByteArray)).bind fun y229 => (if y226.length + y229.length < 8796093022208 then ((some (y226 ++ y229 : List ByteArray)).bind fun y233 => (if y233.length < 8796093022208 then (letterlocklaw6_grown.l0 kj5 l0 (y233 ++ [t225]) (wrap64 (x4_1 + 1))) else (none))) else (none))) else (none)))) else (none)) else (none)) else (none)) else (none)) = some r := by first | (rw [hji54] at H; exact H) | (simp only [hji54] at H ⊢; exact H)
                          (try rw [hji54] at A11)
                          (try rw [hji54] at A12)
                          have hji54w : (IntKind.i64.wrap ((x3_1.length : Int) - 2)) = ji54 := (i64_w _).trans hji54
                          by_cases c55 : 0 ≤ (ji54)
                          · rw [if_pos c55] at H
                            have c55b0 : decide (0 ≤ (ji54)) = true := decide_eq_true c55
                            clear c55
                            by_cases c56 : (ji54) < (x3_1.length : Int)
                            · rw [if_pos c56] at H
                              have c56b0 : decide ((ji54) < (x3_1.length : Int)) = true := decide_eq_true c56
                              clear c56
                              obtain ⟨ji57, hji57⟩ : ∃ j_ : Int, (wrap64 ((x3_1.length : Int) - 1)) = j_ := ⟨_, rfl⟩
                              replace H : (if 0 ≤ (ji57) then (if (ji57) < (x3_1.length : Int) then ((letterlocklaw6_joined.f kj5 t203 (rdOf ByteArray.empty x3_1 (ji54)) (rdOf ByteArray.empty x3_1 (ji57))).bind fun t225 => ((some (([] : List ByteArray) : List ByteArray)).bind fun y226 => (if (ji54) ≤ (x3_1.length : Int) then ((some (x3_1.take ((ji54) : Int).toNat : List ByteArray)).bind fun y229 => (if y226.length + y229.length < 8796093022208 then ((some (y226 ++ y229 : List ByteArray)).bind fun y233 => (if y233.length < 8796093022208 then (letterlocklaw6_grown.l0 kj5 l0 (y233 ++ [t225]) (wrap64 (x4_1 + 1))) else (none))) else (none))) else (none)))) else (none)) else (none)) = some r := by first | (rw [hji57] at H; exact H) | (simp only [hji57] at H ⊢; exact H)
                              (try rw [hji57] at A11)
                              (try rw [hji57] at A12)
                              have hji57w : (IntKind.i64.wrap ((x3_1.length : Int) - 1)) = ji57 := (i64_w _).trans hji57
                              by_cases c58 : 0 ≤ (ji57)
                              · rw [if_pos c58] at H
                                have c58b0 : decide (0 ≤ (ji57)) = true := decide_eq_true c58
                                clear c58
                                by_cases c59 : (ji57) < (x3_1.length : Int)
                                · rw [if_pos c59] at H
                                  have c59b0 : decide ((ji57) < (x3_1.length : Int)) = true := decide_eq_true c59
                                  clear c59
                                  replace H := Option.bind_eq_some_iff.mp H
                                  obtain ⟨t225, A600, H⟩ := H
                                  replace H : ((some (([] : List ByteArray) : List ByteArray)).bind fun y226 => (if (ji54) ≤ (x3_1.length : Int) then ((some (x3_1.take ((ji54) : Int).toNat : List ByteArray)).bind fun y229 => (if y226.length + y229.length < 8796093022208 then ((some (y226 ++ y229 : List ByteArray)).bind fun y233 => (if y233.length < 8796093022208 then (letterlocklaw6_grown.l0 kj5 l0 (y233 ++ [t225]) (wrap64 (x4_1 + 1))) else (none))) else (none))) else (none))) = some r := H
                                  have A60 := Aside0.mk A600
                                  clear A600
                                  obtain ⟨y226, hy226⟩ : ∃ y_ : List ByteArray, y_ = (([] : List ByteArray)) := ⟨_, rfl⟩
                                  replace H : (if (ji54) ≤ (x3_1.length : Int) then ((some (x3_1.take ((ji54) : Int).toNat : List ByteArray)).bind fun y229 => (if y226.length + y229.length < 8796093022208 then ((some (y226 ++ y229 : List ByteArray)).bind fun y233 => (if y233.length < 8796093022208 then (letterlocklaw6_grown.l0 kj5 l0 (y233 ++ [t225]) (wrap64 (x4_1 + 1))) else (none))) else (none))) else (none)) = some r := by first | (rw [hy226]; with_reducible exact H) | (have H2_ := (Option.bind_some _ _).symm.trans H; rw [hy226]; with_reducible exact H2_) | (have H2_ := (Option.bind_some _ _).symm.trans H; with_reducible exact H2_) | with_reducible exact H | (rw [hy226]; exact H) | exact H
                                  have Ny226 := Aside0.mk hy226
                                  clear hy226
                                  have c61b0 := eq_true (of_decide_eq_true (by first | (with_reducible assumption) | assumption) : 0 ≤ (ji54))
                                  by_cases c62 : (ji54) ≤ (x3_1.length : Int)
                                  · rw [if_pos c62] at H
                                    have c62b0 := eq_true c62
                                    have c62b1 : decide ((ji54) ≤ (x3_1.length : Int)) = true := decide_eq_true c62
                                    clear c62
                                    obtain ⟨y229, hy229⟩ : ∃ y_ : List ByteArray, y_ = (x3_1.take ((ji54) : Int).toNat) := ⟨_, rfl⟩
                                    replace H : (if y226.length + y229.length < 8796093022208 then ((some (y226 ++ y229 : List ByteArray)).bind fun y233 => (if y233.length < 8796093022208 then (letterlocklaw6_grown.l0 kj5 l0 (y233 ++ [t225]) (wrap64 (x4_1 + 1))) else (none))) else (none)) = some r := by first | (rw [hy229]; with_reducible exact H) | (have H2_ := (Option.bind_some _ _).symm.trans H; rw [hy229]; with_reducible exact H2_) | (have H2_ := (Option.bind_some _ _).symm.trans H; with_reducible exact H2_) | with_reducible exact H | (rw [hy229]; exact H) | exact H
                                    have Ny229 := Aside0.mk hy229
                                    clear hy229
                                    by_cases c63 : y226.length + y229.length < 8796093022208
                                    · rw [if_pos c63] at H
                                      have LMc63 := Aside0.mk c63
                                      clear c63
                                      obtain ⟨y233, hy233⟩ : ∃ y_ : List ByteArray, y_ = (y226 ++ y229) := ⟨_, rfl⟩
                                      replace H : (if y233.length < 8796093022208 then (letterlocklaw6_grown.l0 kj5 l0 (y233 ++ [t225]) (wrap64 (x4_1 + 1))) else (none)) = some r := by first | (rw [hy233]; with_reducible exact H) | (have H2_ := (Option.bind_some _ _).symm.trans H; rw [hy233]; with_reducible exact H2_) | (have H2_ := (Option.bind_some _ _).symm.trans H; with_reducible exact H2_) | with_reducible exact H | (rw [hy233]; exact H) | exact H
                                      have Ny233 := Aside0.mk hy233
                                      clear hy233
                                      by_cases c64 : y233.length < 8796093022208
                                      · rw [if_pos c64] at H
                                        have LMc64 := Aside0.mk c64
                                        clear c64
                                        obtain ⟨y236, hy236⟩ : ∃ y_ : List ByteArray, y_ = (y233 ++ [t225]) := ⟨_, rfl⟩
                                        replace H : (letterlocklaw6_grown.l0 kj5 l0 y236 (wrap64 (x4_1 + 1))) = some r := by first | (rw [hy236]; with_reducible exact H) | (have H2_ := (Option.bind_some _ _).symm.trans H; rw [hy236]; with_reducible exact H2_) | (have H2_ := (Option.bind_some _ _).symm.trans H; with_reducible exact H2_) | with_reducible exact H | (rw [hy236]; exact H) | exact H
                                        have Ny236 := Aside0.mk hy236
                                        clear hy236
                                        have H' := Aside0.mk H
                                        clear H
                                        obtain ⟨Ao65, co65, eo65⟩ := Kd.R_slice HO_3.out
                                        subst eo65
                                        have p202 : 0 ≤ (x4_1 : Int) := of_decide_eq_true (by first | (with_reducible assumption) | assumption)
                                        have q202 : x4_1 < (l0.length : Int) := of_decide_eq_true (by first | (with_reducible assumption) | assumption)
                                        obtain ⟨ad202, e202, hx202_0⟩ := Kd.at_int HR0.out x4_1 p202 q202
                                        cases e202
                                        replace hx202_0 := (HB.out.cell (World.block_lt_of_cell? w _ hx202_0)).trans hx202_0
                                        replace p202 := eq_true p202
                                        replace q202 := eq_true q202
                                        try go_wp2_with (first | ((with_reducible refine gate_callee (f := 11) rfl ?_); refine goesL_ (some 33) rfl rfl Try.func11 (by kernel_rfl) rfl #[.int .i64 (rd l0 x4_1), .int .i64 10] rfl (by (try simp only [List.map_toArray, List.map_cons, List.map_nil]); first | done | rfl | (simp only [List.length_drop, List.length_take]; rfl)) ?_; (with_reducible refine (letterlocklaw6_pick.calls (rd l0 x4_1) 10 t203 _ A11.out).mono ?_); rintro e w' ⟨rfl, ⟨nd, rfl⟩⟩; refine ⟨_, rfl, ?_⟩; have p204 : 0 ≤ (x4_1 : Int) := of_decide_eq_true (by first | (with_reducible assumption) | assumption); have q204 : x4_1 < (l0.length : Int) := of_decide_eq_true (by first | (with_reducible assumption) | assumption); obtain ⟨ad204, e204, hx204_0⟩ := Kd.at_int HR0.out x4_1 p204 q204; obtain rfl : ad202 = ad204 := (by injection e204); replace hx204_0 := (HB.out.cell (World.block_lt_of_cell? w _ hx204_0)).trans hx204_0; replace p204 := eq_true p204; replace q204 := eq_true q204) | ((with_reducible refine gate_callee (f := 11) rfl ?_); refine goesL_ (some 39) rfl rfl Try.func11 (by kernel_rfl) rfl #[.int .i64 (wrap64 (Int.tdiv (rd l0 x4_1) 10)), .int .i64 5] rfl (by (try simp only [List.map_toArray, List.map_cons, List.map_nil]); first | done | rfl | (simp only [List.length_drop, List.length_take]; rfl)) ?_; (with_reducible refine (letterlocklaw6_pick.calls (wrap64 (Int.tdiv (rd l0 x4_1) 10)) 5 t205 _ A12.out).mono ?_); rintro e w' ⟨rfl, ⟨nd, rfl⟩⟩; refine ⟨_, rfl, ?_⟩))
                                        (try (rw [drewN_self wc]; generalize hq_ : World.drewN wc _ = wc; have n0_ : Aside0 (Kd.R Kd.string 9 wc w.heap.size (fun _ => True) (.slice Ao65 x3_1.length co65) x3_1) := ⟨by rw [← hq_]; exact (by (with_reducible repeat (first | apply Kd.R_alloc | apply Kd.R_drewN | apply Kd.R_drew)); exact HO_3.out)⟩; have n1_ : Aside0 (Below w.heap.size w wc) := ⟨by rw [← hq_]; exact (by repeat (first | (with_reducible first | exact HB.out | apply below_alloc | apply pw_below_drewN | apply below_drew1) | exact HB.out))⟩; clear HO_3 HB hq_; have HO_3 := n0_; have HB := n1_; clear n0_ n1_))
                                        have n0_ := Aside0.mk (Kd.R_drew HO_3.out)
                                        have n1_ := Aside0.mk (below_drew1 HB.out)
                                        clear HO_3
                                        clear HB
                                        have HO_3 := n0_
                                        have HB := n1_
                                        clear n0_ n1_
                                        have p223 : 0 ≤ ((ji54) : Int) := of_decide_eq_true (by first | (with_reducible assumption) | assumption)
                                        have q223 : (ji54) < (x3_1.length : Int) := of_decide_eq_true (by first | (with_reducible assumption) | assumption)
                                        obtain ⟨ad223, e223, hx223_0⟩ := Kd.at_string (Kd.R_reads' HO_3.out).2.2 (ji54) p223 q223
                                        cases e223
                                        replace p223 := eq_true p223
                                        replace q223 := eq_true q223
                                        have p224 : 0 ≤ ((ji57) : Int) := of_decide_eq_true (by first | (with_reducible assumption) | assumption)
                                        have q224 : (ji57) < (x3_1.length : Int) := of_decide_eq_true (by first | (with_reducible assumption) | assumption)
                                        obtain ⟨ad224, e224, hx224_0⟩ := Kd.at_string (Kd.R_reads' HO_3.out).2.2 (ji57) p224 q224
                                        obtain rfl : ad223 = ad224 := (by injection e224)
                                        replace p224 := eq_true p224
                                        replace q224 := eq_true q224
                                        refine start_ (n := 13) (S := fun w' => w'.cell? (ad223.add ((ji54)).toNat) = some (.string (rdOf ByteArray.empty x3_1 (ji54))) ∧ w'.cell? (ad223.add ((ji57)).toNat) = some (.string (rdOf ByteArray.empty x3_1 (ji57)))) (ds := []) #[false, false, false, false, false, false, false, false, false, false, false, false, false] (by kernel_rfl) rfl rfl ⟨hx223_0, hx224_0⟩ (fun hHeld => ?_); refine with_tabW letterlocklaw6_grown.tab22 letterlocklaw6_grown.bits22 (fun HT_ HW_ => ?_)
                                        generalize wc.drew = w66 at HO_3 HB hx223_0 hx224_0 hHeld ⊢
                                        refine pure_ (i := 0) (N := some 103) (v := ?_) (a' := ?_) #[true, false, false, false, false, false, false, false, false, false, false, false, false] rfl rfl (any_of HT_.out (by kernel_rfl)) (fun _ _ _ h => h) (Or.inl ⟨by rfl, ?_⟩) ?_ ?_
                                        rotate_left
                                        · intro w'
                                          go_simp
                                          with_reducible rfl
                                        rotate_left
                                        · simp only [Act.put, List.setIfInBounds_toArray, List.set_cons_zero, List.set_cons_succ, i64_w, i32_w]
                                          rfl
                                        refine pure_ (i := 1) (N := some 104) (v := ?_) (a' := ?_) #[true, true, false, false, false, false, false, false, false, false, false, false, false] rfl rfl (any_of HT_.out (by kernel_rfl)) (fun _ _ _ h => h) (Or.inl ⟨by rfl, ?_⟩) ?_ ?_
                                        rotate_left
                                        · intro w'
                                          go_simp
                                          with_reducible rfl
                                        rotate_left
                                        · simp only [Act.put, List.setIfInBounds_toArray, List.set_cons_zero, List.set_cons_succ, i64_w, i32_w]
                                          rfl
                                        refine pure_ (i := 2) (N := some 105) (v := ?_) (a' := ?_) #[true, true, true, false, false, false, false, false, false, false, false, false, false] rfl rfl (any_of HT_.out (by kernel_rfl)) (fun _ _ _ h => h) (Or.inl ⟨by rfl, ?_⟩) ?_ ?_
                                        rotate_left
                                        · intro w'
                                          go_simp
                                          with_reducible rfl
                                        rotate_left
                                        · simp only [Act.put, List.setIfInBounds_toArray, List.set_cons_zero, List.set_cons_succ, i64_w, i32_w]
                                          rfl
                                        refine pure_ (i := 3) (N := some 106) (v := ?_) (a' := ?_) #[true, true, true, true, false, false, false, false, false, false, false, false, false] rfl rfl (any_of HT_.out (by kernel_rfl)) (fun _ _ _ h => h) (Or.inl ⟨by rfl, ?_⟩) ?_ ?_
                                        rotate_left
                                        · intro w'
                                          go_simp
                                          with_reducible rfl
                                        rotate_left
                                        · simp only [Act.put, List.setIfInBounds_toArray, List.set_cons_zero, List.set_cons_succ, i64_w, i32_w]
                                          rfl
                                        refine pure_ (i := 4) (N := some 107) (v := ?_) (a' := ?_) #[true, true, true, true, true, false, false, false, false, false, false, false, false] rfl rfl (any_of HT_.out (by kernel_rfl)) (fun _ _ _ h => h) (Or.inl ⟨by rfl, ?_⟩) ?_ ?_
                                        rotate_left
                                        · intro w'
                                          go_simp
                                          with_reducible rfl
                                        rotate_left
                                        · simp only [Act.put, List.setIfInBounds_toArray, List.set_cons_zero, List.set_cons_succ, i64_w, i32_w]
                                          rfl
                                        refine pure_ (i := 6) (N := some 109) (v := ?_) (a' := ?_) #[true, true, true, true, true, false, true, false, false, false, false, false, false] rfl rfl (any_of HT_.out (by kernel_rfl)) (fun _ _ _ h => h) (Or.inl ⟨by rfl, ?_⟩) ?_ ?_
                                        rotate_left
                                        · intro w'
                                          go_simp
                                          with_reducible rfl
                                        rotate_left
                                        · simp only [Act.put, List.setIfInBounds_toArray, List.set_cons_zero, List.set_cons_succ, i64_w, i32_w]
                                          rfl
                                        refine pure_ (i := 7) (N := some 110) (v := ?_) (a' := ?_) #[true, true, true, true, true, false, true, true, false, false, false, false, false] rfl rfl (any_of HT_.out (by kernel_rfl)) (fun _ _ _ h => h) (Or.inl ⟨by rfl, ?_⟩) ?_ ?_
                                        rotate_left
                                        · intro w'
                                          go_simp
                                          with_reducible rfl
                                        rotate_left
                                        · simp only [Act.put, List.setIfInBounds_toArray, List.set_cons_zero, List.set_cons_succ, i64_w, i32_w]
                                          rfl
                                        refine pure_ (i := 8) (N := some 111) (v := ?_) (a' := ?_) #[true, true, true, true, true, false, true, true, true, false, false, false, false] rfl rfl (any_of HT_.out (by kernel_rfl)) (fun _ _ _ h => h) (Or.inl ⟨by rfl, ?_⟩) ?_ ?_
                                        rotate_left
                                        · intro w'
                                          go_simp
                                          with_reducible rfl
                                        rotate_left
                                        · simp only [Act.put, List.setIfInBounds_toArray, List.set_cons_zero, List.set_cons_succ, i64_w, i32_w]
                                          rfl
                                        refine pure_ (i := 9) (N := some 112) (v := ?_) (a' := ?_) #[true, true, true, true, true, false, true, true, true, true, false, false, false] rfl rfl (any_of HT_.out (by kernel_rfl)) (fun _ _ _ h => h) (Or.inl ⟨by rfl, ?_⟩) ?_ ?_
                                        rotate_left
                                        · intro w'
                                          go_simp
                                          with_reducible rfl
                                        rotate_left
                                        · simp only [Act.put, List.setIfInBounds_toArray, List.set_cons_zero, List.set_cons_succ, i64_w, i32_w]
                                          rfl
                                        refine take_ (i := 5) (N := some 108) (v := ?_) (a' := ?_) #[true, true, true, true, true, true, true, true, true, true, false, false, false] rfl rfl (take_ofW HT_.out HW_.out (by kernel_rfl)) (fun _ _ _ h => h) (Or.inl ⟨by rfl, ?_⟩) hHeld ?_ ?_
                                        rotate_left
                                        · rintro w' ⟨s0, s1⟩
                                          go_simp
                                          with_reducible rfl
                                        rotate_left
                                        · simp only [Act.put, List.setIfInBounds_toArray, List.set_cons_zero, List.set_cons_succ, i64_w, i32_w]
                                          rfl
                                        refine take_ (i := 10) (N := some 113) (v := ?_) (a' := ?_) #[true, true, true, true, true, true, true, true, true, true, true, false, false] rfl rfl (take_ofW HT_.out HW_.out (by kernel_rfl)) (fun _ _ _ h => h) (Or.inl ⟨by rfl, ?_⟩) hHeld ?_ ?_
                                        rotate_left
                                        · rintro w' ⟨s0, s1⟩
                                          go_simp
                                          with_reducible rfl
                                        rotate_left
                                        · simp only [Act.put, List.setIfInBounds_toArray, List.set_cons_zero, List.set_cons_succ, i64_w, i32_w]
                                          rfl
                                        refine one_ (i := 11) (N := some 114) #[true, true, true, true, true, true, true, true, true, true, true, true, false] rfl rfl (one_of HT_.out (by kernel_rfl)) (by decide) (fun K hK => ?_)
                                        refine goes_ Try.func37 (by kernel_rfl) rfl #[.int .i64 t203, .string (rdOf ByteArray.empty x3_1 (ji54)), .string (rdOf ByteArray.empty x3_1 (ji57))] (by rfl) rfl rfl (by (try simp only [List.map_toArray, List.map_cons, List.map_nil]); first | done | (simp only [hji54, hji57]; rfl) | rfl | (simp only [List.length_drop, List.length_take]; rfl)) ?_
                                        with_reducible refine (letterlocklaw6_joined.calls kj5 t203 (rdOf ByteArray.empty x3_1 (ji54)) (rdOf ByteArray.empty x3_1 (ji57)) t225 _ A60.out).mono ?_
                                        rintro e w67 ⟨rfl, hb⟩
                                        have HS0_ := (hb.cell (World.block_lt_of_cell? _ _ (hHeld.1))).trans (hHeld.1)
                                        have HS1_ := (hb.cell (World.block_lt_of_cell? _ _ (hHeld.2))).trans (hHeld.2)
                                        refine ⟨_, rfl, ?_⟩
                                        have n0_ := Aside0.mk (Kd.R_below (by (with_reducible repeat (first | apply Kd.R_alloc | apply Kd.R_drewN | apply Kd.R_drew)); exact HO_3.out) hb)
                                        have n1_ := Aside0.mk (below_step (by repeat (first | (with_reducible first | exact HB.out | apply below_alloc | apply pw_below_drewN | apply below_drew1) | exact HB.out)) hb)
                                        clear HO_3
                                        clear HB
                                        have HO_3 := n0_
                                        have HB := n1_
                                        clear n0_ n1_
                                        (try clear hb)
                                        (try clear hb2)
                                        (try clear hk)
                                        (try clear hi)
                                        refine hK.out _ _ ⟨HS0_, HS1_⟩ (fun hHeld => ?_)
                                        clear hK K
                                        refine norm_ (a' := ?_) ?_ ?_
                                        rotate_left
                                        · show Act.put _ (some 114) _ = _
                                          simp only [Act.put, List.setIfInBounds_toArray, List.set_cons_zero, List.set_cons_succ, i64_w, i32_w]
                                          rfl
                                        refine pure_ (i := 12) (N := some 14) (v := ?_) (a' := ?_) #[true, true, true, true, true, true, true, true, true, true, true, true, true] rfl rfl (any_of HT_.out (by kernel_rfl)) (fun _ _ _ h => h) (Or.inl ⟨by rfl, ?_⟩) ?_ ?_
                                        rotate_left
                                        · intro w'
                                          go_simp
                                          with_reducible rfl
                                        rotate_left
                                        · simp only [Act.put, List.setIfInBounds_toArray, List.set_cons_zero, List.set_cons_succ, i64_w, i32_w]
                                          rfl
                                        refine done_ (done_of HT_.out (by kernel_rfl)) ?_
                                        try go_wp2_with (first | ((with_reducible refine gate_dst (N := 115) rfl ?_); refine Kd.R_lit Kd.string _ 9 ?hg (N := 115) ?hd (xs := ([] : List ByteArray)) (inner := []) (ok := fun _ => True) (okp := fun _ => True) ?hr ?hp (fun _ hk => hk) trivial (Below.refl _ _) (Nat.le_refl _) (by simp) ?_; (case hd => rfl); (case hg => rfl); (case hr => first | (go_simp; done) | (go_simp; rfl)); (case hp => exact (Reps.none _ _)); intro v227 w68 ho69 hb hg_ hnew_; clear hg_ hnew_; (first | rw [← Ny226.out] at ho69 | (simp only [Int.reduceToNat] at ho69; rw [← Ny226.out] at ho69)); have n0_ := Aside0.mk (Kd.R_elder' (by (with_reducible repeat (first | apply Kd.R_alloc | apply Kd.R_drewN | apply Kd.R_drew)); exact HO_3.out) (Kd.R_base ho69) hb); have n1_ := Aside0.mk (Kd.R_lower (Kd.R_new' ho69 (Kd.R_lt (by (with_reducible repeat (first | apply Kd.R_alloc | apply Kd.R_drewN | apply Kd.R_drew)); exact HO_3.out))) (below_size (by repeat (first | (with_reducible first | exact HB.out | apply below_alloc | apply pw_below_drewN | apply below_drew1) | exact HB.out)))); have n2_ := Aside0.mk (below_step (by repeat (first | (with_reducible first | exact HB.out | apply below_alloc | apply pw_below_drewN | apply below_drew1) | exact HB.out)) hb); clear HO_3; clear HB; have HO_3 := n0_; have HO228 := n1_; have HB := n2_; clear n0_ n1_ n2_; clear hb ho69; have q70 : ((ji54) : Int) ≤ ((x3_1.length : Int) : Int) := of_decide_eq_true (by first | (with_reducible assumption) | assumption); obtain ⟨i070, hi070, _, hsz70, _⟩ := info_parts info9; have hroom70 : x3_1.length ≤ co65 := (Kd.R_reads' HO_3.out).2.1; have hC70 : Kd.C Kd.string _ (some ad223) x3_1.length x3_1 := (Kd.R_reads' HO_3.out).2.2; have hcut70 := cut_to (P := Try.prog) 29 9 .i64 Try.underlying29 hi070 (some ad223) x3_1.length co65 (ji54) (of_decide_eq_true (by first | (with_reducible assumption) | assumption)) q70 hroom70; have hr70 := Kd.C_take (m := ((ji54) : Int).toNat) hC70 (by omega); have hy70 : y229.length = ((ji54) : Int).toNat := (by rw [Ny229.out, List.length_take]; omega); rw [← Ny229.out] at hr70; rw [← hy70] at hcut70; have HR232 := Aside0.mk hr70; have HC232 := Aside0.mk (show y229.length ≤ co65 from by omega); clear hr70 hC70 hroom70 hi070 hsz70; have KY70 := Aside0.mk hy70; clear hy70; have KL70 := Aside0.mk (show ((ji54) : Int).toNat ≤ x3_1.length from by omega); replace q70 := eq_true q70) | ((with_reducible refine gate_builtin (b := .append) (xs := #[.tmp 115, .tmp 119]) rfl ?_); at_builtin; refine Kd.R_append_rows Kd.string (w0 := w) w.heap.size rfl (.tmp 115) (.tmp 119) 29 9 (.string ⟨#[]⟩) 16 rfl Try.underlying29 info9 rfl (by decide) (by omega) v227 y226 y229 _ _ _ (fun k_ => some k_ ≠ (.slice (some ad223) x3_1.length co65 : Value).ownBlock) (fun _ => False) rfl rfl ?aO ?aR (fun _ _ h => h) (fun _ h => h.elim) ?aF ?aB ?aS ?aL ?_; (case aR => repeat (first | exact (by repeat (first | (with_reducible exact HR232.out) | (with_reducible refine Kd.C_alloc ?_ _) | (with_reducible refine Kd.C_drewN ?_ _) | (with_reducible refine Kd.C_drew ?_) | exact HR232.out)) | (with_reducible refine Kd.C_alloc ?_ _) | (with_reducible refine Kd.C_drewN ?_ _) | (with_reducible refine Kd.C_drew ?_))); (case aB => exact (by repeat (first | (with_reducible first | exact HB.out | apply below_alloc | apply pw_below_drewN | apply below_drew1) | exact HB.out))); (case aF => exact (fun k_ hk => Kd.fresh' (Kd.R_lt (by (with_reducible repeat (first | apply Kd.R_alloc | apply Kd.R_drewN | apply Kd.R_drew)); exact HO_3.out)) k_ hk)); (case aO => exact (by (with_reducible repeat (first | apply Kd.R_alloc | apply Kd.R_drewN | apply Kd.R_drew)); exact Kd.R_mono HO228.out (fun _ hk => hk.2))); (case aS => exact (below_size (by repeat (first | (with_reducible first | exact HB.out | apply below_alloc | apply pw_below_drewN | apply below_drew1) | exact HB.out)))); (case aL => have := LMc63.out; omega); intro v234 w71 ho hb hg hat; rw [← Ny233.out] at ho; have n0_ := Aside0.mk (Kd.R_after (ok := (fun _ => True)) (by (with_reducible repeat (first | apply Kd.R_alloc | apply Kd.R_drewN | apply Kd.R_drew)); exact HO_3.out) hg hat); have n1_ := Aside0.mk (hb); have n2_ := Aside0.mk ((show Kd.C Kd.string w71 (some ad223) y229.length y229 from by rw [Ny229.out]; exact Kd.C_take (m := ((ji54) : Int).toNat) ((Kd.R_reads' (Kd.R_after (ok := (fun _ => True)) (by (with_reducible repeat (first | apply Kd.R_alloc | apply Kd.R_drewN | apply Kd.R_drew)); exact HO_3.out) hg hat)).2.2) KL70.out)); have n3_ := Aside0.mk (ho); clear HO_3; clear HB; clear HR232; clear HO228; have HO_3 := n0_; have HB := n1_; have HR232 := n2_; have HO235 := n3_; clear n0_ n1_ n2_ n3_; clear ho hb hg hat) | ((with_reducible refine gate_builtin (b := .append) (xs := #[.tmp 120, .tmp 122]) rfl ?_); at_builtin; refine Kd.R_append Kd.string (w0 := w) w.heap.size rfl (.tmp 120) (.tmp 122) 29 9 (.string ⟨#[]⟩) 16 rfl Try.underlying29 info9 rfl (by decide) (by omega) v234 y233 t225 [.string t225] (fun k_ => some k_ ≠ (.slice (some ad223) x3_1.length co65 : Value).ownBlock) (fun _ => False) rfl rfl ?aP (fun _ hk => hk.elim) ?aF ?aO ?aB ?aS ?aL ?_; (case aP => exact rfl); (case aB => exact (by repeat (first | (with_reducible first | exact HB.out | apply below_alloc | apply pw_below_drewN | apply below_drew1) | exact HB.out))); (case aF => exact (fun k_ hk => Kd.fresh' (Kd.R_lt (by (with_reducible repeat (first | apply Kd.R_alloc | apply Kd.R_drewN | apply Kd.R_drew)); exact HO_3.out)) k_ hk)); (case aO => exact (by (with_reducible repeat (first | apply Kd.R_alloc | apply Kd.R_drewN | apply Kd.R_drew)); exact HO235.out)); (case aS => exact (below_size (by repeat (first | (with_reducible first | exact HB.out | apply below_alloc | apply pw_below_drewN | apply below_drew1) | exact HB.out)))); (case aL => have := LMc64.out; omega); intro v237 w72 ho hb hg hat; rw [← Ny236.out] at ho; have n0_ := Aside0.mk (Kd.R_after (ok := (fun _ => True)) (by (with_reducible repeat (first | apply Kd.R_alloc | apply Kd.R_drewN | apply Kd.R_drew)); exact HO_3.out) hg hat); have n1_ := Aside0.mk (hb); have n2_ := Aside0.mk ((show Kd.C Kd.string w72 (some ad223) y229.length y229 from by rw [Ny229.out]; exact Kd.C_take (m := ((ji54) : Int).toNat) ((Kd.R_reads' (Kd.R_after (ok := (fun _ => True)) (by (with_reducible repeat (first | apply Kd.R_alloc | apply Kd.R_drewN | apply Kd.R_drew)); exact HO_3.out) hg hat)).2.2) KL70.out)); have n3_ := Aside0.mk (ho); clear HO_3; clear HB; clear HR232; clear HO235; have HO_3 := n0_; have HB := n1_; have HR232 := n2_; have HO238 := n3_; clear n0_ n1_ n2_ n3_; clear ho hb hg hat))
                                        go_roundg kj5
                                        case measure => have := HK1.out; have := HJ5.out; omega
                                        case rel => exact ⟨(y236), (wrap64 (x4_1 + 1)), (by first | rfl | (simp; done) | (simp [*]; done)), H', ⟨by have := HK1.out; have := HJ5.out; omega⟩, ⟨by (with_reducible repeat (first | apply Kd.R_alloc | apply Kd.R_drewN | apply Kd.R_drew)); exact Kd.R_mono HO238.out (fun _ hk => trivial)⟩, ⟨by repeat (first | (with_reducible first | exact HB.out | apply below_alloc | apply pw_below_drewN | apply below_drew1) | exact HB.out)⟩⟩
                                      · rw [if_neg c64] at H
                                        exact absurd H (by simp)
                                    · rw [if_neg c63] at H
                                      exact absurd H (by simp)
                                  · rw [if_neg c62] at H
                                    exact absurd H (by simp)
                                · rw [if_neg c59] at H
                                  exact absurd H (by simp)
                              · rw [if_neg c58] at H
                                exact absurd H (by simp)
                            · rw [if_neg c56] at H
                              exact absurd H (by simp)
                          · rw [if_neg c55] at H
                            exact absurd H (by simp)
                        · rw [if_neg c53] at H
                          have c53b0 : decide (1 < (x3_1.length : Int)) = false := decide_eq_false c53
                          have c53b1 : decide (1 < x3_1.length) = false := decide_eq_false (by omega)
                          clear c53
                          have H' := Aside0.mk H
                          clear H
                          obtain ⟨Ao73, co73, eo73⟩ := Kd.R_slice HO_3.out
                          subst eo73
                          have p202 : 0 ≤ (x4_1 : Int) := of_decide_eq_true (by first | (with_reducible assumption) | assumption)
                          have q202 : x4_1 < (l0.length : Int) := of_decide_eq_true (by first | (with_reducible assumption) | assumption)
                          obtain ⟨ad202, e202, hx202_0⟩ := Kd.at_int HR0.out x4_1 p202 q202
                          cases e202
                          replace hx202_0 := (HB.out.cell (World.block_lt_of_cell? w _ hx202_0)).trans hx202_0
                          replace p202 := eq_true p202
                          replace q202 := eq_true q202
                          go_wp2_with (first | ((with_reducible refine gate_callee (f := 11) rfl ?_); refine goesL_ (some 33) rfl rfl Try.func11 (by kernel_rfl) rfl #[.int .i64 (rd l0 x4_1), .int .i64 10] rfl (by (try simp only [List.map_toArray, List.map_cons, List.map_nil]); first | done | rfl | (simp only [List.length_drop, List.length_take]; rfl)) ?_; (with_reducible refine (letterlocklaw6_pick.calls (rd l0 x4_1) 10 t203 _ A11.out).mono ?_); rintro e w' ⟨rfl, ⟨nd, rfl⟩⟩; refine ⟨_, rfl, ?_⟩; have p204 : 0 ≤ (x4_1 : Int) := of_decide_eq_true (by first | (with_reducible assumption) | assumption); have q204 : x4_1 < (l0.length : Int) := of_decide_eq_true (by first | (with_reducible assumption) | assumption); obtain ⟨ad204, e204, hx204_0⟩ := Kd.at_int HR0.out x4_1 p204 q204; obtain rfl : ad202 = ad204 := (by injection e204); replace hx204_0 := (HB.out.cell (World.block_lt_of_cell? w _ hx204_0)).trans hx204_0; replace p204 := eq_true p204; replace q204 := eq_true q204) | ((with_reducible refine gate_callee (f := 11) rfl ?_); refine goesL_ (some 39) rfl rfl Try.func11 (by kernel_rfl) rfl #[.int .i64 (wrap64 (Int.tdiv (rd l0 x4_1) 10)), .int .i64 5] rfl (by (try simp only [List.map_toArray, List.map_cons, List.map_nil]); first | done | rfl | (simp only [List.length_drop, List.length_take]; rfl)) ?_; (with_reducible refine (letterlocklaw6_pick.calls (wrap64 (Int.tdiv (rd l0 x4_1) 10)) 5 t205 _ A12.out).mono ?_); rintro e w' ⟨rfl, ⟨nd, rfl⟩⟩; refine ⟨_, rfl, ?_⟩))
                          go_roundg kj5
                          case measure => have := HK1.out; have := HJ5.out; omega
                          case rel => exact ⟨(x3_1), (wrap64 (x4_1 + 1)), (by first | rfl | (simp; done) | (simp [*]; done)), H', ⟨by have := HK1.out; have := HJ5.out; omega⟩, ⟨by (with_reducible repeat (first | apply Kd.R_alloc | apply Kd.R_drewN | apply Kd.R_drew)); exact HO_3.out⟩, ⟨by repeat (first | (with_reducible first | exact HB.out | apply below_alloc | apply pw_below_drewN | apply below_drew1) | exact HB.out)⟩⟩
              · rw [if_neg c10] at H
                exact absurd H (by simp)
            · rw [if_neg c9] at H
              exact absurd H (by simp)
          · replace c8 := Bool.eq_false_iff.mpr c8
            subst c8
            have H1 : (if 0 ≤ (wrap64 ((x3_1.length : Int) - 1)) then (if (wrap64 ((x3_1.length : Int) - 1)) < (x3_1.length : Int) then (some (rdOf ByteArray.empty x3_1 (wrap64 ((x3_1.length : Int) - 1)))) else (none)) else (none)) = some r := by rw [if_neg (show ¬ (false = true) by decide)] at H; exact H
            clear H
            have H := H1
            clear H1
            obtain ⟨ji74, hji74⟩ : ∃ j_ : Int, (wrap64 ((x3_1.length : Int) - 1)) = j_ := ⟨_, rfl⟩
            replace H : (if 0 ≤ (ji74) then (if (ji74) < (x3_1.length : Int) then (some (rdOf ByteArray.empty x3_1 (ji74))) else (none)) else (none)) = some r := by first | (rw [hji74] at H; exact H) | (simp only [hji74] at H ⊢; exact H)
            have hji74w : (IntKind.i64.wrap ((x3_1.length : Int) - 1)) = ji74 := (i64_w _).trans hji74
            by_cases c75 : 0 ≤ (ji74)
            · rw [if_pos c75] at H
              have c75b0 : decide (0 ≤ (ji74)) = true := decide_eq_true c75
              clear c75
              by_cases c76 : (ji74) < (x3_1.length : Int)
              · rw [if_pos c76] at H
                have c76b0 : decide ((ji74) < (x3_1.length : Int)) = true := decide_eq_true c76
                clear c76
                obtain rfl := Option.some.inj H
                obtain ⟨Ao77, co77, eo77⟩ := Kd.R_slice HO_3.out
                subst eo77
                have p201 : 0 ≤ ((ji74) : Int) := of_decide_eq_true (by first | (with_reducible assumption) | assumption)
                have q201 : (ji74) < (x3_1.length : Int) := of_decide_eq_true (by first | (with_reducible assumption) | assumption)
                obtain ⟨ad201, e201, hx201_0⟩ := Kd.at_string (Kd.R_reads' HO_3.out).2.2 (ji74) p201 q201
                cases e201
                replace p201 := eq_true p201
                replace q201 := eq_true q201
                go_wp2
                go_ret
                exact ⟨by first | rfl | (simp [errW_none, errW_some] <;> rfl) | (simp only [← hji74]; first | rfl | (simp [errW_none, errW_some] <;> rfl)) | (simp [*, errW_none, errW_some] <;> rfl), by repeat (first | (with_reducible first | exact HB.out | apply below_alloc | apply pw_below_drewN | apply below_drew1) | exact HB.out)⟩
              · rw [if_neg c76] at H
                exact absurd H (by simp)
            · rw [if_neg c75] at H
              exact absurd H (by simp)

/-! ### term_OfAtom: function 19 -/
def term_OfAtom.f (k : Nat) (a0 : Int) : Option (ByteArray) := (wire_Put.f k a0).bind fun t239 => (if 1 + t239.size ≤ 9223372036854775807 then (some ((⟨#[97]⟩ : ByteArray) ++ t239)) else (none))
theorem term_OfAtom.mono : ∀ a0 k, LeO (term_OfAtom.f k a0) (term_OfAtom.f (k + 1) a0) := by
  intro a0 k
  unfold term_OfAtom.f
  repeat' first
      | (with_reducible exact wire_Put.mono _ _)
      | (with_reducible exact LeO.refl _)
      | (with_reducible exact LeO.none _)
      | (with_reducible refine LeO.ite ?_ ?_)
      | (with_reducible refine LeO.bind ?_ (fun _ => ?_))
      | exact wire_Put.mono _ _
      | exact LeO.none _
      | refine LeO.ite ?_ ?_
      | refine LeO.bind ?_ (fun _ => ?_)
set_option maxHeartbeats 8000000 in
set_option maxRecDepth 100000 in
theorem term_OfAtom.calls (k : Nat) (a0 : Int) (r : ByteArray) (w : World) (h : term_OfAtom.f k a0 = some r) :
    Calls Try.prog 19 #[.int .u64 a0] w fun e w' => e = .returned (.string r) ∧ Below w.heap.size w w' := by
  have HB := Aside0.mk (Below.refl w.heap.size w)
  have H : ((wire_Put.f k a0).bind fun t239 => (if 1 + t239.size ≤ 9223372036854775807 then (some ((⟨#[97]⟩ : ByteArray) ++ t239)) else (none))) = some r := h
  clear h
  replace H := Option.bind_eq_some_iff.mp H
  obtain ⟨t239, A20, H⟩ := H
  replace H : (if 1 + t239.size ≤ 9223372036854775807 then (some ((⟨#[97]⟩ : ByteArray) ++ t239)) else (none)) = some r := H
  have A2 := Aside0.mk A20
  clear A20
  by_cases c3 : 1 + t239.size ≤ 9223372036854775807
  · rw [if_pos c3] at H
    have c3b0 := eq_true c3
    have c3b1 : decide (1 + t239.size ≤ 9223372036854775807) = true := decide_eq_true c3
    try have c3b2 : (9223372036854775807 < 1 + t239.size) = False := eq_false (Nat.not_lt.2 c3)
    obtain rfl := Option.some.inj H
    go_enter Try.func19, Try.ntmps19
    go_wp2_with (first | ((with_reducible refine gate_callee (f := 41) rfl ?_); refine goesL_ (some 4) rfl rfl Try.func41 (by kernel_rfl) rfl #[.int .u64 a0] rfl (by (try simp only [List.map_toArray, List.map_cons, List.map_nil]); first | done | rfl | (simp only [List.length_drop, List.length_take]; rfl)) ?_; (with_reducible refine (wire_Put.calls k a0 t239 _ A2.out).mono ?_); rintro e w4 ⟨rfl, hb⟩; refine ⟨_, rfl, ?_⟩; have n0_ := Aside0.mk (below_step (by repeat (first | (with_reducible first | exact HB.out | apply below_alloc | apply pw_below_drewN | apply below_drew1) | exact HB.out)) hb); clear HB; have HB := n0_; clear n0_; (try clear hb); (try clear hb2); (try clear hk); (try clear hi)))
    go_ret
    exact ⟨by first | rfl | (simp [errW_none, errW_some] <;> rfl) | (simp [*, errW_none, errW_some] <;> rfl), by repeat (first | (with_reducible first | exact HB.out | apply below_alloc | apply pw_below_drewN | apply below_drew1) | exact HB.out)⟩
  · rw [if_neg c3] at H
    exact absurd H (by simp)

end Go.Proofs.Ytpgbhgpjfjeomaa.PA
