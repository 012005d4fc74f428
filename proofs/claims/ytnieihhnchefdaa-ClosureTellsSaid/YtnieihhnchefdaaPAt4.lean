-- printed by a program of this session (a copy of print.py that takes stubs) out of the translation; Lean checks it
import Derived.Test.YtnieihhnchefdaaPAt0
import Derived.Test.YtnieihhnchefdaaPAt1
import Derived.Test.YtnieihhnchefdaaPAt3
namespace Go.Proofs.Ytnieihhnchefdaa.PA
open Go.RowKit Go.Proofs.YtnieihhnchefdaaW.PrintWords Go.Proofs.YtnieihhnchefdaaW.PrintLast Go.Proofs.YtnieihhnchefdaaW.PrintMore
attribute [local go_sem] max2_int min2_int max_two min_two max_three min_three max_four min_four   -- for this text's walks alone
set_option linter.unusedVariables false
set_option linter.unusedSimpArgs false

/-! ### letterlocklaw4_grown: function 20 -/
mutual
def letterlocklaw4_grown.l0 : Nat → List Int → List ByteArray → Int → Option (ByteArray)
 | 0, _, _, _ => none
 | k + 1, x0, x3, x4 => if x4 < (x0.length : Int) then (letterlocklaw4_grown.j1 k x0 x3 x4 (decide (x4 < 40))) else (letterlocklaw4_grown.j1 k x0 x3 x4 false)
def letterlocklaw4_grown.j1 : Nat → List Int → List ByteArray → Int → Bool → Option (ByteArray)
 | 0, _, _, _, _ => none
 | k + 1, x0, x3, x4, x24 => if x24 = true then (if 0 ≤ x4 then (if x4 < (x0.length : Int) then ((letterlocklaw4_pick.f (rd x0 x4) 10).bind fun t166 => ((letterlocklaw4_pick.f (wrap64 (Int.tdiv (rd x0 x4) 10)) 5).bind fun t168 => (if t166 < 3 then ((letterlockref3_OfAtom.f k (IntKind.u64.wrap (t168))).bind fun t169 => (if x3.length < 8796093022208 then (letterlocklaw4_grown.l0 k x0 (x3 ++ [t169]) (wrap64 (x4 + 1))) else (none))) else (if t166 = 3 then (if 0 ≤ t168 then (if t168 ≤ 5 then ((letterlockref3_OfText.f k ((⟨#[97, 98, 99, 100, 101]⟩ : ByteArray).extract 0 (t168 : Int).toNat)).bind fun bt173 => (if x3.length < 8796093022208 then (letterlocklaw4_grown.l0 k x0 (x3 ++ [bt173.1]) (wrap64 (x4 + 1))) else (none))) else (none)) else (none)) else (if t166 = 4 then (if 0 ≤ (wrap64 ((x3.length : Int) - 1)) then (if (wrap64 ((x3.length : Int) - 1)) < (x3.length : Int) then ((letterlockref3_OfHash.f k (rdOf ByteArray.empty x3 (wrap64 ((x3.length : Int) - 1)))).bind fun bt179 => (if bt179.2 = 0 then (letterlocklaw4_grown.l0 k x0 (x3.set ((wrap64 ((x3.length : Int) - 1)) : Int).toNat bt179.1) (wrap64 (x4 + 1))) else (letterlocklaw4_grown.l0 k x0 x3 (wrap64 (x4 + 1))))) else (none)) else (none)) else (if t166 = 5 then (if 0 ≤ (wrap64 ((x3.length : Int) - 1)) then (if (wrap64 ((x3.length : Int) - 1)) < (x3.length : Int) then ((letterlockref3_OfPublic.f k (rdOf ByteArray.empty x3 (wrap64 ((x3.length : Int) - 1)))).bind fun bt183 => (if bt183.2 = 0 then (letterlocklaw4_grown.l0 k x0 (x3.set ((wrap64 ((x3.length : Int) - 1)) : Int).toNat bt183.1) (wrap64 (x4 + 1))) else (letterlocklaw4_grown.l0 k x0 x3 (wrap64 (x4 + 1))))) else (none)) else (none)) else (if (x3.length : Int) > 1 then (if 0 ≤ (wrap64 ((x3.length : Int) - 2)) then (if (wrap64 ((x3.length : Int) - 2)) < (x3.length : Int) then (if 0 ≤ (wrap64 ((x3.length : Int) - 1)) then (if (wrap64 ((x3.length : Int) - 1)) < (x3.length : Int) then ((letterlocklaw4_joined.f k t166 (rdOf ByteArray.empty x3 (wrap64 ((x3.length : Int) - 2))) (rdOf ByteArray.empty x3 (wrap64 ((x3.length : Int) - 1)))).bind fun t188 => ((some (([] : List ByteArray) : List ByteArray)).bind fun y189 => (if (wrap64 ((x3.length : Int) - 2)) ≤ (x3.length : Int) then ((some (x3.take ((wrap64 ((x3.length : Int) - 2)) : Int).toNat : List ByteArray)).bind fun y192 => (if y189.length + y192.length < 8796093022208 then ((some (y189 ++ y192 : List ByteArray)).bind fun y196 => (if y196.length < 8796093022208 then (letterlocklaw4_grown.l0 k x0 (y196 ++ [t188]) (wrap64 (x4 + 1))) else (none))) else (none))) else (none)))) else (none)) else (none)) else (none)) else (none)) else (letterlocklaw4_grown.l0 k x0 x3 (wrap64 (x4 + 1)))))))))) else (none)) else (none)) else (if 0 ≤ (wrap64 ((x3.length : Int) - 1)) then (if (wrap64 ((x3.length : Int) - 1)) < (x3.length : Int) then (some (rdOf ByteArray.empty x3 (wrap64 ((x3.length : Int) - 1)))) else (none)) else (none))
end
def letterlocklaw4_grown.f (k : Nat) (l0 : List Int) : Option (ByteArray) := (letterlockref3_OfAtom.f k 0).bind fun t160 => (letterlocklaw4_grown.l0 k l0 (([t160] : List ByteArray)) 0)
theorem letterlocklaw4_grown.mono_l : ∀ k, (∀ y0 y1 y2, LeO (letterlocklaw4_grown.l0 k y0 y1 y2) (letterlocklaw4_grown.l0 (k + 1) y0 y1 y2)) ∧ (∀ y0 y1 y2 y3, LeO (letterlocklaw4_grown.j1 k y0 y1 y2 y3) (letterlocklaw4_grown.j1 (k + 1) y0 y1 y2 y3))
 | 0 => ⟨fun _ _ _ r h => by simp [letterlocklaw4_grown.l0] at h, fun _ _ _ _ r h => by simp [letterlocklaw4_grown.j1] at h⟩
 | k + 1 => by
  obtain ⟨ih0, ih1⟩ := letterlocklaw4_grown.mono_l k
  refine ⟨?_, ?_⟩
  ·intro y0 y1 y2
   unfold letterlocklaw4_grown.l0
   repeat' first
   | (with_reducible exact ih0 _ _ _)
   | (with_reducible exact ih1 _ _ _ _)
   | (with_reducible exact letterlocklaw4_joined.mono _ _ _ _)
   | (with_reducible exact letterlockref3_OfAtom.mono _ _)
   | (with_reducible exact letterlockref3_OfHash.mono _ _)
   | (with_reducible exact letterlockref3_OfPublic.mono _ _)
   | (with_reducible exact letterlockref3_OfText.mono _ _)
   | (with_reducible exact LeO.refl _)
   | (with_reducible exact LeO.none _)
   | (with_reducible refine LeO.ite ?_ ?_)
   | (with_reducible refine LeO.bind ?_ (fun _ => ?_))
   | exact ih0 _ _ _
   | exact ih1 _ _ _ _
   | exact letterlocklaw4_joined.mono _ _ _ _
   | exact letterlockref3_OfAtom.mono _ _
   | exact letterlockref3_OfHash.mono _ _
   | exact letterlockref3_OfPublic.mono _ _
   | exact letterlockref3_OfText.mono _ _
   | exact LeO.none _
   | refine LeO.ite ?_ ?_
   | refine LeO.bind ?_ (fun _ => ?_)
  ·intro y0 y1 y2 y3
   unfold letterlocklaw4_grown.j1
   repeat' first
   | (with_reducible exact ih0 _ _ _)
   | (with_reducible exact ih1 _ _ _ _)
   | (with_reducible exact letterlocklaw4_joined.mono _ _ _ _)
   | (with_reducible exact letterlockref3_OfAtom.mono _ _)
   | (with_reducible exact letterlockref3_OfHash.mono _ _)
   | (with_reducible exact letterlockref3_OfPublic.mono _ _)
   | (with_reducible exact letterlockref3_OfText.mono _ _)
   | (with_reducible exact LeO.refl _)
   | (with_reducible exact LeO.none _)
   | (with_reducible refine LeO.ite ?_ ?_)
   | (with_reducible refine LeO.bind ?_ (fun _ => ?_))
   | exact ih0 _ _ _
   | exact ih1 _ _ _ _
   | exact letterlocklaw4_joined.mono _ _ _ _
   | exact letterlockref3_OfAtom.mono _ _
   | exact letterlockref3_OfHash.mono _ _
   | exact letterlockref3_OfPublic.mono _ _
   | exact letterlockref3_OfText.mono _ _
   | exact LeO.none _
   | refine LeO.ite ?_ ?_
   | refine LeO.bind ?_ (fun _ => ?_)
theorem letterlocklaw4_grown.mono : ∀ a0 k, LeO (letterlocklaw4_grown.f k a0) (letterlocklaw4_grown.f (k + 1) a0) := by
 intro a0 k
 obtain ⟨ih0, ih1⟩ := letterlocklaw4_grown.mono_l k
 unfold letterlocklaw4_grown.f
 repeat' first
   | (with_reducible exact ih0 _ _ _)
   | (with_reducible exact ih1 _ _ _ _)
   | (with_reducible exact letterlocklaw4_joined.mono _ _ _ _)
   | (with_reducible exact letterlockref3_OfAtom.mono _ _)
   | (with_reducible exact letterlockref3_OfHash.mono _ _)
   | (with_reducible exact letterlockref3_OfPublic.mono _ _)
   | (with_reducible exact letterlockref3_OfText.mono _ _)
   | (with_reducible exact LeO.refl _)
   | (with_reducible exact LeO.none _)
   | (with_reducible refine LeO.ite ?_ ?_)
   | (with_reducible refine LeO.bind ?_ (fun _ => ?_))
   | exact ih0 _ _ _
   | exact ih1 _ _ _ _
   | exact letterlocklaw4_joined.mono _ _ _ _
   | exact letterlockref3_OfAtom.mono _ _
   | exact letterlockref3_OfHash.mono _ _
   | exact letterlockref3_OfPublic.mono _ _
   | exact letterlockref3_OfText.mono _ _
   | exact LeO.none _
   | refine LeO.ite ?_ ?_
   | refine LeO.bind ?_ (fun _ => ?_)
def letterlocklaw4_grown.T22 : Bool × List (List Nat × List Nat) := (true, [([], []), ([], []), ([], []), ([2], [2]), ([1, 3], [1, 3]), ([4], [4]), ([], []), ([], []), ([7], [7]), ([6, 8], [6, 8]), ([9], [9]), ([0, 5, 10], [0, 5, 10]), ([11, 11, 0, 1, 2, 3, 4, 5, 6, 7, 8, 9, 10, 11], [11])])
def letterlocklaw4_grown.B22 : List Nat := [0, 0, 0, 4, 14, 30, 0, 0, 128, 448, 960, 2047, 4095]
theorem letterlocklaw4_grown.tab22 : rtab .any (opsOf Try.f20 22) = letterlocklaw4_grown.T22 := by kernel_rfl
theorem letterlocklaw4_grown.bits22 : waitsOk letterlocklaw4_grown.T22.2 letterlocklaw4_grown.B22 = true := by kernel_rfl
set_option maxHeartbeats 8000000 in
set_option maxRecDepth 100000 in
theorem letterlocklaw4_grown.calls (k : Nat) (A0 : Option Addr) (c0 : Nat) (l0 : List Int) (r : ByteArray) (w : World) (hr0 : Kd.C (Kd.int .i64) w A0 l0.length l0) (hc0 : l0.length ≤ c0) (h : letterlocklaw4_grown.f k l0 = some r) :
  Calls Try.prog 20 #[.slice A0 l0.length c0] w fun e w' => e = .returned (.string r) ∧ Below w.heap.size w w' := by
 have HR0 := Aside0.mk hr0
 have HC0 := Aside0.mk hc0
 clear hr0 hc0
 have HB := Aside0.mk (Below.refl w.heap.size w)
 have H : ((letterlockref3_OfAtom.f k 0).bind fun t160 => (letterlocklaw4_grown.l0 k l0 (([t160] : List ByteArray)) 0)) = some r := h
 clear h
 replace H := Option.bind_eq_some_iff.mp H
 obtain ⟨t160, A20, H⟩ := H
 replace H : (letterlocklaw4_grown.l0 k l0 (([t160] : List ByteArray)) 0) = some r := H
 have A2 := Aside0.mk A20
 clear A20
 obtain ⟨y161, hy161⟩ : ∃ y_ : List ByteArray, y_ = (([t160] : List ByteArray)) := ⟨_, rfl⟩
 replace H : (letterlocklaw4_grown.l0 k l0 y161 0) = some r := by first | (rw [hy161]; with_reducible exact H) | (have H2_ := (Option.bind_some _ _).symm.trans H; rw [hy161]; with_reducible exact H2_) | (have H2_ := (Option.bind_some _ _).symm.trans H; with_reducible exact H2_) | with_reducible exact H | (rw [hy161]; exact H) | exact H
 have Ny161 := Aside0.mk hy161
 clear hy161
 have H' := Aside0.mk H
 clear H
 go_enter Try.func20, Try.ntmps20
 go_wp2_with (first | ((with_reducible refine gate_callee (f := 14) rfl ?_); refine goesL_ (some 15) rfl rfl Try.func14 (by kernel_rfl) rfl #[.int .u64 0] rfl (by (try simp only [List.map_toArray, List.map_cons, List.map_nil]); first | done | rfl | (simp only [List.length_drop, List.length_take]; rfl)) ?_; (with_reducible refine (letterlockref3_OfAtom.calls k 0 t160 _ A2.out).mono ?_); rintro e w3 ⟨rfl, hb⟩; refine ⟨_, rfl, ?_⟩; have n0_ := Aside0.mk (below_step (by repeat (first | (with_reducible first | exact HB.out | apply below_alloc | apply pw_below_drewN | apply below_drew1) | exact HB.out)) hb); clear HB; have HB := n0_; clear n0_; (try clear hb); (try clear hb2); (try clear hk); (try clear hi)) | ((with_reducible refine gate_dst (N := 16) rfl ?_); refine Kd.R_lit Kd.string _ 9 ?hg (N := 16) ?hd (xs := ([t160] : List ByteArray)) (inner := [.string t160]) (ok := fun _ => True) (okp := fun _ => True) ?hr ?hp (fun _ hk => hk) trivial (Below.refl _ _) (Nat.le_refl _) (by simp) ?_; (case hd => rfl); (case hg => rfl); (case hr => first | (go_simp; done) | (go_simp; rfl)); (case hp => exact (Reps.one (show Kd.M Kd.string _ _ _ t160 [.string t160] from rfl) (Reps.none _ _))); intro v162 w4 ho5 hb hg_ hnew_; clear hg_ hnew_; (first | rw [← Ny161.out] at ho5 | (simp only [Int.reduceToNat] at ho5; rw [← Ny161.out] at ho5)); have n0_ := Aside0.mk (Kd.R_lower ho5 (below_size (by repeat (first | (with_reducible first | exact HB.out | apply below_alloc | apply pw_below_drewN | apply below_drew1) | exact HB.out)))); have n1_ := Aside0.mk (below_step (by repeat (first | (with_reducible first | exact HB.out | apply below_alloc | apply pw_below_drewN | apply below_drew1) | exact HB.out)) hb); clear HB; have HO163 := n0_; have HB := n1_; clear n0_ n1_; clear hb ho5))
 go_loopg [3, 4] k (fun kq v3 v4 w' => ∃ (x3_1 : List ByteArray) (x4_1 : Int), v4 = .int .i64 x4_1 ∧ Aside0 (letterlocklaw4_grown.l0 kq l0 x3_1 x4_1 = some r) ∧ Aside0 (kq ≤ k) ∧ Aside0 (Kd.R Kd.string 9 w' w.heap.size (fun _ => True) v3 x3_1) ∧ Aside0 (Below w.heap.size w w'))
 case atStart => exact ⟨(y161), (0), (by first | rfl | (simp; done) | (simp [*]; done)), H', ⟨Nat.le_refl _⟩, ⟨by (with_reducible repeat (first | apply Kd.R_alloc | apply Kd.R_drewN | apply Kd.R_drew)); exact HO163.out⟩, ⟨by repeat (first | (with_reducible first | exact HB.out | apply below_alloc | apply pw_below_drewN | apply below_drew1) | exact HB.out)⟩⟩
 case round =>
  clear H'
  try clear c1
  try clear c2
  try clear p2
  obtain ⟨x3_1, x4_1, rfl, HA, HK1, HO_3, HB⟩ := hrel
  cases gk with
  | zero => exact absurd HA.out (by simp [letterlocklaw4_grown.l0])
  | succ k1 =>
   have H := HA.out
   clear HA
   simp only [letterlocklaw4_grown.l0] at H
   have HC6 := Aside0.mk H
   clear H
   go_upto_region 3 with (fail)
   go_cut [24] (fun v24 wc => ∃ (kq : Nat) (x24_5 : Bool), v24 = .bool x24_5 ∧ Aside0 (letterlocklaw4_grown.j1 kq l0 x3_1 x4_1 x24_5 = some r) ∧ Aside0 (kq ≤ k1) ∧ Aside0 (Kd.R Kd.string 9 wc w.heap.size (fun _ => True) u3 x3_1) ∧ Aside0 (Below w.heap.size w wc))
   case first =>
    have H := HC6.out
    clear HC6
    by_cases c7 : x4_1 < (l0.length : Int)
    ·rw [if_pos c7] at H
     have c7b0 : decide (x4_1 < (l0.length : Int)) = true := decide_eq_true c7
     clear c7
     (first | rw [c7b0] | (simp only [i64_w, i32_w]; rw [c7b0]) | skip)
     have H' := Aside0.mk H
     clear H
     go_wp2
     go_meet
     case rel => exact ⟨_, (decide (x4_1 < 40)), (by first | rfl | (simp; done) | (simp [*]; done)), H', ⟨by have := HK1.out; first | omega | exact Nat.le_refl _⟩, ⟨by (with_reducible repeat (first | apply Kd.R_alloc | apply Kd.R_drewN | apply Kd.R_drew)); exact HO_3.out⟩, ⟨by repeat (first | (with_reducible first | exact HB.out | apply below_alloc | apply pw_below_drewN | apply below_drew1) | exact HB.out)⟩⟩
    ·rw [if_neg c7] at H
     have c7b0 : decide (x4_1 < (l0.length : Int)) = false := decide_eq_false c7
     clear c7
     (first | rw [c7b0] | (simp only [i64_w, i32_w]; rw [c7b0]) | skip)
     have H' := Aside0.mk H
     clear H
     go_wp2
     go_meet
     case rel => exact ⟨_, (false), (by first | rfl | (simp; done) | (simp [*]; done)), H', ⟨by have := HK1.out; first | omega | exact Nat.le_refl _⟩, ⟨by (with_reducible repeat (first | apply Kd.R_alloc | apply Kd.R_drewN | apply Kd.R_drew)); exact HO_3.out⟩, ⟨by repeat (first | (with_reducible first | exact HB.out | apply below_alloc | apply pw_below_drewN | apply below_drew1) | exact HB.out)⟩⟩
   case rest =>
    clear HC6
    try clear c1
    try clear c2
    try clear p2
    try clear c7
    try clear c7b0
    try clear p2
    obtain ⟨kq, x24_5, rfl, HA, HJ5, HO_3, HB⟩ := hcut
    cases kq with
    | zero => exact absurd HA.out (by simp [letterlocklaw4_grown.j1])
    | succ kj5 =>
     have H := HA.out
     clear HA
     simp only [letterlocklaw4_grown.j1] at H
     by_cases c8 : x24_5 = true
     ·subst c8
      have H1 : (if 0 ≤ x4_1 then (if x4_1 < (l0.length : Int) then ((letterlocklaw4_pick.f (rd l0 x4_1) 10).bind fun t166 => ((letterlocklaw4_pick.f (wrap64 (Int.tdiv (rd l0 x4_1) 10)) 5).bind fun t168 => (if t166 < 3 then ((letterlockref3_OfAtom.f kj5 (IntKind.u64.wrap (t168))).bind fun t169 => (if x3_1.length < 8796093022208 then (letterlocklaw4_grown.l0 kj5 l0 (x3_1 ++ [t169]) (wrap64 (x4_1 + 1))) else (none))) else (if t166 = 3 then (if 0 ≤ t168 then (if t168 ≤ 5 then ((letterlockref3_OfText.f kj5 ((⟨#[97, 98, 99, 100, 101]⟩ : ByteArray).extract 0 (t168 : Int).toNat)).bind fun bt173 => (if x3_1.length < 8796093022208 then (letterlocklaw4_grown.l0 kj5 l0 (x3_1 ++ [bt173.1]) (wrap64 (x4_1 + 1))) else (none))) else (none)) else (none)) else (if t166 = 4 then (if 0 ≤ (wrap64 ((x3_1.length : Int) - 1)) then (if (wrap64 ((x3_1.length : Int) - 1)) < (x3_1.length : Int) then ((letterlockref3_OfHash.f kj5 (rdOf ByteArray.empty x3_1 (wrap64 ((x3_1.length : Int) - 1)))).bind fun bt179 => (if bt179.2 = 0 then (letterlocklaw4_grown.l0 kj5 l0 (x3_1.set ((wrap64 ((x3_1.length : Int) - 1)) : Int).toNat bt179.1) (wrap64 (x4_1 + 1))) else (letterlocklaw4_grown.l0 kj5 l0 x3_1 (wrap64 (x4_1 + 1))))) else (none)) else (none)) else (if t166 = 5 then (if 0 ≤ (wrap64 ((x3_1.length : Int) - 1)) then (if (wrap64 ((x3_1.length : Int) - 1)) < (x3_1.length : Int) then ((letterlockref3_OfPublic.f kj5 (rdOf ByteArray.empty x3_1 (wrap64 ((x3_1.length : Int) - 1)))).bind fun bt183 => (if bt183.2 = 0 then (letterlocklaw4_grown.l0 kj5 l0 (x3_1.set ((wrap64 ((x3_1.length : Int) - 1)) : Int).toNat bt183.1) (wrap64 (x4_1 + 1))) else (letterlocklaw4_grown.l0 kj5 l0 x3_1 (wrap64 (x4_1 + 1))))) else (none)) else (none)) else (if (x3_1.length : Int) > 1 then (if 0 ≤ (wrap64 ((x3_1.length : Int) - 2)) then (if (wrap64 ((x3_1.length : Int) - 2)) < (x3_1.length : Int) then (if 0 ≤ (wrap64 ((x3_1.length : Int) - 1)) then (if (wrap64 ((x3_1.length : Int) - 1)) < (x3_1.length : Int) then ((letterlocklaw4_joined.f kj5 t166 (rdOf ByteArray.empty x3_1 (wrap64 ((x3_1.length : Int) - 2))) (rdOf ByteArray.empty x3_1 (wrap64 ((x3_1.length : Int) - 1)))).bind fun t188 => ((some (([] : List ByteArray) : List ByteArray)).bind fun y189 => (if (wrap64 ((x3_1.length : Int) - 2)) ≤ (x3_1.length : Int) then ((some (x3_1.take ((wrap64 ((x3_1.length : Int) - 2)) : Int).toNat : List ByteArray)).bind fun y192 => (if y189.length + y192.length < 8796093022208 then ((some (y189 ++ y192 : List ByteArray)).bind fun y196 => (if y196.length < 8796093022208 then (letterlocklaw4_grown.l0 kj5 l0 (y196 ++ [t188]) (wrap64 (x4_1 + 1))) else (none))) else (none))) else (none)))) else (none)) else (none)) else (none)) else (none)) else (letterlocklaw4_grown.l0 kj5 l0 x3_1 (wrap64 (x4_1 + 1)))))))))) else (none)) else (none)) = some r := by rw [if_pos rfl] at H; exact H
      clear H
      have H := H1
      clear H1
      by_cases c9 : 0 ≤ x4_1
      ·rw [if_pos c9] at H
       have c9b0 : decide (0 ≤ x4_1) = true := decide_eq_true c9
       clear c9
       by_cases c10 : x4_1 < (l0.length : Int)
       ·rw [if_pos c10] at H
        have c10b0 : decide (x4_1 < (l0.length : Int)) = true := decide_eq_true c10
        clear c10
        replace H := Option.bind_eq_some_iff.mp H
        obtain ⟨t166, A110, H⟩ := H
        replace H : ((letterlocklaw4_pick.f (wrap64 (Int.tdiv (rd l0 x4_1) 10)) 5).bind fun t168 => (if t166 < 3 then ((letterlockref3_OfAtom.f kj5 (IntKind.u64.wrap (t168))).bind fun t169 => (if x3_1.length < 8796093022208 then (letterlocklaw4_grown.l0 kj5 l0 (x3_1 ++ [t169]) (wrap64 (x4_1 + 1))) else (none))) else (if t166 = 3 then (if 0 ≤ t168 then (if t168 ≤ 5 then ((letterlockref3_OfText.f kj5 ((⟨#[97, 98, 99, 100, 101]⟩ : ByteArray).extract 0 (t168 : Int).toNat)).bind fun bt173 => (if x3_1.length < 8796093022208 then (letterlocklaw4_grown.l0 kj5 l0 (x3_1 ++ [bt173.1]) (wrap64 (x4_1 + 1))) else (none))) else (none)) else (none)) else (if t166 = 4 then (if 0 ≤ (wrap64 ((x3_1.length : Int) - 1)) then (if (wrap64 ((x3_1.length : Int) - 1)) < (x3_1.length : Int) then ((letterlockref3_OfHash.f kj5 (rdOf ByteArray.empty x3_1 (wrap64 ((x3_1.length : Int) - 1)))).bind fun bt179 => (if bt179.2 = 0 then (letterlocklaw4_grown.l0 kj5 l0 (x3_1.set ((wrap64 ((x3_1.length : Int) - 1)) : Int).toNat bt179.1) (wrap64 (x4_1 + 1))) else (letterlocklaw4_grown.l0 kj5 l0 x3_1 (wrap64 (x4_1 + 1))))) else (none)) else (none)) else (if t166 = 5 then (if 0 ≤ (wrap64 ((x3_1.length : Int) - 1)) then (if (wrap64 ((x3_1.length : Int) - 1)) < (x3_1.length : Int) then ((letterlockref3_OfPublic.f kj5 (rdOf ByteArray.empty x3_1 (wrap64 ((x3_1.length : Int) - 1)))).bind fun bt183 => (if bt183.2 = 0 then (letterlocklaw4_grown.l0 kj5 l0 (x3_1.set ((wrap64 ((x3_1.length : Int) - 1)) : Int).toNat bt183.1) (wrap64 (x4_1 + 1))) else (letterlocklaw4_grown.l0 kj5 l0 x3_1 (wrap64 (x4_1 + 1))))) else (none)) else (none)) else (if (x3_1.length : Int) > 1 then (if 0 ≤ (wrap64 ((x3_1.length : Int) - 2)) then (if (wrap64 ((x3_1.length : Int) - 2)) < (x3_1.length : Int) then (if 0 ≤ (wrap64 ((x3_1.length : Int) - 1)) then (if (wrap64 ((x3_1.length : Int) - 1)) < (x3_1.length : Int) then ((letterlocklaw4_joined.f kj5 t166 (rdOf ByteArray.empty x3_1 (wrap64 ((x3_1.length : Int) - 2))) (rdOf ByteArray.empty x3_1 (wrap64 ((x3_1.length : Int) - 1)))).bind fun t188 => ((some (([] : List ByteArray) : List ByteArray)).bind fun y189 => (if (wrap64 ((x3_1.length : Int) - 2)) ≤ (x3_1.length : Int) then ((some (x3_1.take ((wrap64 ((x3_1.length : Int) - 2)) : Int).toNat : List ByteArray)).bind fun y192 => (if y189.length + y192.length < 8796093022208 then ((some (y189 ++ y192 : List ByteArray)).bind fun y196 => (if y196.length < 8796093022208 then (letterlocklaw4_grown.l0 kj5 l0 (y196 ++ [t188]) (wrap64 (x4_1 + 1))) else (none))) else (none))) else (none)))) else (none)) else (none)) else (none)) else (none)) else (letterlocklaw4_grown.l0 kj5 l0 x3_1 (wrap64 (x4_1 + 1))))))))) = some r := H
        have A11 := Aside0.mk A110
        clear A110
        replace H := Option.bind_eq_some_iff.mp H
        obtain ⟨t168, A120, H⟩ := H
        replace H : (if t166 < 3 then ((letterlockref3_OfAtom.f kj5 (IntKind.u64.wrap (t168))).bind fun t169 => (if x3_1.length < 8796093022208 then (letterlocklaw4_grown.l0 kj5 l0 (x3_1 ++ [t169]) (wrap64 (x4_1 + 1))) else (none))) else (if t166 = 3 then (if 0 ≤ t168 then (if t168 ≤ 5 then ((letterlockref3_OfText.f kj5 ((⟨#[97, 98, 99, 100, 101]⟩ : ByteArray).extract 0 (t168 : Int).toNat)).bind fun bt173 => (if x3_1.length < 8796093022208 then (letterlocklaw4_grown.l0 kj5 l0 (x3_1 ++ [bt173.1]) (wrap64 (x4_1 + 1))) else (none))) else (none)) else (none)) else (if t166 = 4 then (if 0 ≤ (wrap64 ((x3_1.length : Int) - 1)) then (if (wrap64 ((x3_1.length : Int) - 1)) < (x3_1.length : Int) then ((letterlockref3_OfHash.f kj5 (rdOf ByteArray.empty x3_1 (wrap64 ((x3_1.length : Int) - 1)))).bind fun bt179 => (if bt179.2 = 0 then (letterlocklaw4_grown.l0 kj5 l0 (x3_1.set ((wrap64 ((x3_1.length : Int) - 1)) : Int).toNat bt179.1) (wrap64 (x4_1 + 1))) else (letterlocklaw4_grown.l0 kj5 l0 x3_1 (wrap64 (x4_1 + 1))))) else (none)) else (none)) else (if t166 = 5 then (if 0 ≤ (wrap64 ((x3_1.length : Int) - 1)) then (if (wrap64 ((x3_1.length : Int) - 1)) < (x3_1.length : Int) then ((letterlockref3_OfPublic.f kj5 (rdOf ByteArray.empty x3_1 (wrap64 ((x3_1.length : Int) - 1)))).bind fun bt183 => (if bt183.2 = 0 then (letterlocklaw4_grown.l0 kj5 l0 (x3_1.set ((wrap64 ((x3_1.length : Int) - 1)) : Int).toNat bt183.1) (wrap64 (x4_1 + 1))) else (letterlocklaw4_grown.l0 kj5 l0 x3_1 (wrap64 (x4_1 + 1))))) else (none)) else (none)) else (if (x3_1.length : Int) > 1 then (if 0 ≤ (wrap64 ((x3_1.length : Int) - 2)) then (if (wrap64 ((x3_1.length : Int) - 2)) < (x3_1.length : Int) then (if 0 ≤ (wrap64 ((x3_1.length : Int) - 1)) then (if (wrap64 ((x3_1.length : Int) - 1)) < (x3_1.length : Int) then ((letterlocklaw4_joined.f kj5 t166 (rdOf ByteArray.empty x3_1 (wrap64 ((x3_1.length : Int) - 2))) (rdOf ByteArray.empty x3_1 (wrap64 ((x3_1.length : Int) - 1)))).bind fun t188 => ((some (([] : List ByteArray) : List ByteArray)).bind fun y189 => (if (wrap64 ((x3_1.length : Int) - 2)) ≤ (x3_1.length : Int) then ((some (x3_1.take ((wrap64 ((x3_1.length : Int) - 2)) : Int).toNat : List ByteArray)).bind fun y192 => (if y189.length + y192.length < 8796093022208 then ((some (y189 ++ y192 : List ByteArray)).bind fun y196 => (if y196.length < 8796093022208 then (letterlocklaw4_grown.l0 kj5 l0 (y196 ++ [t188]) (wrap64 (x4_1 + 1))) else (none))) else (none))) else (none)))) else (none)) else (none)) else (none)) else (none)) else (letterlocklaw4_grown.l0 kj5 l0 x3_1 (wrap64 (x4_1 + 1)))))))) = some r := H
        have A12 := Aside0.mk A120
        clear A120
        by_cases c13 : t166 < 3
        ·rw [if_pos c13] at H
         have c13b0 : decide (t166 < 3) = true := decide_eq_true c13
         clear c13
         replace H := Option.bind_eq_some_iff.mp H
         obtain ⟨t169, A140, H⟩ := H
         replace H : (if x3_1.length < 8796093022208 then (letterlocklaw4_grown.l0 kj5 l0 (x3_1 ++ [t169]) (wrap64 (x4_1 + 1))) else (none)) = some r := H
         have A14 := Aside0.mk A140
         clear A140
         by_cases c15 : x3_1.length < 8796093022208
         ·rw [if_pos c15] at H
          have LMc15 := Aside0.mk c15
          clear c15
          obtain ⟨y170, hy170⟩ : ∃ y_ : List ByteArray, y_ = (x3_1 ++ [t169]) := ⟨_, rfl⟩
          replace H : (letterlocklaw4_grown.l0 kj5 l0 y170 (wrap64 (x4_1 + 1))) = some r := by first | (rw [hy170]; with_reducible exact H) | (have H2_ := (Option.bind_some _ _).symm.trans H; rw [hy170]; with_reducible exact H2_) | (have H2_ := (Option.bind_some _ _).symm.trans H; with_reducible exact H2_) | with_reducible exact H | (rw [hy170]; exact H) | exact H
          have Ny170 := Aside0.mk hy170
          clear hy170
          have H' := Aside0.mk H
          clear H
          obtain ⟨Ao16, co16, eo16⟩ := Kd.R_slice HO_3.out
          subst eo16
          have p165 : 0 ≤ (x4_1 : Int) := of_decide_eq_true (by first | (with_reducible assumption) | assumption)
          have q165 : x4_1 < (l0.length : Int) := of_decide_eq_true (by first | (with_reducible assumption) | assumption)
          obtain ⟨ad165, e165, hx165_0⟩ := Kd.at_int HR0.out x4_1 p165 q165
          cases e165
          replace hx165_0 := (HB.out.cell (World.block_lt_of_cell? w _ hx165_0)).trans hx165_0
          replace p165 := eq_true p165
          replace q165 := eq_true q165
          go_wp2_with (first | ((with_reducible refine gate_callee (f := 25) rfl ?_); refine goesL_ (some 33) rfl rfl Try.func25 (by kernel_rfl) rfl #[.int .i64 (rd l0 x4_1), .int .i64 10] rfl (by (try simp only [List.map_toArray, List.map_cons, List.map_nil]); first | done | rfl | (simp only [List.length_drop, List.length_take]; rfl)) ?_; (with_reducible refine (letterlocklaw4_pick.calls (rd l0 x4_1) 10 t166 _ A11.out).mono ?_); rintro e w' ⟨rfl, ⟨nd, rfl⟩⟩; refine ⟨_, rfl, ?_⟩; have p167 : 0 ≤ (x4_1 : Int) := of_decide_eq_true (by first | (with_reducible assumption) | assumption); have q167 : x4_1 < (l0.length : Int) := of_decide_eq_true (by first | (with_reducible assumption) | assumption); obtain ⟨ad167, e167, hx167_0⟩ := Kd.at_int HR0.out x4_1 p167 q167; obtain rfl : ad165 = ad167 := (by injection e167); replace hx167_0 := (HB.out.cell (World.block_lt_of_cell? w _ hx167_0)).trans hx167_0; replace p167 := eq_true p167; replace q167 := eq_true q167) | ((with_reducible refine gate_callee (f := 25) rfl ?_); refine goesL_ (some 39) rfl rfl Try.func25 (by kernel_rfl) rfl #[.int .i64 (wrap64 (Int.tdiv (rd l0 x4_1) 10)), .int .i64 5] rfl (by (try simp only [List.map_toArray, List.map_cons, List.map_nil]); first | done | rfl | (simp only [List.length_drop, List.length_take]; rfl)) ?_; (with_reducible refine (letterlocklaw4_pick.calls (wrap64 (Int.tdiv (rd l0 x4_1) 10)) 5 t168 _ A12.out).mono ?_); rintro e w' ⟨rfl, ⟨nd, rfl⟩⟩; refine ⟨_, rfl, ?_⟩) | ((with_reducible refine gate_callee (f := 14) rfl ?_); refine goesL_ (some 46) rfl rfl Try.func14 (by kernel_rfl) rfl #[.int .u64 (IntKind.u64.wrap (t168))] rfl (by (try simp only [List.map_toArray, List.map_cons, List.map_nil]); first | done | rfl | (simp only [List.length_drop, List.length_take]; rfl)) ?_; (with_reducible refine (letterlockref3_OfAtom.calls kj5 (IntKind.u64.wrap (t168)) t169 _ A14.out).mono ?_); rintro e w17 ⟨rfl, hb⟩; refine ⟨_, rfl, ?_⟩; have n0_ := Aside0.mk (Kd.R_below (by (with_reducible repeat (first | apply Kd.R_alloc | apply Kd.R_drewN | apply Kd.R_drew)); exact HO_3.out) hb); have n1_ := Aside0.mk (below_step (by repeat (first | (with_reducible first | exact HB.out | apply below_alloc | apply pw_below_drewN | apply below_drew1) | exact HB.out)) hb); clear HO_3; clear HB; have HO_3 := n0_; have HB := n1_; clear n0_ n1_; (try clear hb); (try clear hb2); (try clear hk); (try clear hi)) | ((with_reducible refine gate_builtin (b := .append) (xs := #[.tmp 43, .tmp 47]) rfl ?_); at_builtin; refine Kd.R_append Kd.string (w0 := w) w.heap.size rfl (.tmp 43) (.tmp 47) 31 9 (.string ⟨#[]⟩) 16 rfl Try.underlying31 info9 rfl (by decide) (by omega) (.slice Ao16 x3_1.length co16) x3_1 t169 [.string t169] (fun _ => True) (fun _ => False) rfl rfl ?aP (fun _ hk => hk.elim) ?aF ?aO ?aB ?aS ?aL ?_; (case aP => exact rfl); (case aB => exact (by repeat (first | (with_reducible first | exact HB.out | apply below_alloc | apply pw_below_drewN | apply below_drew1) | exact HB.out))); (case aF => exact (fun _ _ => trivial)); (case aO => exact (by (with_reducible repeat (first | apply Kd.R_alloc | apply Kd.R_drewN | apply Kd.R_drew)); exact HO_3.out)); (case aS => exact (below_size (by repeat (first | (with_reducible first | exact HB.out | apply below_alloc | apply pw_below_drewN | apply below_drew1) | exact HB.out)))); (case aL => have := LMc15.out; omega); intro v171 w18 ho hb hg hat; rw [← Ny170.out] at ho; have n0_ := Aside0.mk (hb); have n1_ := Aside0.mk (ho); clear HB; clear HO_3; have HB := n0_; have HO172 := n1_; clear n0_ n1_; clear ho hb hg hat))
          go_roundg kj5
          case measure => have := HK1.out; have := HJ5.out; omega
          case rel => exact ⟨(y170), (wrap64 (x4_1 + 1)), (by first | rfl | (simp; done) | (simp [*]; done)), H', ⟨by have := HK1.out; have := HJ5.out; omega⟩, ⟨by (with_reducible repeat (first | apply Kd.R_alloc | apply Kd.R_drewN | apply Kd.R_drew)); exact HO172.out⟩, ⟨by repeat (first | (with_reducible first | exact HB.out | apply below_alloc | apply pw_below_drewN | apply below_drew1) | exact HB.out)⟩⟩
         ·rw [if_neg c15] at H
          exact absurd H (by simp)
        ·rw [if_neg c13] at H
         have c13b0 : decide (t166 < 3) = false := decide_eq_false c13
         clear c13
         by_cases c19 : t166 = 3
         ·rw [if_pos c19] at H
          have c19b0 : (t166 == 3) = true := beq_iff_eq.mpr c19
          have c19b1 : (t166 != 3) = false := bne_eq_false_iff_eq.mpr c19
          clear c19
          by_cases c20 : 0 ≤ t168
          ·rw [if_pos c20] at H
           have c20b0 := eq_true c20
           have c20b1 : decide (0 ≤ t168) = true := decide_eq_true c20
           clear c20
           by_cases c21 : t168 ≤ 5
           ·rw [if_pos c21] at H
            have c21b0 := eq_true c21
            have c21b1 : decide (t168 ≤ 5) = true := decide_eq_true c21
            clear c21
            replace H := Option.bind_eq_some_iff.mp H
            obtain ⟨⟨t173, t174⟩, A220, H⟩ := H
            replace H : (if x3_1.length < 8796093022208 then (letterlocklaw4_grown.l0 kj5 l0 (x3_1 ++ [t173]) (wrap64 (x4_1 + 1))) else (none)) = some r := H
            have A22 := Aside0.mk A220
            clear A220
            by_cases c23 : x3_1.length < 8796093022208
            ·rw [if_pos c23] at H
             have LMc23 := Aside0.mk c23
             clear c23
             obtain ⟨y175, hy175⟩ : ∃ y_ : List ByteArray, y_ = (x3_1 ++ [t173]) := ⟨_, rfl⟩
             replace H : (letterlocklaw4_grown.l0 kj5 l0 y175 (wrap64 (x4_1 + 1))) = some r := by first | (rw [hy175]; with_reducible exact H) | (have H2_ := (Option.bind_some _ _).symm.trans H; rw [hy175]; with_reducible exact H2_) | (have H2_ := (Option.bind_some _ _).symm.trans H; with_reducible exact H2_) | with_reducible exact H | (rw [hy175]; exact H) | exact H
             have Ny175 := Aside0.mk hy175
             clear hy175
             have H' := Aside0.mk H
             clear H
             obtain ⟨Ao24, co24, eo24⟩ := Kd.R_slice HO_3.out
             subst eo24
             have p165 : 0 ≤ (x4_1 : Int) := of_decide_eq_true (by first | (with_reducible assumption) | assumption)
             have q165 : x4_1 < (l0.length : Int) := of_decide_eq_true (by first | (with_reducible assumption) | assumption)
             obtain ⟨ad165, e165, hx165_0⟩ := Kd.at_int HR0.out x4_1 p165 q165
             cases e165
             replace hx165_0 := (HB.out.cell (World.block_lt_of_cell? w _ hx165_0)).trans hx165_0
             replace p165 := eq_true p165
             replace q165 := eq_true q165
             go_wp2_with (first | ((with_reducible refine gate_callee (f := 25) rfl ?_); refine goesL_ (some 33) rfl rfl Try.func25 (by kernel_rfl) rfl #[.int .i64 (rd l0 x4_1), .int .i64 10] rfl (by (try simp only [List.map_toArray, List.map_cons, List.map_nil]); first | done | rfl | (simp only [List.length_drop, List.length_take]; rfl)) ?_; (with_reducible refine (letterlocklaw4_pick.calls (rd l0 x4_1) 10 t166 _ A11.out).mono ?_); rintro e w' ⟨rfl, ⟨nd, rfl⟩⟩; refine ⟨_, rfl, ?_⟩; have p167 : 0 ≤ (x4_1 : Int) := of_decide_eq_true (by first | (with_reducible assumption) | assumption); have q167 : x4_1 < (l0.length : Int) := of_decide_eq_true (by first | (with_reducible assumption) | assumption); obtain ⟨ad167, e167, hx167_0⟩ := Kd.at_int HR0.out x4_1 p167 q167; obtain rfl : ad165 = ad167 := (by injection e167); replace hx167_0 := (HB.out.cell (World.block_lt_of_cell? w _ hx167_0)).trans hx167_0; replace p167 := eq_true p167; replace q167 := eq_true q167) | ((with_reducible refine gate_callee (f := 25) rfl ?_); refine goesL_ (some 39) rfl rfl Try.func25 (by kernel_rfl) rfl #[.int .i64 (wrap64 (Int.tdiv (rd l0 x4_1) 10)), .int .i64 5] rfl (by (try simp only [List.map_toArray, List.map_cons, List.map_nil]); first | done | rfl | (simp only [List.length_drop, List.length_take]; rfl)) ?_; (with_reducible refine (letterlocklaw4_pick.calls (wrap64 (Int.tdiv (rd l0 x4_1) 10)) 5 t168 _ A12.out).mono ?_); rintro e w' ⟨rfl, ⟨nd, rfl⟩⟩; refine ⟨_, rfl, ?_⟩) | ((with_reducible refine gate_callee (f := 45) rfl ?_); refine goesL_ (some 55) rfl rfl Try.func45 (by kernel_rfl) rfl #[.string ((⟨#[97, 98, 99, 100, 101]⟩ : ByteArray).extract 0 (t168 : Int).toNat)] rfl (by (try simp only [List.map_toArray, List.map_cons, List.map_nil]); first | done | rfl | (simp only [List.length_drop, List.length_take]; rfl)) ?_; (with_reducible refine (letterlockref3_OfText.calls kj5 ((⟨#[97, 98, 99, 100, 101]⟩ : ByteArray).extract 0 (t168 : Int).toNat) t173 t174 _ A22.out).mono ?_); rintro e w25 ⟨rfl, hb⟩; refine ⟨_, rfl, ?_⟩; have n0_ := Aside0.mk (Kd.R_below (by (with_reducible repeat (first | apply Kd.R_alloc | apply Kd.R_drewN | apply Kd.R_drew)); exact HO_3.out) hb); have n1_ := Aside0.mk (below_step (by repeat (first | (with_reducible first | exact HB.out | apply below_alloc | apply pw_below_drewN | apply below_drew1) | exact HB.out)) hb); clear HO_3; clear HB; have HO_3 := n0_; have HB := n1_; clear n0_ n1_; (try clear hb); (try clear hb2); (try clear hk); (try clear hi)) | ((with_reducible refine gate_builtin (b := .append) (xs := #[.tmp 58, .tmp 60]) rfl ?_); at_builtin; refine Kd.R_append Kd.string (w0 := w) w.heap.size rfl (.tmp 58) (.tmp 60) 31 9 (.string ⟨#[]⟩) 16 rfl Try.underlying31 info9 rfl (by decide) (by omega) (.slice Ao24 x3_1.length co24) x3_1 t173 [.string t173] (fun _ => True) (fun _ => False) rfl rfl ?aP (fun _ hk => hk.elim) ?aF ?aO ?aB ?aS ?aL ?_; (case aP => exact rfl); (case aB => exact (by repeat (first | (with_reducible first | exact HB.out | apply below_alloc | apply pw_below_drewN | apply below_drew1) | exact HB.out))); (case aF => exact (fun _ _ => trivial)); (case aO => exact (by (with_reducible repeat (first | apply Kd.R_alloc | apply Kd.R_drewN | apply Kd.R_drew)); exact HO_3.out)); (case aS => exact (below_size (by repeat (first | (with_reducible first | exact HB.out | apply below_alloc | apply pw_below_drewN | apply below_drew1) | exact HB.out)))); (case aL => have := LMc23.out; omega); intro v176 w26 ho hb hg hat; rw [← Ny175.out] at ho; have n0_ := Aside0.mk (hb); have n1_ := Aside0.mk (ho); clear HB; clear HO_3; have HB := n0_; have HO177 := n1_; clear n0_ n1_; clear ho hb hg hat))
             go_roundg kj5
             case measure => have := HK1.out; have := HJ5.out; omega
             case rel => exact ⟨(y175), (wrap64 (x4_1 + 1)), (by first | rfl | (simp; done) | (simp [*]; done)), H', ⟨by have := HK1.out; have := HJ5.out; omega⟩, ⟨by (with_reducible repeat (first | apply Kd.R_alloc | apply Kd.R_drewN | apply Kd.R_drew)); exact HO177.out⟩, ⟨by repeat (first | (with_reducible first | exact HB.out | apply below_alloc | apply pw_below_drewN | apply below_drew1) | exact HB.out)⟩⟩
            ·rw [if_neg c23] at H
             exact absurd H (by simp)
           ·rw [if_neg c21] at H
            exact absurd H (by simp)
          ·rw [if_neg c20] at H
           exact absurd H (by simp)
         ·rw [if_neg c19] at H
          have c19b0 : (t166 == 3) = false := beq_eq_false_iff_ne.mpr c19
          have c19b1 : (t166 != 3) = true := bne_iff_ne.mpr c19
          by_cases c27 : t166 = 4
          ·rw [if_pos c27] at H
           have c27b0 : (t166 == 4) = true := beq_iff_eq.mpr c27
           have c27b1 : (t166 != 4) = false := bne_eq_false_iff_eq.mpr c27
           clear c27
           obtain ⟨ji28, hji28⟩ : ∃ j_ : Int, (wrap64 ((x3_1.length : Int) - 1)) = j_ := ⟨_, rfl⟩
           replace H : (if 0 ≤ (ji28) then (if (ji28) < (x3_1.length : Int) then ((letterlockref3_OfHash.f kj5 (rdOf ByteArray.empty x3_1 (ji28))).bind fun bt179 => (if bt179.2 = 0 then (letterlocklaw4_grown.l0 kj5 l0 (x3_1.set ((ji28) : Int).toNat bt179.1) (wrap64 (x4_1 + 1))) else (letterlocklaw4_grown.l0 kj5 l0 x3_1 (wrap64 (x4_1 + 1))))) else (none)) else (none)) = some r := by first | (rw [hji28] at H; exact H) | (simp only [hji28] at H ⊢; exact H)
           (try rw [hji28] at A11)
           (try rw [hji28] at A12)
           have hji28w : (IntKind.i64.wrap ((x3_1.length : Int) - 1)) = ji28 := (i64_w _).trans hji28
           by_cases c29 : 0 ≤ (ji28)
           ·rw [if_pos c29] at H
            have c29b0 : decide (0 ≤ (ji28)) = true := decide_eq_true c29
            clear c29
            by_cases c30 : (ji28) < (x3_1.length : Int)
            ·rw [if_pos c30] at H
             have c30b0 : decide ((ji28) < (x3_1.length : Int)) = true := decide_eq_true c30
             clear c30
             replace H := Option.bind_eq_some_iff.mp H
             obtain ⟨⟨t179, t180⟩, A310, H⟩ := H
             replace H : (if t180 = 0 then (letterlocklaw4_grown.l0 kj5 l0 (x3_1.set ((ji28) : Int).toNat t179) (wrap64 (x4_1 + 1))) else (letterlocklaw4_grown.l0 kj5 l0 x3_1 (wrap64 (x4_1 + 1)))) = some r := H
             have A31 := Aside0.mk A310
             clear A310
             by_cases c32 : t180 = 0
             ·rw [if_pos c32] at H
              have c32b0 : (t180 == 0) = true := beq_iff_eq.mpr c32
              have c32b1 : (t180 != 0) = false := bne_eq_false_iff_eq.mpr c32
              clear c32
              obtain ⟨y181, hy181⟩ : ∃ y_ : List ByteArray, y_ = (x3_1.set ((ji28) : Int).toNat t179) := ⟨_, rfl⟩
              replace H : (letterlocklaw4_grown.l0 kj5 l0 y181 (wrap64 (x4_1 + 1))) = some r := by first | (rw [hy181]; with_reducible exact H) | (have H2_ := (Option.bind_some _ _).symm.trans H; rw [hy181]; with_reducible exact H2_) | (have H2_ := (Option.bind_some _ _).symm.trans H; with_reducible exact H2_) | with_reducible exact H | (rw [hy181]; exact H) | exact H
              have Ny181 := Aside0.mk hy181
              clear hy181
              have H' := Aside0.mk H
              clear H
              obtain ⟨Ao34, co34, eo34⟩ := Kd.R_slice HO_3.out
              subst eo34
              have p165 : 0 ≤ (x4_1 : Int) := of_decide_eq_true (by first | (with_reducible assumption) | assumption)
              have q165 : x4_1 < (l0.length : Int) := of_decide_eq_true (by first | (with_reducible assumption) | assumption)
              obtain ⟨ad165, e165, hx165_0⟩ := Kd.at_int HR0.out x4_1 p165 q165
              cases e165
              replace hx165_0 := (HB.out.cell (World.block_lt_of_cell? w _ hx165_0)).trans hx165_0
              replace p165 := eq_true p165
              replace q165 := eq_true q165
              go_wp2_with (first | ((with_reducible refine gate_callee (f := 25) rfl ?_); refine goesL_ (some 33) rfl rfl Try.func25 (by kernel_rfl) rfl #[.int .i64 (rd l0 x4_1), .int .i64 10] rfl (by (try simp only [List.map_toArray, List.map_cons, List.map_nil]); first | done | rfl | (simp only [List.length_drop, List.length_take]; rfl)) ?_; (with_reducible refine (letterlocklaw4_pick.calls (rd l0 x4_1) 10 t166 _ A11.out).mono ?_); rintro e w' ⟨rfl, ⟨nd, rfl⟩⟩; refine ⟨_, rfl, ?_⟩; (try (rw [drewN_self wc]; generalize hq_ : World.drewN wc _ = wc; have n0_ : Aside0 (Kd.R Kd.string 9 wc w.heap.size (fun _ => True) (.slice Ao34 x3_1.length co34) x3_1) := ⟨by rw [← hq_]; exact (by (with_reducible repeat (first | apply Kd.R_alloc | apply Kd.R_drewN | apply Kd.R_drew)); exact HO_3.out)⟩; have n1_ : Aside0 (Below w.heap.size w wc) := ⟨by rw [← hq_]; exact (by repeat (first | (with_reducible first | exact HB.out | apply below_alloc | apply pw_below_drewN | apply below_drew1) | exact HB.out))⟩; clear HO_3 HB hq_; have HO_3 := n0_; have HB := n1_; clear n0_ n1_)); have p167 : 0 ≤ (x4_1 : Int) := of_decide_eq_true (by first | (with_reducible assumption) | assumption); have q167 : x4_1 < (l0.length : Int) := of_decide_eq_true (by first | (with_reducible assumption) | assumption); obtain ⟨ad167, e167, hx167_0⟩ := Kd.at_int HR0.out x4_1 p167 q167; obtain rfl : ad165 = ad167 := (by injection e167); replace hx167_0 := (HB.out.cell (World.block_lt_of_cell? w _ hx167_0)).trans hx167_0; replace p167 := eq_true p167; replace q167 := eq_true q167) | ((with_reducible refine gate_callee (f := 25) rfl ?_); refine goesL_ (some 39) rfl rfl Try.func25 (by kernel_rfl) rfl #[.int .i64 (wrap64 (Int.tdiv (rd l0 x4_1) 10)), .int .i64 5] rfl (by (try simp only [List.map_toArray, List.map_cons, List.map_nil]); first | done | rfl | (simp only [List.length_drop, List.length_take]; rfl)) ?_; (with_reducible refine (letterlocklaw4_pick.calls (wrap64 (Int.tdiv (rd l0 x4_1) 10)) 5 t168 _ A12.out).mono ?_); rintro e w' ⟨rfl, ⟨nd, rfl⟩⟩; refine ⟨_, rfl, ?_⟩; (try (rw [drewN_self wc]; generalize hq_ : World.drewN wc _ = wc; have n0_ : Aside0 (Kd.R Kd.string 9 wc w.heap.size (fun _ => True) (.slice Ao34 x3_1.length co34) x3_1) := ⟨by rw [← hq_]; exact (by (with_reducible repeat (first | apply Kd.R_alloc | apply Kd.R_drewN | apply Kd.R_drew)); exact HO_3.out)⟩; have n1_ : Aside0 (Below w.heap.size w wc) := ⟨by rw [← hq_]; exact (by repeat (first | (with_reducible first | exact HB.out | apply below_alloc | apply pw_below_drewN | apply below_drew1) | exact HB.out))⟩; clear HO_3 HB hq_; have HO_3 := n0_; have HB := n1_; clear n0_ n1_)); have p178 : 0 ≤ ((ji28) : Int) := of_decide_eq_true (by first | (with_reducible assumption) | assumption); have q178 : (ji28) < (x3_1.length : Int) := of_decide_eq_true (by first | (with_reducible assumption) | assumption); obtain ⟨ad178, e178, hx178_0⟩ := Kd.at_string (Kd.R_reads' HO_3.out).2.2 (ji28) p178 q178; cases e178; replace p178 := eq_true p178; replace q178 := eq_true q178) | ((with_reducible refine gate_callee (f := 46) rfl ?_); refine goesL_ (some 71) rfl rfl Try.func46 (by kernel_rfl) rfl #[.string (rdOf ByteArray.empty x3_1 (ji28))] rfl (by (try simp only [List.map_toArray, List.map_cons, List.map_nil]); first | done | (simp only [hji28]; rfl) | rfl | (simp only [List.length_drop, List.length_take]; rfl)) ?_; (with_reducible refine (letterlockref3_OfHash.calls kj5 (rdOf ByteArray.empty x3_1 (ji28)) t179 t180 _ A31.out).mono ?_); rintro e w35 ⟨rfl, hb⟩; refine ⟨_, rfl, ?_⟩; have n0_ := Aside0.mk (Kd.R_below (by (with_reducible repeat (first | apply Kd.R_alloc | apply Kd.R_drewN | apply Kd.R_drew)); exact HO_3.out) hb); have n1_ := Aside0.mk (below_step (by repeat (first | (with_reducible first | exact HB.out | apply below_alloc | apply pw_below_drewN | apply below_drew1) | exact HB.out)) hb); clear HO_3; clear HB; have HO_3 := n0_; have HB := n1_; clear n0_ n1_; (try clear hb); (try clear hb2); (try clear hk); (try clear hi); have p33 : 0 ≤ ((ji28) : Int) := of_decide_eq_true (by first | (with_reducible assumption) | assumption); have q33 : ((ji28) : Int) < ((x3_1.length : Int) : Int) := of_decide_eq_true (by first | (with_reducible assumption) | assumption); obtain ⟨go33, co33, eo33, gb33, gl33, cl33, HG33⟩ := Kd.R_form HO_3.out (by omega); (first | cases eo33 | (injection eo33 with ea_ en_ ec_; (first | subst ea_ | (injection ea_ with ea_; subst ea_)); subst ec_; clear en_)); have GB33 := Aside0.mk gb33; have GG33 := Aside0.mk HG33; clear gb33 gl33 HG33; (first | simp only [add_plain] at hx178_0 | skip); obtain ⟨hx33_0, hf33_0⟩ := Kd.R_celln (⟨#[]⟩ : ByteArray) HO_3.out ((ji28) : Int) p33 q33; replace p33 := eq_true p33; replace q33 := eq_true q33; obtain ⟨hy36_, hz36_⟩ := Kd.R_celln (⟨#[]⟩ : ByteArray) HO_3.out ((ji28) : Int) (of_decide_eq_true (by first | (with_reducible assumption) | assumption)) (of_decide_eq_true (by first | (with_reducible assumption) | assumption)); have HP36 := Kd.R_putg HO_3.out ((ji28) : Int) t179) | ((with_reducible refine gate_store (t := 9) (p := 80) rfl ?_); refine store_event (t := 9) (p := 80) (v := ?vo_w37) (w1 := (w35.setCell ⟨go33, ((ji28) : Int).toNat, none⟩ (.string t179))) ?hg ?ho ?hn ?hr ?_; (case ho => rfl); (case hg => rfl); (case hn => rfl); (case hr => first | (go_simp; done) | (go_simp; rfl)); intro w37 hw; have hg : w35.grownBy w37 (some go33) := (by rw [hw]; exact HP36.2); have hp_ : Kd.R Kd.string 9 w37 w.heap.size (fun _ => True) (.slice (some ⟨go33, 0, none⟩) x3_1.length co34) y181 := (by rw [hw, Ny181.out]; exact HP36.1); clear HP36; have n0_ := Aside0.mk (hp_); have n1_ := Aside0.mk ((by rw [hw]; exact below_set (HB.out) GB33.out : Below w.heap.size w w37)); clear HO_3; clear HB; have HO_3 := n0_; have HB := n1_; clear n0_ n1_; clear hg hw hp_))
              go_roundg kj5
              case measure => have := HK1.out; have := HJ5.out; omega
              case rel => exact ⟨(y181), (wrap64 (x4_1 + 1)), (by first | rfl | (simp; done) | (simp [*]; done)), H', ⟨by have := HK1.out; have := HJ5.out; omega⟩, ⟨by (with_reducible repeat (first | apply Kd.R_alloc | apply Kd.R_drewN | apply Kd.R_drew)); exact HO_3.out⟩, ⟨by repeat (first | (with_reducible first | exact HB.out | apply below_alloc | apply pw_below_drewN | apply below_drew1) | exact HB.out)⟩⟩
             ·rw [if_neg c32] at H
              have c32b0 : (t180 == 0) = false := beq_eq_false_iff_ne.mpr c32
              have c32b1 : (t180 != 0) = true := bne_iff_ne.mpr c32
              have H' := Aside0.mk H
              clear H
              obtain ⟨Ao38, co38, eo38⟩ := Kd.R_slice HO_3.out
              subst eo38
              have p165 : 0 ≤ (x4_1 : Int) := of_decide_eq_true (by first | (with_reducible assumption) | assumption)
              have q165 : x4_1 < (l0.length : Int) := of_decide_eq_true (by first | (with_reducible assumption) | assumption)
              obtain ⟨ad165, e165, hx165_0⟩ := Kd.at_int HR0.out x4_1 p165 q165
              cases e165
              replace hx165_0 := (HB.out.cell (World.block_lt_of_cell? w _ hx165_0)).trans hx165_0
              replace p165 := eq_true p165
              replace q165 := eq_true q165
              go_wp2_with (first | ((with_reducible refine gate_callee (f := 25) rfl ?_); refine goesL_ (some 33) rfl rfl Try.func25 (by kernel_rfl) rfl #[.int .i64 (rd l0 x4_1), .int .i64 10] rfl (by (try simp only [List.map_toArray, List.map_cons, List.map_nil]); first | done | rfl | (simp only [List.length_drop, List.length_take]; rfl)) ?_; (with_reducible refine (letterlocklaw4_pick.calls (rd l0 x4_1) 10 t166 _ A11.out).mono ?_); rintro e w' ⟨rfl, ⟨nd, rfl⟩⟩; refine ⟨_, rfl, ?_⟩; have p167 : 0 ≤ (x4_1 : Int) := of_decide_eq_true (by first | (with_reducible assumption) | assumption); have q167 : x4_1 < (l0.length : Int) := of_decide_eq_true (by first | (with_reducible assumption) | assumption); obtain ⟨ad167, e167, hx167_0⟩ := Kd.at_int HR0.out x4_1 p167 q167; obtain rfl : ad165 = ad167 := (by injection e167); replace hx167_0 := (HB.out.cell (World.block_lt_of_cell? w _ hx167_0)).trans hx167_0; replace p167 := eq_true p167; replace q167 := eq_true q167) | ((with_reducible refine gate_callee (f := 25) rfl ?_); refine goesL_ (some 39) rfl rfl Try.func25 (by kernel_rfl) rfl #[.int .i64 (wrap64 (Int.tdiv (rd l0 x4_1) 10)), .int .i64 5] rfl (by (try simp only [List.map_toArray, List.map_cons, List.map_nil]); first | done | rfl | (simp only [List.length_drop, List.length_take]; rfl)) ?_; (with_reducible refine (letterlocklaw4_pick.calls (wrap64 (Int.tdiv (rd l0 x4_1) 10)) 5 t168 _ A12.out).mono ?_); rintro e w' ⟨rfl, ⟨nd, rfl⟩⟩; refine ⟨_, rfl, ?_⟩; have p178 : 0 ≤ ((ji28) : Int) := of_decide_eq_true (by first | (with_reducible assumption) | assumption); have q178 : (ji28) < (x3_1.length : Int) := of_decide_eq_true (by first | (with_reducible assumption) | assumption); obtain ⟨ad178, e178, hx178_0⟩ := Kd.at_string (Kd.R_reads' HO_3.out).2.2 (ji28) p178 q178; cases e178; replace p178 := eq_true p178; replace q178 := eq_true q178) | ((with_reducible refine gate_callee (f := 46) rfl ?_); refine goesL_ (some 71) rfl rfl Try.func46 (by kernel_rfl) rfl #[.string (rdOf ByteArray.empty x3_1 (ji28))] rfl (by (try simp only [List.map_toArray, List.map_cons, List.map_nil]); first | done | (simp only [hji28]; rfl) | rfl | (simp only [List.length_drop, List.length_take]; rfl)) ?_; (with_reducible refine (letterlockref3_OfHash.calls kj5 (rdOf ByteArray.empty x3_1 (ji28)) t179 t180 _ A31.out).mono ?_); rintro e w39 ⟨rfl, hb⟩; refine ⟨_, rfl, ?_⟩; have n0_ := Aside0.mk (Kd.R_below (by (with_reducible repeat (first | apply Kd.R_alloc | apply Kd.R_drewN | apply Kd.R_drew)); exact HO_3.out) hb); have n1_ := Aside0.mk (below_step (by repeat (first | (with_reducible first | exact HB.out | apply below_alloc | apply pw_below_drewN | apply below_drew1) | exact HB.out)) hb); clear HO_3; clear HB; have HO_3 := n0_; have HB := n1_; clear n0_ n1_; (try clear hb); (try clear hb2); (try clear hk); (try clear hi)))
              go_roundg kj5
              case measure => have := HK1.out; have := HJ5.out; omega
              case rel => exact ⟨(x3_1), (wrap64 (x4_1 + 1)), (by first | rfl | (simp; done) | (simp [*]; done)), H', ⟨by have := HK1.out; have := HJ5.out; omega⟩, ⟨by (with_reducible repeat (first | apply Kd.R_alloc | apply Kd.R_drewN | apply Kd.R_drew)); exact HO_3.out⟩, ⟨by repeat (first | (with_reducible first | exact HB.out | apply below_alloc | apply pw_below_drewN | apply below_drew1) | exact HB.out)⟩⟩
            ·rw [if_neg c30] at H
             exact absurd H (by simp)
           ·rw [if_neg c29] at H
            exact absurd H (by simp)
          ·rw [if_neg c27] at H
           have c27b0 : (t166 == 4) = false := beq_eq_false_iff_ne.mpr c27
           have c27b1 : (t166 != 4) = true := bne_iff_ne.mpr c27
           by_cases c40 : t166 = 5
           ·rw [if_pos c40] at H
            have c40b0 : (t166 == 5) = true := beq_iff_eq.mpr c40
            have c40b1 : (t166 != 5) = false := bne_eq_false_iff_eq.mpr c40
            clear c40
            obtain ⟨ji41, hji41⟩ : ∃ j_ : Int, (wrap64 ((x3_1.length : Int) - 1)) = j_ := ⟨_, rfl⟩
            replace H : (if 0 ≤ (ji41) then (if (ji41) < (x3_1.length : Int) then ((letterlockref3_OfPublic.f kj5 (rdOf ByteArray.empty x3_1 (ji41))).bind fun bt183 => (if bt183.2 = 0 then (letterlocklaw4_grown.l0 kj5 l0 (x3_1.set ((ji41) : Int).toNat bt183.1) (wrap64 (x4_1 + 1))) else (letterlocklaw4_grown.l0 kj5 l0 x3_1 (wrap64 (x4_1 + 1))))) else (none)) else (none)) = some r := by first | (rw [hji41] at H; exact H) | (simp only [hji41] at H ⊢; exact H)
            (try rw [hji41] at A11)
            (try rw [hji41] at A12)
            have hji41w : (IntKind.i64.wrap ((x3_1.length : Int) - 1)) = ji41 := (i64_w _).trans hji41
            by_cases c42 : 0 ≤ (ji41)
            ·rw [if_pos c42] at H
             have c42b0 : decide (0 ≤ (ji41)) = true := decide_eq_true c42
             clear c42
             by_cases c43 : (ji41) < (x3_1.length : Int)
             ·rw [if_pos c43] at H
              have c43b0 : decide ((ji41) < (x3_1.length : Int)) = true := decide_eq_true c43
              clear c43
              replace H := Option.bind_eq_some_iff.mp H
              obtain ⟨⟨t183, t184⟩, A440, H⟩ := H
              replace H : (if t184 = 0 then (letterlocklaw4_grown.l0 kj5 l0 (x3_1.set ((ji41) : Int).toNat t183) (wrap64 (x4_1 + 1))) else (letterlocklaw4_grown.l0 kj5 l0 x3_1 (wrap64 (x4_1 + 1)))) = some r := H
              have A44 := Aside0.mk A440
              clear A440
              by_cases c45 : t184 = 0
              ·rw [if_pos c45] at H
               have c45b0 : (t184 == 0) = true := beq_iff_eq.mpr c45
               have c45b1 : (t184 != 0) = false := bne_eq_false_iff_eq.mpr c45
               clear c45
               obtain ⟨y185, hy185⟩ : ∃ y_ : List ByteArray, y_ = (x3_1.set ((ji41) : Int).toNat t183) := ⟨_, rfl⟩
               replace H : (letterlocklaw4_grown.l0 kj5 l0 y185 (wrap64 (x4_1 + 1))) = some r := by first | (rw [hy185]; with_reducible exact H) | (have H2_ := (Option.bind_some _ _).symm.trans H; rw [hy185]; with_reducible exact H2_) | (have H2_ := (Option.bind_some _ _).symm.trans H; with_reducible exact H2_) | with_reducible exact H | (rw [hy185]; exact H) | exact H
               have Ny185 := Aside0.mk hy185
               clear hy185
               have H' := Aside0.mk H
               clear H
               obtain ⟨Ao47, co47, eo47⟩ := Kd.R_slice HO_3.out
               subst eo47
               have p165 : 0 ≤ (x4_1 : Int) := of_decide_eq_true (by first | (with_reducible assumption) | assumption)
               have q165 : x4_1 < (l0.length : Int) := of_decide_eq_true (by first | (with_reducible assumption) | assumption)
               obtain ⟨ad165, e165, hx165_0⟩ := Kd.at_int HR0.out x4_1 p165 q165
               cases e165
               replace hx165_0 := (HB.out.cell (World.block_lt_of_cell? w _ hx165_0)).trans hx165_0
               replace p165 := eq_true p165
               replace q165 := eq_true q165
               go_wp2_with (first | ((with_reducible refine gate_callee (f := 25) rfl ?_); refine goesL_ (some 33) rfl rfl Try.func25 (by kernel_rfl) rfl #[.int .i64 (rd l0 x4_1), .int .i64 10] rfl (by (try simp only [List.map_toArray, List.map_cons, List.map_nil]); first | done | rfl | (simp only [List.length_drop, List.length_take]; rfl)) ?_; (with_reducible refine (letterlocklaw4_pick.calls (rd l0 x4_1) 10 t166 _ A11.out).mono ?_); rintro e w' ⟨rfl, ⟨nd, rfl⟩⟩; refine ⟨_, rfl, ?_⟩; (try (rw [drewN_self wc]; generalize hq_ : World.drewN wc _ = wc; have n0_ : Aside0 (Kd.R Kd.string 9 wc w.heap.size (fun _ => True) (.slice Ao47 x3_1.length co47) x3_1) := ⟨by rw [← hq_]; exact (by (with_reducible repeat (first | apply Kd.R_alloc | apply Kd.R_drewN | apply Kd.R_drew)); exact HO_3.out)⟩; have n1_ : Aside0 (Below w.heap.size w wc) := ⟨by rw [← hq_]; exact (by repeat (first | (with_reducible first | exact HB.out | apply below_alloc | apply pw_below_drewN | apply below_drew1) | exact HB.out))⟩; clear HO_3 HB hq_; have HO_3 := n0_; have HB := n1_; clear n0_ n1_)); have p167 : 0 ≤ (x4_1 : Int) := of_decide_eq_true (by first | (with_reducible assumption) | assumption); have q167 : x4_1 < (l0.length : Int) := of_decide_eq_true (by first | (with_reducible assumption) | assumption); obtain ⟨ad167, e167, hx167_0⟩ := Kd.at_int HR0.out x4_1 p167 q167; obtain rfl : ad165 = ad167 := (by injection e167); replace hx167_0 := (HB.out.cell (World.block_lt_of_cell? w _ hx167_0)).trans hx167_0; replace p167 := eq_true p167; replace q167 := eq_true q167) | ((with_reducible refine gate_callee (f := 25) rfl ?_); refine goesL_ (some 39) rfl rfl Try.func25 (by kernel_rfl) rfl #[.int .i64 (wrap64 (Int.tdiv (rd l0 x4_1) 10)), .int .i64 5] rfl (by (try simp only [List.map_toArray, List.map_cons, List.map_nil]); first | done | rfl | (simp only [List.length_drop, List.length_take]; rfl)) ?_; (with_reducible refine (letterlocklaw4_pick.calls (wrap64 (Int.tdiv (rd l0 x4_1) 10)) 5 t168 _ A12.out).mono ?_); rintro e w' ⟨rfl, ⟨nd, rfl⟩⟩; refine ⟨_, rfl, ?_⟩; (try (rw [drewN_self wc]; generalize hq_ : World.drewN wc _ = wc; have n0_ : Aside0 (Kd.R Kd.string 9 wc w.heap.size (fun _ => True) (.slice Ao47 x3_1.length co47) x3_1) := ⟨by rw [← hq_]; exact (by (with_reducible repeat (first | apply Kd.R_alloc | apply Kd.R_drewN | apply Kd.R_drew)); exact HO_3.out)⟩; have n1_ : Aside0 (Below w.heap.size w wc) := ⟨by rw [← hq_]; exact (by repeat (first | (with_reducible first | exact HB.out | apply below_alloc | apply pw_below_drewN | apply below_drew1) | exact HB.out))⟩; clear HO_3 HB hq_; have HO_3 := n0_; have HB := n1_; clear n0_ n1_)); have p182 : 0 ≤ ((ji41) : Int) := of_decide_eq_true (by first | (with_reducible assumption) | assumption); have q182 : (ji41) < (x3_1.length : Int) := of_decide_eq_true (by first | (with_reducible assumption) | assumption); obtain ⟨ad182, e182, hx182_0⟩ := Kd.at_string (Kd.R_reads' HO_3.out).2.2 (ji41) p182 q182; cases e182; replace p182 := eq_true p182; replace q182 := eq_true q182) | ((with_reducible refine gate_callee (f := 15) rfl ?_); refine goesL_ (some 90) rfl rfl Try.func15 (by kernel_rfl) rfl #[.string (rdOf ByteArray.empty x3_1 (ji41))] rfl (by (try simp only [List.map_toArray, List.map_cons, List.map_nil]); first | done | (simp only [hji41]; rfl) | rfl | (simp only [List.length_drop, List.length_take]; rfl)) ?_; (with_reducible refine (letterlockref3_OfPublic.calls kj5 (rdOf ByteArray.empty x3_1 (ji41)) t183 t184 _ A44.out).mono ?_); rintro e w48 ⟨rfl, hb⟩; refine ⟨_, rfl, ?_⟩; have n0_ := Aside0.mk (Kd.R_below (by (with_reducible repeat (first | apply Kd.R_alloc | apply Kd.R_drewN | apply Kd.R_drew)); exact HO_3.out) hb); have n1_ := Aside0.mk (below_step (by repeat (first | (with_reducible first | exact HB.out | apply below_alloc | apply pw_below_drewN | apply below_drew1) | exact HB.out)) hb); clear HO_3; clear HB; have HO_3 := n0_; have HB := n1_; clear n0_ n1_; (try clear hb); (try clear hb2); (try clear hk); (try clear hi); have p46 : 0 ≤ ((ji41) : Int) := of_decide_eq_true (by first | (with_reducible assumption) | assumption); have q46 : ((ji41) : Int) < ((x3_1.length : Int) : Int) := of_decide_eq_true (by first | (with_reducible assumption) | assumption); obtain ⟨go46, co46, eo46, gb46, gl46, cl46, HG46⟩ := Kd.R_form HO_3.out (by omega); (first | cases eo46 | (injection eo46 with ea_ en_ ec_; (first | subst ea_ | (injection ea_ with ea_; subst ea_)); subst ec_; clear en_)); have GB46 := Aside0.mk gb46; have GG46 := Aside0.mk HG46; clear gb46 gl46 HG46; (first | simp only [add_plain] at hx182_0 | skip); obtain ⟨hx46_0, hf46_0⟩ := Kd.R_celln (⟨#[]⟩ : ByteArray) HO_3.out ((ji41) : Int) p46 q46; replace p46 := eq_true p46; replace q46 := eq_true q46; obtain ⟨hy49_, hz49_⟩ := Kd.R_celln (⟨#[]⟩ : ByteArray) HO_3.out ((ji41) : Int) (of_decide_eq_true (by first | (with_reducible assumption) | assumption)) (of_decide_eq_true (by first | (with_reducible assumption) | assumption)); have HP49 := Kd.R_putg HO_3.out ((ji41) : Int) t183) | ((with_reducible refine gate_store (t := 9) (p := 99) rfl ?_); refine store_event (t := 9) (p := 99) (v := ?vo_w50) (w1 := (w48.setCell ⟨go46, ((ji41) : Int).toNat, none⟩ (.string t183))) ?hg ?ho ?hn ?hr ?_; (case ho => rfl); (case hg => rfl); (case hn => rfl); (case hr => first | (go_simp; done) | (go_simp; rfl)); intro w50 hw; have hg : w48.grownBy w50 (some go46) := (by rw [hw]; exact HP49.2); have hp_ : Kd.R Kd.string 9 w50 w.heap.size (fun _ => True) (.slice (some ⟨go46, 0, none⟩) x3_1.length co47) y185 := (by rw [hw, Ny185.out]; exact HP49.1); clear HP49; have n0_ := Aside0.mk (hp_); have n1_ := Aside0.mk ((by rw [hw]; exact below_set (HB.out) GB46.out : Below w.heap.size w w50)); clear HO_3; clear HB; have HO_3 := n0_; have HB := n1_; clear n0_ n1_; clear hg hw hp_))
               go_roundg kj5
               case measure => have := HK1.out; have := HJ5.out; omega
               case rel => exact ⟨(y185), (wrap64 (x4_1 + 1)), (by first | rfl | (simp; done) | (simp [*]; done)), H', ⟨by have := HK1.out; have := HJ5.out; omega⟩, ⟨by (with_reducible repeat (first | apply Kd.R_alloc | apply Kd.R_drewN | apply Kd.R_drew)); exact HO_3.out⟩, ⟨by repeat (first | (with_reducible first | exact HB.out | apply below_alloc | apply pw_below_drewN | apply below_drew1) | exact HB.out)⟩⟩
              ·rw [if_neg c45] at H
               have c45b0 : (t184 == 0) = false := beq_eq_false_iff_ne.mpr c45
               have c45b1 : (t184 != 0) = true := bne_iff_ne.mpr c45
               have H' := Aside0.mk H
               clear H
               obtain ⟨Ao51, co51, eo51⟩ := Kd.R_slice HO_3.out
               subst eo51
               have p165 : 0 ≤ (x4_1 : Int) := of_decide_eq_true (by first | (with_reducible assumption) | assumption)
               have q165 : x4_1 < (l0.length : Int) := of_decide_eq_true (by first | (with_reducible assumption) | assumption)
               obtain ⟨ad165, e165, hx165_0⟩ := Kd.at_int HR0.out x4_1 p165 q165
               cases e165
               replace hx165_0 := (HB.out.cell (World.block_lt_of_cell? w _ hx165_0)).trans hx165_0
               replace p165 := eq_true p165
               replace q165 := eq_true q165
               go_wp2_with (first | ((with_reducible refine gate_callee (f := 25) rfl ?_); refine goesL_ (some 33) rfl rfl Try.func25 (by kernel_rfl) rfl #[.int .i64 (rd l0 x4_1), .int .i64 10] rfl (by (try simp only [List.map_toArray, List.map_cons, List.map_nil]); first | done | rfl | (simp only [List.length_drop, List.length_take]; rfl)) ?_; (with_reducible refine (letterlocklaw4_pick.calls (rd l0 x4_1) 10 t166 _ A11.out).mono ?_); rintro e w' ⟨rfl, ⟨nd, rfl⟩⟩; refine ⟨_, rfl, ?_⟩; have p167 : 0 ≤ (x4_1 : Int) := of_decide_eq_true (by first | (with_reducible assumption) | assumption); have q167 : x4_1 < (l0.length : Int) := of_decide_eq_true (by first | (with_reducible assumption) | assumption); obtain ⟨ad167, e167, hx167_0⟩ := Kd.at_int HR0.out x4_1 p167 q167; obtain rfl : ad165 = ad167 := (by injection e167); replace hx167_0 := (HB.out.cell (World.block_lt_of_cell? w _ hx167_0)).trans hx167_0; replace p167 := eq_true p167; replace q167 := eq_true q167) | ((with_reducible refine gate_callee (f := 25) rfl ?_); refine goesL_ (some 39) rfl rfl Try.func25 (by kernel_rfl) rfl #[.int .i64 (wrap64 (Int.tdiv (rd l0 x4_1) 10)), .int .i64 5] rfl (by (try simp only [List.map_toArray, List.map_cons, List.map_nil]); first | done | rfl | (simp only [List.length_drop, List.length_take]; rfl)) ?_; (with_reducible refine (letterlocklaw4_pick.calls (wrap64 (Int.tdiv (rd l0 x4_1) 10)) 5 t168 _ A12.out).mono ?_); rintro e w' ⟨rfl, ⟨nd, rfl⟩⟩; refine ⟨_, rfl, ?_⟩; have p182 : 0 ≤ ((ji41) : Int) := of_decide_eq_true (by first | (with_reducible assumption) | assumption); have q182 : (ji41) < (x3_1.length : Int) := of_decide_eq_true (by first | (with_reducible assumption) | assumption); obtain ⟨ad182, e182, hx182_0⟩ := Kd.at_string (Kd.R_reads' HO_3.out).2.2 (ji41) p182 q182; cases e182; replace p182 := eq_true p182; replace q182 := eq_true q182) | ((with_reducible refine gate_callee (f := 15) rfl ?_); refine goesL_ (some 90) rfl rfl Try.func15 (by kernel_rfl) rfl #[.string (rdOf ByteArray.empty x3_1 (ji41))] rfl (by (try simp only [List.map_toArray, List.map_cons, List.map_nil]); first | done | (simp only [hji41]; rfl) | rfl | (simp only [List.length_drop, List.length_take]; rfl)) ?_; (with_reducible refine (letterlockref3_OfPublic.calls kj5 (rdOf ByteArray.empty x3_1 (ji41)) t183 t184 _ A44.out).mono ?_); rintro e w52 ⟨rfl, hb⟩; refine ⟨_, rfl, ?_⟩; have n0_ := Aside0.mk (Kd.R_below (by (with_reducible repeat (first | apply Kd.R_alloc | apply Kd.R_drewN | apply Kd.R_drew)); exact HO_3.out) hb); have n1_ := Aside0.mk (below_step (by repeat (first | (with_reducible first | exact HB.out | apply below_alloc | apply pw_below_drewN | apply below_drew1) | exact HB.out)) hb); clear HO_3; clear HB; have HO_3 := n0_; have HB := n1_; clear n0_ n1_; (try clear hb); (try clear hb2); (try clear hk); (try clear hi)))
               go_roundg kj5
               case measure => have := HK1.out; have := HJ5.out; omega
               case rel => exact ⟨(x3_1), (wrap64 (x4_1 + 1)), (by first | rfl | (simp; done) | (simp [*]; done)), H', ⟨by have := HK1.out; have := HJ5.out; omega⟩, ⟨by (with_reducible repeat (first | apply Kd.R_alloc | apply Kd.R_drewN | apply Kd.R_drew)); exact HO_3.out⟩, ⟨by repeat (first | (with_reducible first | exact HB.out | apply below_alloc | apply pw_below_drewN | apply below_drew1) | exact HB.out)⟩⟩
             ·rw [if_neg c43] at H
              exact absurd H (by simp)
            ·rw [if_neg c42] at H
             exact absurd H (by simp)
           ·rw [if_neg c40] at H
            have c40b0 : (t166 == 5) = false := beq_eq_false_iff_ne.mpr c40
            have c40b1 : (t166 != 5) = true := bne_iff_ne.mpr c40
            by_cases c53 : (x3_1.length : Int) > 1
            ·rw [if_pos c53] at H
             have c53b0 : decide (1 < (x3_1.length : Int)) = true := decide_eq_true c53
             have c53b1 : decide (1 < x3_1.length) = true := decide_eq_true (by omega)
             clear c53
             obtain ⟨ji54, hji54⟩ : ∃ j_ : Int, (wrap64 ((x3_1.length : Int) - 2)) = j_ := ⟨_, rfl⟩
             replace H : (if 0 ≤ (ji54) then (if (ji54) < (x3_1.length : Int) then (if 0 ≤ (wrap64 ((x3_1.length : Int) - 1)) then (if (wrap64 ((x3_1.length : Int) - 1)) < (x3_1.length : Int) then ((letterlocklaw4_joined.f kj5 t166 (rdOf ByteArray.empty x3_1 (ji54)) (rdOf ByteArray.empty x3_1 (wrap64 ((x3_1.length : Int) - 1)))).bind fun t188 => ((some (([] : List ByteArray) : List ByteArray)).bind fun y189 => (if (ji54) ≤ (x3_1.length : Int) then ((some (x3_1.take ((ji54) : Int).toNat : List ByteArray)).bind fun y192 => (if y189.length + y192.length < 8796093022208 then ((some (y189 ++ y192 : List ByteArray)).bind fun y196 => (if y196.length < 8796093022208 then (letterlocklaw4_grown.l0 kj5 l0 (y196 ++ [t188]) (wrap64 (x4_1 + 1))) else (none))) else (none))) else (none)))) else (none)) else (none)) else (none)) else (none)) = some r := by first | (rw [hji54] at H; exact H) | (simp only [hji54] at H ⊢; exact H)
             (try rw [hji54] at A11)
             (try rw [hji54] at A12)
             have hji54w : (IntKind.i64.wrap ((x3_1.length : Int) - 2)) = ji54 := (i64_w _).trans hji54
             by_cases c55 : 0 ≤ (ji54)
             ·rw [if_pos c55] at H
              have c55b0 : decide (0 ≤ (ji54)) = true := decide_eq_true c55
              clear c55
              by_cases c56 : (ji54) < (x3_1.length : Int)
              ·rw [if_pos c56] at H
               have c56b0 : decide ((ji54) < (x3_1.length : Int)) = true := decide_eq_true c56
               clear c56
               obtain ⟨ji57, hji57⟩ : ∃ j_ : Int, (wrap64 ((x3_1.length : Int) - 1)) = j_ := ⟨_, rfl⟩
               replace H : (if 0 ≤ (ji57) then (if (ji57) < (x3_1.length : Int) then ((letterlocklaw4_joined.f kj5 t166 (rdOf ByteArray.empty x3_1 (ji54)) (rdOf ByteArray.empty x3_1 (ji57))).bind fun t188 => ((some (([] : List ByteArray) : List ByteArray)).bind fun y189 => (if (ji54) ≤ (x3_1.length : Int) then ((some (x3_1.take ((ji54) : Int).toNat : List ByteArray)).bind fun y192 => (if y189.length + y192.length < 8796093022208 then ((some (y189 ++ y192 : List ByteArray)).bind fun y196 => (if y196.length < 8796093022208 then (letterlocklaw4_grown.l0 kj5 l0 (y196 ++ [t188]) (wrap64 (x4_1 + 1))) else (none))) else (none))) else (none)))) else (none)) else (none)) = some r := by first | (rw [hji57] at H; exact H) | (simp only [hji57] at H ⊢; exact H)
               (try rw [hji57] at A11)
               (try rw [hji57] at A12)
               have hji57w : (IntKind.i64.wrap ((x3_1.length : Int) - 1)) = ji57 := (i64_w _).trans hji57
               by_cases c58 : 0 ≤ (ji57)
               ·rw [if_pos c58] at H
                have c58b0 : decide (0 ≤ (ji57)) = true := decide_eq_true c58
                clear c58
                by_cases c59 : (ji57) < (x3_1.length : Int)
                ·rw [if_pos c59] at H
                 have c59b0 : decide ((ji57) < (x3_1.length : Int)) = true := decide_eq_true c59
                 clear c59
                 replace H := Option.bind_eq_some_iff.mp H
                 obtain ⟨t188, A600, H⟩ := H
                 replace H : ((some (([] : List ByteArray) : List ByteArray)).bind fun y189 => (if (ji54) ≤ (x3_1.length : Int) then ((some (x3_1.take ((ji54) : Int).toNat : List ByteArray)).bind fun y192 => (if y189.length + y192.length < 8796093022208 then ((some (y189 ++ y192 : List ByteArray)).bind fun y196 => (if y196.length < 8796093022208 then (letterlocklaw4_grown.l0 kj5 l0 (y196 ++ [t188]) (wrap64 (x4_1 + 1))) else (none))) else (none))) else (none))) = some r := H
                 have A60 := Aside0.mk A600
                 clear A600
                 obtain ⟨y189, hy189⟩ : ∃ y_ : List ByteArray, y_ = (([] : List ByteArray)) := ⟨_, rfl⟩
                 replace H : (if (ji54) ≤ (x3_1.length : Int) then ((some (x3_1.take ((ji54) : Int).toNat : List ByteArray)).bind fun y192 => (if y189.length + y192.length < 8796093022208 then ((some (y189 ++ y192 : List ByteArray)).bind fun y196 => (if y196.length < 8796093022208 then (letterlocklaw4_grown.l0 kj5 l0 (y196 ++ [t188]) (wrap64 (x4_1 + 1))) else (none))) else (none))) else (none)) = some r := by first | (rw [hy189]; with_reducible exact H) | (have H2_ := (Option.bind_some _ _).symm.trans H; rw [hy189]; with_reducible exact H2_) | (have H2_ := (Option.bind_some _ _).symm.trans H; with_reducible exact H2_) | with_reducible exact H | (rw [hy189]; exact H) | exact H
                 have Ny189 := Aside0.mk hy189
                 clear hy189
                 have c61b0 := eq_true (of_decide_eq_true (by first | (with_reducible assumption) | assumption) : 0 ≤ (ji54))
                 by_cases c62 : (ji54) ≤ (x3_1.length : Int)
                 ·rw [if_pos c62] at H
                  have c62b0 := eq_true c62
                  have c62b1 : decide ((ji54) ≤ (x3_1.length : Int)) = true := decide_eq_true c62
                  clear c62
                  obtain ⟨y192, hy192⟩ : ∃ y_ : List ByteArray, y_ = (x3_1.take ((ji54) : Int).toNat) := ⟨_, rfl⟩
                  replace H : (if y189.length + y192.length < 8796093022208 then ((some (y189 ++ y192 : List ByteArray)).bind fun y196 => (if y196.length < 8796093022208 then (letterlocklaw4_grown.l0 kj5 l0 (y196 ++ [t188]) (wrap64 (x4_1 + 1))) else (none))) else (none)) = some r := by first | (rw [hy192]; with_reducible exact H) | (have H2_ := (Option.bind_some _ _).symm.trans H; rw [hy192]; with_reducible exact H2_) | (have H2_ := (Option.bind_some _ _).symm.trans H; with_reducible exact H2_) | with_reducible exact H | (rw [hy192]; exact H) | exact H
                  have Ny192 := Aside0.mk hy192
                  clear hy192
                  by_cases c63 : y189.length + y192.length < 8796093022208
                  ·rw [if_pos c63] at H
                   have LMc63 := Aside0.mk c63
                   clear c63
                   obtain ⟨y196, hy196⟩ : ∃ y_ : List ByteArray, y_ = (y189 ++ y192) := ⟨_, rfl⟩
                   replace H : (if y196.length < 8796093022208 then (letterlocklaw4_grown.l0 kj5 l0 (y196 ++ [t188]) (wrap64 (x4_1 + 1))) else (none)) = some r := by first | (rw [hy196]; with_reducible exact H) | (have H2_ := (Option.bind_some _ _).symm.trans H; rw [hy196]; with_reducible exact H2_) | (have H2_ := (Option.bind_some _ _).symm.trans H; with_reducible exact H2_) | with_reducible exact H | (rw [hy196]; exact H) | exact H
                   have Ny196 := Aside0.mk hy196
                   clear hy196
                   by_cases c64 : y196.length < 8796093022208
                   ·rw [if_pos c64] at H
                    have LMc64 := Aside0.mk c64
                    clear c64
                    obtain ⟨y199, hy199⟩ : ∃ y_ : List ByteArray, y_ = (y196 ++ [t188]) := ⟨_, rfl⟩
                    replace H : (letterlocklaw4_grown.l0 kj5 l0 y199 (wrap64 (x4_1 + 1))) = some r := by first | (rw [hy199]; with_reducible exact H) | (have H2_ := (Option.bind_some _ _).symm.trans H; rw [hy199]; with_reducible exact H2_) | (have H2_ := (Option.bind_some _ _).symm.trans H; with_reducible exact H2_) | with_reducible exact H | (rw [hy199]; exact H) | exact H
                    have Ny199 := Aside0.mk hy199
                    clear hy199
                    have H' := Aside0.mk H
                    clear H
                    obtain ⟨Ao65, co65, eo65⟩ := Kd.R_slice HO_3.out
                    subst eo65
                    have p165 : 0 ≤ (x4_1 : Int) := of_decide_eq_true (by first | (with_reducible assumption) | assumption)
                    have q165 : x4_1 < (l0.length : Int) := of_decide_eq_true (by first | (with_reducible assumption) | assumption)
                    obtain ⟨ad165, e165, hx165_0⟩ := Kd.at_int HR0.out x4_1 p165 q165
                    cases e165
                    replace hx165_0 := (HB.out.cell (World.block_lt_of_cell? w _ hx165_0)).trans hx165_0
                    replace p165 := eq_true p165
                    replace q165 := eq_true q165
                    try go_wp2_with (first | ((with_reducible refine gate_callee (f := 25) rfl ?_); refine goesL_ (some 33) rfl rfl Try.func25 (by kernel_rfl) rfl #[.int .i64 (rd l0 x4_1), .int .i64 10] rfl (by (try simp only [List.map_toArray, List.map_cons, List.map_nil]); first | done | rfl | (simp only [List.length_drop, List.length_take]; rfl)) ?_; (with_reducible refine (letterlocklaw4_pick.calls (rd l0 x4_1) 10 t166 _ A11.out).mono ?_); rintro e w' ⟨rfl, ⟨nd, rfl⟩⟩; refine ⟨_, rfl, ?_⟩; have p167 : 0 ≤ (x4_1 : Int) := of_decide_eq_true (by first | (with_reducible assumption) | assumption); have q167 : x4_1 < (l0.length : Int) := of_decide_eq_true (by first | (with_reducible assumption) | assumption); obtain ⟨ad167, e167, hx167_0⟩ := Kd.at_int HR0.out x4_1 p167 q167; obtain rfl : ad165 = ad167 := (by injection e167); replace hx167_0 := (HB.out.cell (World.block_lt_of_cell? w _ hx167_0)).trans hx167_0; replace p167 := eq_true p167; replace q167 := eq_true q167) | ((with_reducible refine gate_callee (f := 25) rfl ?_); refine goesL_ (some 39) rfl rfl Try.func25 (by kernel_rfl) rfl #[.int .i64 (wrap64 (Int.tdiv (rd l0 x4_1) 10)), .int .i64 5] rfl (by (try simp only [List.map_toArray, List.map_cons, List.map_nil]); first | done | rfl | (simp only [List.length_drop, List.length_take]; rfl)) ?_; (with_reducible refine (letterlocklaw4_pick.calls (wrap64 (Int.tdiv (rd l0 x4_1) 10)) 5 t168 _ A12.out).mono ?_); rintro e w' ⟨rfl, ⟨nd, rfl⟩⟩; refine ⟨_, rfl, ?_⟩))
                    (try (rw [drewN_self wc]; generalize hq_ : World.drewN wc _ = wc; have n0_ : Aside0 (Kd.R Kd.string 9 wc w.heap.size (fun _ => True) (.slice Ao65 x3_1.length co65) x3_1) := ⟨by rw [← hq_]; exact (by (with_reducible repeat (first | apply Kd.R_alloc | apply Kd.R_drewN | apply Kd.R_drew)); exact HO_3.out)⟩; have n1_ : Aside0 (Below w.heap.size w wc) := ⟨by rw [← hq_]; exact (by repeat (first | (with_reducible first | exact HB.out | apply below_alloc | apply pw_below_drewN | apply below_drew1) | exact HB.out))⟩; clear HO_3 HB hq_; have HO_3 := n0_; have HB := n1_; clear n0_ n1_))
                    have n0_ := Aside0.mk (Kd.R_drew HO_3.out)
                    have n1_ := Aside0.mk (below_drew1 HB.out)
                    clear HO_3
                    clear HB
                    have HO_3 := n0_
                    have HB := n1_
                    clear n0_ n1_
                    have p186 : 0 ≤ ((ji54) : Int) := of_decide_eq_true (by first | (with_reducible assumption) | assumption)
                    have q186 : (ji54) < (x3_1.length : Int) := of_decide_eq_true (by first | (with_reducible assumption) | assumption)
                    obtain ⟨ad186, e186, hx186_0⟩ := Kd.at_string (Kd.R_reads' HO_3.out).2.2 (ji54) p186 q186
                    cases e186
                    replace p186 := eq_true p186
                    replace q186 := eq_true q186
                    have p187 : 0 ≤ ((ji57) : Int) := of_decide_eq_true (by first | (with_reducible assumption) | assumption)
                    have q187 : (ji57) < (x3_1.length : Int) := of_decide_eq_true (by first | (with_reducible assumption) | assumption)
                    obtain ⟨ad187, e187, hx187_0⟩ := Kd.at_string (Kd.R_reads' HO_3.out).2.2 (ji57) p187 q187
                    obtain rfl : ad186 = ad187 := (by injection e187)
                    replace p187 := eq_true p187
                    replace q187 := eq_true q187
                    refine start_ (n := 13) (S := fun w' => w'.cell? (ad186.add ((ji54)).toNat) = some (.string (rdOf ByteArray.empty x3_1 (ji54))) ∧ w'.cell? (ad186.add ((ji57)).toNat) = some (.string (rdOf ByteArray.empty x3_1 (ji57)))) (ds := []) #[false, false, false, false, false, false, false, false, false, false, false, false, false] (by kernel_rfl) rfl rfl ⟨hx186_0, hx187_0⟩ (fun hHeld => ?_); refine with_tabW letterlocklaw4_grown.tab22 letterlocklaw4_grown.bits22 (fun HT_ HW_ => ?_)
                    generalize wc.drew = w66 at HO_3 HB hx186_0 hx187_0 hHeld ⊢
                    refine pure_ (i := 0) (N := some 103) (v := ?_) (a' := ?_) #[true, false, false, false, false, false, false, false, false, false, false, false, false] rfl rfl (any_of HT_.out (by kernel_rfl)) (fun _ _ _ h => h) (Or.inl ⟨by rfl, ?_⟩) ?_ ?_
                    rotate_left
                    ·intro w'
                     go_simp
                     with_reducible rfl
                    rotate_left
                    ·simp only [Act.put, List.setIfInBounds_toArray, List.set_cons_zero, List.set_cons_succ, i64_w, i32_w]
                     rfl
                    refine pure_ (i := 1) (N := some 104) (v := ?_) (a' := ?_) #[true, true, false, false, false, false, false, false, false, false, false, false, false] rfl rfl (any_of HT_.out (by kernel_rfl)) (fun _ _ _ h => h) (Or.inl ⟨by rfl, ?_⟩) ?_ ?_
                    rotate_left
                    ·intro w'
                     go_simp
                     with_reducible rfl
                    rotate_left
                    ·simp only [Act.put, List.setIfInBounds_toArray, List.set_cons_zero, List.set_cons_succ, i64_w, i32_w]
                     rfl
                    refine pure_ (i := 2) (N := some 105) (v := ?_) (a' := ?_) #[true, true, true, false, false, false, false, false, false, false, false, false, false] rfl rfl (any_of HT_.out (by kernel_rfl)) (fun _ _ _ h => h) (Or.inl ⟨by rfl, ?_⟩) ?_ ?_
                    rotate_left
                    ·intro w'
                     go_simp
                     with_reducible rfl
                    rotate_left
                    ·simp only [Act.put, List.setIfInBounds_toArray, List.set_cons_zero, List.set_cons_succ, i64_w, i32_w]
                     rfl
                    refine pure_ (i := 3) (N := some 106) (v := ?_) (a' := ?_) #[true, true, true, true, false, false, false, false, false, false, false, false, false] rfl rfl (any_of HT_.out (by kernel_rfl)) (fun _ _ _ h => h) (Or.inl ⟨by rfl, ?_⟩) ?_ ?_
                    rotate_left
                    ·intro w'
                     go_simp
                     with_reducible rfl
                    rotate_left
                    ·simp only [Act.put, List.setIfInBounds_toArray, List.set_cons_zero, List.set_cons_succ, i64_w, i32_w]
                     rfl
                    refine pure_ (i := 4) (N := some 107) (v := ?_) (a' := ?_) #[true, true, true, true, true, false, false, false, false, false, false, false, false] rfl rfl (any_of HT_.out (by kernel_rfl)) (fun _ _ _ h => h) (Or.inl ⟨by rfl, ?_⟩) ?_ ?_
                    rotate_left
                    ·intro w'
                     go_simp
                     with_reducible rfl
                    rotate_left
                    ·simp only [Act.put, List.setIfInBounds_toArray, List.set_cons_zero, List.set_cons_succ, i64_w, i32_w]
                     rfl
                    refine pure_ (i := 6) (N := some 109) (v := ?_) (a' := ?_) #[true, true, true, true, true, false, true, false, false, false, false, false, false] rfl rfl (any_of HT_.out (by kernel_rfl)) (fun _ _ _ h => h) (Or.inl ⟨by rfl, ?_⟩) ?_ ?_
                    rotate_left
                    ·intro w'
                     go_simp
                     with_reducible rfl
                    rotate_left
                    ·simp only [Act.put, List.setIfInBounds_toArray, List.set_cons_zero, List.set_cons_succ, i64_w, i32_w]
                     rfl
                    refine pure_ (i := 7) (N := some 110) (v := ?_) (a' := ?_) #[true, true, true, true, true, false, true, true, false, false, false, false, false] rfl rfl (any_of HT_.out (by kernel_rfl)) (fun _ _ _ h => h) (Or.inl ⟨by rfl, ?_⟩) ?_ ?_
                    rotate_left
                    ·intro w'
                     go_simp
                     with_reducible rfl
                    rotate_left
                    ·simp only [Act.put, List.setIfInBounds_toArray, List.set_cons_zero, List.set_cons_succ, i64_w, i32_w]
                     rfl
                    refine pure_ (i := 8) (N := some 111) (v := ?_) (a' := ?_) #[true, true, true, true, true, false, true, true, true, false, false, false, false] rfl rfl (any_of HT_.out (by kernel_rfl)) (fun _ _ _ h => h) (Or.inl ⟨by rfl, ?_⟩) ?_ ?_
                    rotate_left
                    ·intro w'
                     go_simp
                     with_reducible rfl
                    rotate_left
                    ·simp only [Act.put, List.setIfInBounds_toArray, List.set_cons_zero, List.set_cons_succ, i64_w, i32_w]
                     rfl
                    refine pure_ (i := 9) (N := some 112) (v := ?_) (a' := ?_) #[true, true, true, true, true, false, true, true, true, true, false, false, false] rfl rfl (any_of HT_.out (by kernel_rfl)) (fun _ _ _ h => h) (Or.inl ⟨by rfl, ?_⟩) ?_ ?_
                    rotate_left
                    ·intro w'
                     go_simp
                     with_reducible rfl
                    rotate_left
                    ·simp only [Act.put, List.setIfInBounds_toArray, List.set_cons_zero, List.set_cons_succ, i64_w, i32_w]
                     rfl
                    refine take_ (i := 5) (N := some 108) (v := ?_) (a' := ?_) #[true, true, true, true, true, true, true, true, true, true, false, false, false] rfl rfl (take_ofW HT_.out HW_.out (by kernel_rfl)) (fun _ _ _ h => h) (Or.inl ⟨by rfl, ?_⟩) hHeld ?_ ?_
                    rotate_left
                    ·rintro w' ⟨s0, s1⟩
                     go_simp
                     with_reducible rfl
                    rotate_left
                    ·simp only [Act.put, List.setIfInBounds_toArray, List.set_cons_zero, List.set_cons_succ, i64_w, i32_w]
                     rfl
                    refine take_ (i := 10) (N := some 113) (v := ?_) (a' := ?_) #[true, true, true, true, true, true, true, true, true, true, true, false, false] rfl rfl (take_ofW HT_.out HW_.out (by kernel_rfl)) (fun _ _ _ h => h) (Or.inl ⟨by rfl, ?_⟩) hHeld ?_ ?_
                    rotate_left
                    ·rintro w' ⟨s0, s1⟩
                     go_simp
                     with_reducible rfl
                    rotate_left
                    ·simp only [Act.put, List.setIfInBounds_toArray, List.set_cons_zero, List.set_cons_succ, i64_w, i32_w]
                     rfl
                    refine one_ (i := 11) (N := some 114) #[true, true, true, true, true, true, true, true, true, true, true, true, false] rfl rfl (one_of HT_.out (by kernel_rfl)) (by decide) (fun K hK => ?_)
                    refine goes_ Try.func47 (by kernel_rfl) rfl #[.int .i64 t166, .string (rdOf ByteArray.empty x3_1 (ji54)), .string (rdOf ByteArray.empty x3_1 (ji57))] (by rfl) rfl rfl (by (try simp only [List.map_toArray, List.map_cons, List.map_nil]); first | done | (simp only [hji54, hji57]; rfl) | rfl | (simp only [List.length_drop, List.length_take]; rfl)) ?_
                    with_reducible refine (letterlocklaw4_joined.calls kj5 t166 (rdOf ByteArray.empty x3_1 (ji54)) (rdOf ByteArray.empty x3_1 (ji57)) t188 _ A60.out).mono ?_
                    rintro e w67 ⟨rfl, hb⟩
                    have HS0_ := (hb.cell (World.block_lt_of_cell? _ _ (hHeld.1))).trans (hHeld.1)
                    have HS1_ := (hb.cell (World.block_lt_of_cell? _ _ (hHeld.2))).trans (hHeld.2)
                    refine ⟨_, rfl, ?_⟩
                    have n0_ := Aside0.mk (Kd.R_below (by (with_reducible repeat (first | apply Kd.R_alloc | apply Kd.R_drewN | apply Kd.R_drew)); exact HO_3.out) hb)
                    have n1_ := Aside0.mk (below_step (by repeat (first | (with_reducible first | exact HB.out | apply below_alloc | apply pw_below_drewN | apply below_drew1) | exact HB.out)) hb)
                    clear HO_3
                    clear HB
                    have HO_3 := n0_
                    have HB := n1_
                    clear n0_ n1_
                    (try clear hb)
                    (try clear hb2)
                    (try clear hk)
                    (try clear hi)
                    refine hK.out _ _ ⟨HS0_, HS1_⟩ (fun hHeld => ?_)
                    clear hK K
                    refine norm_ (a' := ?_) ?_ ?_
                    rotate_left
                    ·show Act.put _ (some 114) _ = _
                     simp only [Act.put, List.setIfInBounds_toArray, List.set_cons_zero, List.set_cons_succ, i64_w, i32_w]
                     rfl
                    refine pure_ (i := 12) (N := some 14) (v := ?_) (a' := ?_) #[true, true, true, true, true, true, true, true, true, true, true, true, true] rfl rfl (any_of HT_.out (by kernel_rfl)) (fun _ _ _ h => h) (Or.inl ⟨by rfl, ?_⟩) ?_ ?_
                    rotate_left
                    ·intro w'
                     go_simp
                     with_reducible rfl
                    rotate_left
                    ·simp only [Act.put, List.setIfInBounds_toArray, List.set_cons_zero, List.set_cons_succ, i64_w, i32_w]
                     rfl
                    refine done_ (done_of HT_.out (by kernel_rfl)) ?_
                    try go_wp2_with (first | ((with_reducible refine gate_dst (N := 115) rfl ?_); refine Kd.R_lit Kd.string _ 9 ?hg (N := 115) ?hd (xs := ([] : List ByteArray)) (inner := []) (ok := fun _ => True) (okp := fun _ => True) ?hr ?hp (fun _ hk => hk) trivial (Below.refl _ _) (Nat.le_refl _) (by simp) ?_; (case hd => rfl); (case hg => rfl); (case hr => first | (go_simp; done) | (go_simp; rfl)); (case hp => exact (Reps.none _ _)); intro v190 w68 ho69 hb hg_ hnew_; clear hg_ hnew_; (first | rw [← Ny189.out] at ho69 | (simp only [Int.reduceToNat] at ho69; rw [← Ny189.out] at ho69)); have n0_ := Aside0.mk (Kd.R_elder' (by (with_reducible repeat (first | apply Kd.R_alloc | apply Kd.R_drewN | apply Kd.R_drew)); exact HO_3.out) (Kd.R_base ho69) hb); have n1_ := Aside0.mk (Kd.R_lower (Kd.R_new' ho69 (Kd.R_lt (by (with_reducible repeat (first | apply Kd.R_alloc | apply Kd.R_drewN | apply Kd.R_drew)); exact HO_3.out))) (below_size (by repeat (first | (with_reducible first | exact HB.out | apply below_alloc | apply pw_below_drewN | apply below_drew1) | exact HB.out)))); have n2_ := Aside0.mk (below_step (by repeat (first | (with_reducible first | exact HB.out | apply below_alloc | apply pw_below_drewN | apply below_drew1) | exact HB.out)) hb); clear HO_3; clear HB; have HO_3 := n0_; have HO191 := n1_; have HB := n2_; clear n0_ n1_ n2_; clear hb ho69; have q70 : ((ji54) : Int) ≤ ((x3_1.length : Int) : Int) := of_decide_eq_true (by first | (with_reducible assumption) | assumption); obtain ⟨i070, hi070, _, hsz70, _⟩ := info_parts info9; have hroom70 : x3_1.length ≤ co65 := (Kd.R_reads' HO_3.out).2.1; have hC70 : Kd.C Kd.string _ (some ad186) x3_1.length x3_1 := (Kd.R_reads' HO_3.out).2.2; have hcut70 := cut_to (P := Try.prog) 31 9 .i64 Try.underlying31 hi070 (some ad186) x3_1.length co65 (ji54) (of_decide_eq_true (by first | (with_reducible assumption) | assumption)) q70 hroom70; have hr70 := Kd.C_take (m := ((ji54) : Int).toNat) hC70 (by omega); have hy70 : y192.length = ((ji54) : Int).toNat := (by rw [Ny192.out, List.length_take]; omega); rw [← Ny192.out] at hr70; rw [← hy70] at hcut70; have HR195 := Aside0.mk hr70; have HC195 := Aside0.mk (show y192.length ≤ co65 from by omega); clear hr70 hC70 hroom70 hi070 hsz70; have KY70 := Aside0.mk hy70; clear hy70; have KL70 := Aside0.mk (show ((ji54) : Int).toNat ≤ x3_1.length from by omega); replace q70 := eq_true q70) | ((with_reducible refine gate_builtin (b := .append) (xs := #[.tmp 115, .tmp 119]) rfl ?_); at_builtin; refine Kd.R_append_rows Kd.string (w0 := w) w.heap.size rfl (.tmp 115) (.tmp 119) 31 9 (.string ⟨#[]⟩) 16 rfl Try.underlying31 info9 rfl (by decide) (by omega) v190 y189 y192 _ _ _ (fun k_ => some k_ ≠ (.slice (some ad186) x3_1.length co65 : Value).ownBlock) (fun _ => False) rfl rfl ?aO ?aR (fun _ _ h => h) (fun _ h => h.elim) ?aF ?aB ?aS ?aL ?_; (case aR => repeat (first | exact (by repeat (first | (with_reducible exact HR195.out) | (with_reducible refine Kd.C_alloc ?_ _) | (with_reducible refine Kd.C_drewN ?_ _) | (with_reducible refine Kd.C_drew ?_) | exact HR195.out)) | (with_reducible refine Kd.C_alloc ?_ _) | (with_reducible refine Kd.C_drewN ?_ _) | (with_reducible refine Kd.C_drew ?_))); (case aB => exact (by repeat (first | (with_reducible first | exact HB.out | apply below_alloc | apply pw_below_drewN | apply below_drew1) | exact HB.out))); (case aF => exact (fun k_ hk => Kd.fresh' (Kd.R_lt (by (with_reducible repeat (first | apply Kd.R_alloc | apply Kd.R_drewN | apply Kd.R_drew)); exact HO_3.out)) k_ hk)); (case aO => exact (by (with_reducible repeat (first | apply Kd.R_alloc | apply Kd.R_drewN | apply Kd.R_drew)); exact Kd.R_mono HO191.out (fun _ hk => hk.2))); (case aS => exact (below_size (by repeat (first | (with_reducible first | exact HB.out | apply below_alloc | apply pw_below_drewN | apply below_drew1) | exact HB.out)))); (case aL => have := LMc63.out; omega); intro v197 w71 ho hb hg hat; rw [← Ny196.out] at ho; have n0_ := Aside0.mk (Kd.R_after (ok := (fun _ => True)) (by (with_reducible repeat (first | apply Kd.R_alloc | apply Kd.R_drewN | apply Kd.R_drew)); exact HO_3.out) hg hat); have n1_ := Aside0.mk (hb); have n2_ := Aside0.mk ((show Kd.C Kd.string w71 (some ad186) y192.length y192 from by rw [Ny192.out]; exact Kd.C_take (m := ((ji54) : Int).toNat) ((Kd.R_reads' (Kd.R_after (ok := (fun _ => True)) (by (with_reducible repeat (first | apply Kd.R_alloc | apply Kd.R_drewN | apply Kd.R_drew)); exact HO_3.out) hg hat)).2.2) KL70.out)); have n3_ := Aside0.mk (ho); clear HO_3; clear HB; clear HR195; clear HO191; have HO_3 := n0_; have HB := n1_; have HR195 := n2_; have HO198 := n3_; clear n0_ n1_ n2_ n3_; clear ho hb hg hat) | ((with_reducible refine gate_builtin (b := .append) (xs := #[.tmp 120, .tmp 122]) rfl ?_); at_builtin; refine Kd.R_append Kd.string (w0 := w) w.heap.size rfl (.tmp 120) (.tmp 122) 31 9 (.string ⟨#[]⟩) 16 rfl Try.underlying31 info9 rfl (by decide) (by omega) v197 y196 t188 [.string t188] (fun k_ => some k_ ≠ (.slice (some ad186) x3_1.length co65 : Value).ownBlock) (fun _ => False) rfl rfl ?aP (fun _ hk => hk.elim) ?aF ?aO ?aB ?aS ?aL ?_; (case aP => exact rfl); (case aB => exact (by repeat (first | (with_reducible first | exact HB.out | apply below_alloc | apply pw_below_drewN | apply below_drew1) | exact HB.out))); (case aF => exact (fun k_ hk => Kd.fresh' (Kd.R_lt (by (with_reducible repeat (first | apply Kd.R_alloc | apply Kd.R_drewN | apply Kd.R_drew)); exact HO_3.out)) k_ hk)); (case aO => exact (by (with_reducible repeat (first | apply Kd.R_alloc | apply Kd.R_drewN | apply Kd.R_drew)); exact HO198.out)); (case aS => exact (below_size (by repeat (first | (with_reducible first | exact HB.out | apply below_alloc | apply pw_below_drewN | apply below_drew1) | exact HB.out)))); (case aL => have := LMc64.out; omega); intro v200 w72 ho hb hg hat; rw [← Ny199.out] at ho; have n0_ := Aside0.mk (Kd.R_after (ok := (fun _ => True)) (by (with_reducible repeat (first | apply Kd.R_alloc | apply Kd.R_drewN | apply Kd.R_drew)); exact HO_3.out) hg hat); have n1_ := Aside0.mk (hb); have n2_ := Aside0.mk ((show Kd.C Kd.string w72 (some ad186) y192.length y192 from by rw [Ny192.out]; exact Kd.C_take (m := ((ji54) : Int).toNat) ((Kd.R_reads' (Kd.R_after (ok := (fun _ => True)) (by (with_reducible repeat (first | apply Kd.R_alloc | apply Kd.R_drewN | apply Kd.R_drew)); exact HO_3.out) hg hat)).2.2) KL70.out)); have n3_ := Aside0.mk (ho); clear HO_3; clear HB; clear HR195; clear HO198; have HO_3 := n0_; have HB := n1_; have HR195 := n2_; have HO201 := n3_; clear n0_ n1_ n2_ n3_; clear ho hb hg hat))
                    go_roundg kj5
                    case measure => have := HK1.out; have := HJ5.out; omega
                    case rel => exact ⟨(y199), (wrap64 (x4_1 + 1)), (by first | rfl | (simp; done) | (simp [*]; done)), H', ⟨by have := HK1.out; have := HJ5.out; omega⟩, ⟨by (with_reducible repeat (first | apply Kd.R_alloc | apply Kd.R_drewN | apply Kd.R_drew)); exact Kd.R_mono HO201.out (fun _ hk => trivial)⟩, ⟨by repeat (first | (with_reducible first | exact HB.out | apply below_alloc | apply pw_below_drewN | apply below_drew1) | exact HB.out)⟩⟩
                   ·rw [if_neg c64] at H
                    exact absurd H (by simp)
                  ·rw [if_neg c63] at H
                   exact absurd H (by simp)
                 ·rw [if_neg c62] at H
                  exact absurd H (by simp)
                ·rw [if_neg c59] at H
                 exact absurd H (by simp)
               ·rw [if_neg c58] at H
                exact absurd H (by simp)
              ·rw [if_neg c56] at H
               exact absurd H (by simp)
             ·rw [if_neg c55] at H
              exact absurd H (by simp)
            ·rw [if_neg c53] at H
             have c53b0 : decide (1 < (x3_1.length : Int)) = false := decide_eq_false c53
             have c53b1 : decide (1 < x3_1.length) = false := decide_eq_false (by omega)
             clear c53
             have H' := Aside0.mk H
             clear H
             obtain ⟨Ao73, co73, eo73⟩ := Kd.R_slice HO_3.out
             subst eo73
             have p165 : 0 ≤ (x4_1 : Int) := of_decide_eq_true (by first | (with_reducible assumption) | assumption)
             have q165 : x4_1 < (l0.length : Int) := of_decide_eq_true (by first | (with_reducible assumption) | assumption)
             obtain ⟨ad165, e165, hx165_0⟩ := Kd.at_int HR0.out x4_1 p165 q165
             cases e165
             replace hx165_0 := (HB.out.cell (World.block_lt_of_cell? w _ hx165_0)).trans hx165_0
             replace p165 := eq_true p165
             replace q165 := eq_true q165
             go_wp2_with (first | ((with_reducible refine gate_callee (f := 25) rfl ?_); refine goesL_ (some 33) rfl rfl Try.func25 (by kernel_rfl) rfl #[.int .i64 (rd l0 x4_1), .int .i64 10] rfl (by (try simp only [List.map_toArray, List.map_cons, List.map_nil]); first | done | rfl | (simp only [List.length_drop, List.length_take]; rfl)) ?_; (with_reducible refine (letterlocklaw4_pick.calls (rd l0 x4_1) 10 t166 _ A11.out).mono ?_); rintro e w' ⟨rfl, ⟨nd, rfl⟩⟩; refine ⟨_, rfl, ?_⟩; have p167 : 0 ≤ (x4_1 : Int) := of_decide_eq_true (by first | (with_reducible assumption) | assumption); have q167 : x4_1 < (l0.length : Int) := of_decide_eq_true (by first | (with_reducible assumption) | assumption); obtain ⟨ad167, e167, hx167_0⟩ := Kd.at_int HR0.out x4_1 p167 q167; obtain rfl : ad165 = ad167 := (by injection e167); replace hx167_0 := (HB.out.cell (World.block_lt_of_cell? w _ hx167_0)).trans hx167_0; replace p167 := eq_true p167; replace q167 := eq_true q167) | ((with_reducible refine gate_callee (f := 25) rfl ?_); refine goesL_ (some 39) rfl rfl Try.func25 (by kernel_rfl) rfl #[.int .i64 (wrap64 (Int.tdiv (rd l0 x4_1) 10)), .int .i64 5] rfl (by (try simp only [List.map_toArray, List.map_cons, List.map_nil]); first | done | rfl | (simp only [List.length_drop, List.length_take]; rfl)) ?_; (with_reducible refine (letterlocklaw4_pick.calls (wrap64 (Int.tdiv (rd l0 x4_1) 10)) 5 t168 _ A12.out).mono ?_); rintro e w' ⟨rfl, ⟨nd, rfl⟩⟩; refine ⟨_, rfl, ?_⟩))
             go_roundg kj5
             case measure => have := HK1.out; have := HJ5.out; omega
             case rel => exact ⟨(x3_1), (wrap64 (x4_1 + 1)), (by first | rfl | (simp; done) | (simp [*]; done)), H', ⟨by have := HK1.out; have := HJ5.out; omega⟩, ⟨by (with_reducible repeat (first | apply Kd.R_alloc | apply Kd.R_drewN | apply Kd.R_drew)); exact HO_3.out⟩, ⟨by repeat (first | (with_reducible first | exact HB.out | apply below_alloc | apply pw_below_drewN | apply below_drew1) | exact HB.out)⟩⟩
       ·rw [if_neg c10] at H
        exact absurd H (by simp)
      ·rw [if_neg c9] at H
       exact absurd H (by simp)
     ·replace c8 := Bool.eq_false_iff.mpr c8
      subst c8
      have H1 : (if 0 ≤ (wrap64 ((x3_1.length : Int) - 1)) then (if (wrap64 ((x3_1.length : Int) - 1)) < (x3_1.length : Int) then (some (rdOf ByteArray.empty x3_1 (wrap64 ((x3_1.length : Int) - 1)))) else (none)) else (none)) = some r := by rw [if_neg (show ¬ (false = true) by decide)] at H; exact H
      clear H
      have H := H1
      clear H1
      obtain ⟨ji74, hji74⟩ : ∃ j_ : Int, (wrap64 ((x3_1.length : Int) - 1)) = j_ := ⟨_, rfl⟩
      replace H : (if 0 ≤ (ji74) then (if (ji74) < (x3_1.length : Int) then (some (rdOf ByteArray.empty x3_1 (ji74))) else (none)) else (none)) = some r := by first | (rw [hji74] at H; exact H) | (simp only [hji74] at H ⊢; exact H)
      have hji74w : (IntKind.i64.wrap ((x3_1.length : Int) - 1)) = ji74 := (i64_w _).trans hji74
      by_cases c75 : 0 ≤ (ji74)
      ·rw [if_pos c75] at H
       have c75b0 : decide (0 ≤ (ji74)) = true := decide_eq_true c75
       clear c75
       by_cases c76 : (ji74) < (x3_1.length : Int)
       ·rw [if_pos c76] at H
        have c76b0 : decide ((ji74) < (x3_1.length : Int)) = true := decide_eq_true c76
        clear c76
        obtain rfl := Option.some.inj H
        obtain ⟨Ao77, co77, eo77⟩ := Kd.R_slice HO_3.out
        subst eo77
        have p164 : 0 ≤ ((ji74) : Int) := of_decide_eq_true (by first | (with_reducible assumption) | assumption)
        have q164 : (ji74) < (x3_1.length : Int) := of_decide_eq_true (by first | (with_reducible assumption) | assumption)
        obtain ⟨ad164, e164, hx164_0⟩ := Kd.at_string (Kd.R_reads' HO_3.out).2.2 (ji74) p164 q164
        cases e164
        replace p164 := eq_true p164
        replace q164 := eq_true q164
        go_wp2
        go_ret
        exact ⟨by first | rfl | (simp [errW_none, errW_some] <;> rfl) | (simp only [← hji74]; first | rfl | (simp [errW_none, errW_some] <;> rfl)) | (simp [*, errW_none, errW_some] <;> rfl), by repeat (first | (with_reducible first | exact HB.out | apply below_alloc | apply pw_below_drewN | apply below_drew1) | exact HB.out)⟩
       ·rw [if_neg c76] at H
        exact absurd H (by simp)
      ·rw [if_neg c75] at H
       exact absurd H (by simp)

/-! ### letterlocklaw4_some: function 19 -/
def letterlocklaw4_some.l0 : Nat → List (List Int) → List ByteArray → Int → Option (List ByteArray)
 | 0, _, _, _ => none
 | k + 1, x0, x3, x4 => if x4 < (x0.length : Int) then (if x4 < 6 then (if 0 ≤ x4 then ((letterlocklaw4_grown.f k (rd_L3 x0 x4)).bind fun t203 => (if x3.length < 8796093022208 then (letterlocklaw4_some.l0 k x0 (x3 ++ [t203]) (wrap64 (x4 + 1))) else (none))) else (none)) else (some x3)) else (some x3)
def letterlocklaw4_some.f (k : Nat) (l0 : List (List Int)) : Option (List ByteArray) := letterlocklaw4_some.l0 k l0 ([] : List ByteArray) 0
theorem letterlocklaw4_some.mono_l : ∀ k, (∀ y0 y1 y2, LeO (letterlocklaw4_some.l0 k y0 y1 y2) (letterlocklaw4_some.l0 (k + 1) y0 y1 y2))
 | 0 => fun _ _ _ r h => by simp [letterlocklaw4_some.l0] at h
 | k + 1 => by
  have ih0 := letterlocklaw4_some.mono_l k
  ·intro y0 y1 y2
   unfold letterlocklaw4_some.l0
   repeat' first
   | (with_reducible exact ih0 _ _ _)
   | (with_reducible exact letterlocklaw4_grown.mono _ _)
   | (with_reducible exact LeO.refl _)
   | (with_reducible exact LeO.none _)
   | (with_reducible refine LeO.ite ?_ ?_)
   | (with_reducible refine LeO.bind ?_ (fun _ => ?_))
   | exact ih0 _ _ _
   | exact letterlocklaw4_grown.mono _ _
   | exact LeO.none _
   | refine LeO.ite ?_ ?_
   | refine LeO.bind ?_ (fun _ => ?_)
theorem letterlocklaw4_some.mono : ∀ a0 k, LeO (letterlocklaw4_some.f k a0) (letterlocklaw4_some.f (k + 1) a0) := by
 intro a0 k
 have ih0 := letterlocklaw4_some.mono_l k
 unfold letterlocklaw4_some.f
 repeat' first
   | (with_reducible exact ih0 _ _ _)
   | (with_reducible exact letterlocklaw4_grown.mono _ _)
   | (with_reducible exact LeO.refl _)
   | (with_reducible exact LeO.none _)
   | (with_reducible refine LeO.ite ?_ ?_)
   | (with_reducible refine LeO.bind ?_ (fun _ => ?_))
   | exact ih0 _ _ _
   | exact letterlocklaw4_grown.mono _ _
   | exact LeO.none _
   | refine LeO.ite ?_ ?_
   | refine LeO.bind ?_ (fun _ => ?_)
set_option maxHeartbeats 8000000 in
set_option maxRecDepth 100000 in
theorem letterlocklaw4_some.calls (k : Nat) (A0 : Option Addr) (c0 : Nat) (l0 : List (List Int)) (r : List ByteArray) (w : World) (hr0 : Kd.C (Kd.slice 3 (Kd.int .i64)) w A0 l0.length l0) (hc0 : l0.length ≤ c0) (h : letterlocklaw4_some.f k l0 = some r) :
  Calls Try.prog 19 #[.slice A0 l0.length c0] w fun e w' => ∃ v0_ : Value, e = .returned (v0_) ∧ Kd.R Kd.string 9 w' w.heap.size (fun _ => True) v0_ r ∧ Below w.heap.size w w' := by
 have HR0 := Aside0.mk hr0
 have HC0 := Aside0.mk hc0
 clear hr0 hc0
 have HB := Aside0.mk (Below.refl w.heap.size w)
 have H : (letterlocklaw4_some.l0 k l0 ([] : List ByteArray) 0) = some r := h
 clear h
 have H' := Aside0.mk H
 clear H
 go_enter Try.func19, Try.ntmps19
 go_wp2
 go_loopg [3, 4] k (fun kq v3 v4 w' => ∃ (x3_1 : List ByteArray) (x4_1 : Int), v4 = .int .i64 x4_1 ∧ Aside0 (letterlocklaw4_some.l0 kq l0 x3_1 x4_1 = some r) ∧ Aside0 (kq ≤ k) ∧ Aside0 (Kd.R Kd.string 9 w' w.heap.size (fun _ => True) v3 x3_1) ∧ Aside0 (Below w.heap.size w w'))
 case atStart => exact ⟨(([] : List ByteArray)), (0), (by first | rfl | (simp; done) | (simp [*]; done)), H', ⟨Nat.le_refl _⟩, ⟨by first | exact Kd.R_nil _ _ _ _ _ | exact Kd.N_nil _ _ _ _ _ | exact Kd.V_nil _ _ _ _ _ | exact Kd.Q_nil _ _ _ _ _ | exact Kd.S_nil _ _ _ _ _⟩, ⟨by repeat (first | (with_reducible first | exact HB.out | apply below_alloc | apply pw_below_drewN | apply below_drew1) | exact HB.out)⟩⟩
 case round =>
  clear H'
  try clear c1
  obtain ⟨x3_1, x4_1, rfl, HA, HK1, HO_3, HB⟩ := hrel
  cases gk with
  | zero => exact absurd HA.out (by simp [letterlocklaw4_some.l0])
  | succ k1 =>
   have H := HA.out
   clear HA
   simp only [letterlocklaw4_some.l0] at H
   by_cases c2 : x4_1 < (l0.length : Int)
   ·rw [if_pos c2] at H
    have c2b0 : decide (x4_1 < (l0.length : Int)) = true := decide_eq_true c2
    clear c2
    by_cases c3 : x4_1 < 6
    ·rw [if_pos c3] at H
     have c3b0 : decide (x4_1 < 6) = true := decide_eq_true c3
     clear c3
     by_cases c4 : 0 ≤ x4_1
     ·rw [if_pos c4] at H
      have c4b0 : decide (0 ≤ x4_1) = true := decide_eq_true c4
      clear c4
      replace H := Option.bind_eq_some_iff.mp H
      obtain ⟨t203, A50, H⟩ := H
      replace H : (if x3_1.length < 8796093022208 then (letterlocklaw4_some.l0 k1 l0 (x3_1 ++ [t203]) (wrap64 (x4_1 + 1))) else (none)) = some r := H
      have A5 := Aside0.mk A50
      clear A50
      by_cases c6 : x3_1.length < 8796093022208
      ·rw [if_pos c6] at H
       have LMc6 := Aside0.mk c6
       clear c6
       obtain ⟨y204, hy204⟩ : ∃ y_ : List ByteArray, y_ = (x3_1 ++ [t203]) := ⟨_, rfl⟩
       replace H : (letterlocklaw4_some.l0 k1 l0 y204 (wrap64 (x4_1 + 1))) = some r := by first | (rw [hy204]; with_reducible exact H) | (have H2_ := (Option.bind_some _ _).symm.trans H; rw [hy204]; with_reducible exact H2_) | (have H2_ := (Option.bind_some _ _).symm.trans H; with_reducible exact H2_) | with_reducible exact H | (rw [hy204]; exact H) | exact H
       have Ny204 := Aside0.mk hy204
       clear hy204
       have H' := Aside0.mk H
       clear H
       have p202 : 0 ≤ (x4_1 : Int) := of_decide_eq_true (by first | (with_reducible assumption) | assumption)
       have q202 : x4_1 < (l0.length : Int) := of_decide_eq_true (by first | (with_reducible assumption) | assumption)
       obtain ⟨ad202, A202_0, c202_0, e202, hx202_0, hl202_0, hi202_0⟩ := at_L3 HR0.out x4_1 p202 q202
       cases e202
       replace hx202_0 := (HB.out.cell (World.block_lt_of_cell? w _ hx202_0)).trans hx202_0
       have HR202_0 := Aside0.mk hi202_0
       have HC202_0 := Aside0.mk hl202_0
       clear hi202_0 hl202_0
       replace p202 := eq_true p202
       replace q202 := eq_true q202
       go_wp2_with (first | ((with_reducible refine gate_callee (f := 20) rfl ?_); refine goesL_ (some 20) rfl rfl Try.func20 (by kernel_rfl) rfl #[.slice A202_0 (rd_L3 l0 x4_1).length c202_0] rfl (by (try simp only [List.map_toArray, List.map_cons, List.map_nil]); first | done | rfl | (simp only [List.length_drop, List.length_take]; rfl)) ?_; (with_reducible refine (letterlocklaw4_grown.calls k1 _ _ (rd_L3 l0 x4_1) t203 _ ?side1 ?side2 A5.out).mono ?_); (case side1 => repeat (first | exact (Kd.C_below HR202_0.out HB.out) | (with_reducible refine Kd.C_alloc ?_ _) | (with_reducible refine Kd.C_drewN ?_ _) | (with_reducible refine Kd.C_drew ?_))); (case side2 => exact HC202_0.out); rintro e w7 ⟨rfl, hb⟩; refine ⟨_, rfl, ?_⟩; have n0_ := Aside0.mk (Kd.R_below (by (with_reducible repeat (first | apply Kd.R_alloc | apply Kd.R_drewN | apply Kd.R_drew)); exact HO_3.out) hb); have n1_ := Aside0.mk (below_step (by repeat (first | (with_reducible first | exact HB.out | apply below_alloc | apply pw_below_drewN | apply below_drew1) | exact HB.out)) hb); clear HO_3; clear HB; have HO_3 := n0_; have HB := n1_; clear n0_ n1_; (try clear hb); (try clear hb2); (try clear hk); (try clear hi)) | ((with_reducible refine gate_builtin (b := .append) (xs := #[.tmp 15, .tmp 21]) rfl ?_); at_builtin; refine Kd.R_append Kd.string (w0 := w) w.heap.size rfl (.tmp 15) (.tmp 21) 31 9 (.string ⟨#[]⟩) 16 rfl Try.underlying31 info9 rfl (by decide) (by omega) u3 x3_1 t203 [.string t203] (fun _ => True) (fun _ => False) rfl rfl ?aP (fun _ hk => hk.elim) ?aF ?aO ?aB ?aS ?aL ?_; (case aP => exact rfl); (case aB => exact (by repeat (first | (with_reducible first | exact HB.out | apply below_alloc | apply pw_below_drewN | apply below_drew1) | exact HB.out))); (case aF => exact (fun _ _ => trivial)); (case aO => exact (by (with_reducible repeat (first | apply Kd.R_alloc | apply Kd.R_drewN | apply Kd.R_drew)); exact HO_3.out)); (case aS => exact (below_size (by repeat (first | (with_reducible first | exact HB.out | apply below_alloc | apply pw_below_drewN | apply below_drew1) | exact HB.out)))); (case aL => have := LMc6.out; omega); intro v205 w8 ho hb hg hat; rw [← Ny204.out] at ho; have n0_ := Aside0.mk (hb); have n1_ := Aside0.mk (ho); clear HB; clear HO_3; have HB := n0_; have HO206 := n1_; clear n0_ n1_; clear ho hb hg hat))
       go_roundg k1
       case measure => have := HK1.out; omega
       case rel => exact ⟨(y204), (wrap64 (x4_1 + 1)), (by first | rfl | (simp; done) | (simp [*]; done)), H', ⟨by have := HK1.out; omega⟩, ⟨by (with_reducible repeat (first | apply Kd.R_alloc | apply Kd.R_drewN | apply Kd.R_drew)); exact HO206.out⟩, ⟨by repeat (first | (with_reducible first | exact HB.out | apply below_alloc | apply pw_below_drewN | apply below_drew1) | exact HB.out)⟩⟩
      ·rw [if_neg c6] at H
       exact absurd H (by simp)
     ·rw [if_neg c4] at H
      exact absurd H (by simp)
    ·rw [if_neg c3] at H
     have c3b0 : decide (x4_1 < 6) = false := decide_eq_false c3
     clear c3
     obtain rfl := Option.some.inj H
     go_wp2
     go_ret
     exact ⟨_, by first | rfl | (simp [errW_none, errW_some] <;> rfl) | (simp [*, errW_none, errW_some] <;> rfl), by (with_reducible repeat (first | apply Kd.R_alloc | apply Kd.R_drewN | apply Kd.R_drew)); exact HO_3.out, by repeat (first | (with_reducible first | exact HB.out | apply below_alloc | apply pw_below_drewN | apply below_drew1) | exact HB.out)⟩
   ·rw [if_neg c2] at H
    have c2b0 : decide (x4_1 < (l0.length : Int)) = false := decide_eq_false c2
    clear c2
    obtain rfl := Option.some.inj H
    go_wp2
    go_ret
    exact ⟨_, by first | rfl | (simp [errW_none, errW_some] <;> rfl) | (simp [*, errW_none, errW_some] <;> rfl), by (with_reducible repeat (first | apply Kd.R_alloc | apply Kd.R_drewN | apply Kd.R_drew)); exact HO_3.out, by repeat (first | (with_reducible first | exact HB.out | apply below_alloc | apply pw_below_drewN | apply below_drew1) | exact HB.out)⟩

end Go.Proofs.Ytnieihhnchefdaa.PA
