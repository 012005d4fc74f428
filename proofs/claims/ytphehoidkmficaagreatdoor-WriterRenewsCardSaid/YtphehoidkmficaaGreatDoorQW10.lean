/- Contracts and laws that the statement of LawWriterOpens,LawWriterReads,LawWriterRenews,LawWriterSteps leans on (packed from this claim's own texts): part 10. -/
import Derived.Test.YtphehoidkmficaaGreatDoorQW9
section

namespace Go.Proofs.YtphehoidkmficaaGreatDoor
open Go.RowKit Go.Proofs.YtphehoidkmficaaGreatDoorW.PrintWords Go.Proofs.YtphehoidkmficaaGreatDoorW.PrintLast Go.Proofs.YtphehoidkmficaaGreatDoor.Ref
set_option linter.unusedVariables false
set_option linter.unusedSimpArgs false
set_option maxRecDepth 100000 in
set_option maxHeartbeats 8000000 in
theorem opens17_any (n0 a b : Int) (ct : ByteArray) (w : World) (HTB : Aside0 (Tabs w)) (h0 : (Lit.int .i64 n0).wf = true) (h1 : (Lit.int .i64 a).wf = true) (h2 : (Lit.int .i64 b).wf = true) (h3 : ct.size ≤ 140737488351232) :
  Calls Tryz.prog 4 #[.int .i64 n0, .int .i64 a, .int .i64 b, .string ct] w fun e w' => e = .returned (.bool true) ∧ Below w.heap.size w w' := by
 have HSH := Lib.hid (fun (W : World) (hb : Below w.heap.size w W) => shown17_call W ⟨HTB.out.below hb⟩)
 have hr := pick_lt n0 (n := 5) (by omega)
 have hx := pick_lt a (n := 8) (by omega)
 have hy := pick_lt b (n := 8) (by omega)
 have HPX := Lib.hid (fun W => pick17_call a 8 (by omega) (by omega) (i64_of h1) W)
 have HPY := Lib.hid (fun W => pick17_call b 8 (by omega) (by omega) (i64_of h2) W)
 generalize pickN a 8 = x at *
 generalize pickN b 8 = y at *
 have HKX := Lib.hid (fun W => keysOf_call n0 (x := x) (i64_of h0) (by omega) W)
 have HKY := Lib.hid (fun W => keysOf_call n0 (x := y) (i64_of h0) (by omega) W)
 generalize pickN n0 5 = r at *
 have HB := Lib.hid (Below.refl w.heap.size w)
 go_enter Tryz.func4, Tryz.ntmps4
 go_wp2_with fail
 refine (HSH.out _ HB.out).mono ?_
 rintro e W1 ⟨rfl, hb0⟩
 have hb := hb0
 replace HB := Lib.hid (below_step HB.out hb)
 clear hb hb0
 by_cases q100 : ct.size ≤ 100
 rotate_left
 ·have t0 : decide (100 < (ct.size : Int)) = true := decide_eq_true (by omega)
  go_wp2
  go_ret
  exact ⟨rfl, HB.out⟩
 have t0 : decide (100 < (ct.size : Int)) = false := decide_eq_false (by omega)
 go_wp2_with fail
 refine (HPX.out _).mono ?_
 rintro e W2 ⟨rfl, hb0⟩
 have hb := hb0
 replace HB := Lib.hid (below_step HB.out hb)
 clear hb hb0
 go_wp2_with fail
 refine (HPY.out _).mono ?_
 rintro e W3 ⟨rfl, hb0⟩
 have hb := hb0
 replace HB := Lib.hid (below_step HB.out hb)
 clear hb hb0
 have hgx := sg_small (i := x) (by omega)
 by_cases q64 : ct.size ≤ 64
 rotate_left
 ·skip
  have t1 : decide (64 < (ct.size : Int)) = true := decide_eq_true (by omega)
  have hs : rsealF (kk r x (tm (sT x))) ct = (⟨#[]⟩, 10) := seal_big (by omega) (by omega) q64
  have HSE := Lib.hid (sealAt HTB (by omega) (by omega) hgx hs)
  simp only at HSE
  generalize pb r x ct = q at *
  generalize tm (hT (7 - x) (rT r)) = sx at *
  generalize tm (hT (7 - y) (rT r)) = sy at *
  generalize tm (sT x) = gx at *
  generalize tm (sT y) = gy at *
  generalize pubs (x + 1) = vx at *
  generalize pubs (y + 1) = vy at *
  clear hs hgx q64 q100
  go_wp2_with fail
  refine (HKX.out _).mono ?_
  rintro e W4 ⟨Ak, ck, rfl, hck, hCk, hb0⟩
  have hb := hb0
  replace HB := Lib.hid (below_step HB.out hb)
  clear hb hb0
  have HVk := Lib.hid hCk
  clear hCk
  replace HB := Lib.hid (below_alloc HB.out (.cells #[.string ⟨#[97, 110, 110, 97, 47, 110, 111, 116, 101, 115]⟩, .int .i64 (x : Int), .string sx, .string gx, .slice Ak vx.length ck] 45))
  replace HVk := Lib.hid (Kd.C_below HVk.out (below_alloc (Below.refl _ _) (.cells #[.string ⟨#[97, 110, 110, 97, 47, 110, 111, 116, 101, 115]⟩, .int .i64 (x : Int), .string sx, .string gx, .slice Ak vx.length ck] 45)))
  have HXk := Lib.hid (wnew W4 (.cells #[.string ⟨#[97, 110, 110, 97, 47, 110, 111, 116, 101, 115]⟩, .int .i64 (x : Int), .string sx, .string gx, .slice Ak vx.length ck] 45))
  go_wp2_with fail
  refine (HKY.out _).mono ?_
  rintro e W5 ⟨Al, cl, rfl, hcl, hCl, hb0⟩
  have hb := hb0
  replace HB := Lib.hid (below_step HB.out hb)
  replace HXk := Lib.hid (blk_below HXk.out hb)
  replace HVk := Lib.hid (Kd.C_below HVk.out hb)
  clear hb hb0
  have HVl := Lib.hid hCl
  clear hCl
  replace HB := Lib.hid (below_alloc HB.out (.cells #[.string ⟨#[97, 110, 110, 97, 47, 110, 111, 116, 101, 115]⟩, .int .i64 (y : Int), .string sy, .string gy, .slice Al vy.length cl] 45))
  replace HXk := Lib.hid (wkeep HXk.out (.cells #[.string ⟨#[97, 110, 110, 97, 47, 110, 111, 116, 101, 115]⟩, .int .i64 (y : Int), .string sy, .string gy, .slice Al vy.length cl] 45))
  replace HVk := Lib.hid (Kd.C_below HVk.out (below_alloc (Below.refl _ _) (.cells #[.string ⟨#[97, 110, 110, 97, 47, 110, 111, 116, 101, 115]⟩, .int .i64 (y : Int), .string sy, .string gy, .slice Al vy.length cl] 45)))
  replace HVl := Lib.hid (Kd.C_below HVl.out (below_alloc (Below.refl _ _) (.cells #[.string ⟨#[97, 110, 110, 97, 47, 110, 111, 116, 101, 115]⟩, .int .i64 (y : Int), .string sy, .string gy, .slice Al vy.length cl] 45)))
  have HXl := Lib.hid (wnew W5 (.cells #[.string ⟨#[97, 110, 110, 97, 47, 110, 111, 116, 101, 115]⟩, .int .i64 (y : Int), .string sy, .string gy, .slice Al vy.length cl] 45))
  have xk0 := cell_of_blk (j := 0) (v := .string ⟨#[97, 110, 110, 97, 47, 110, 111, 116, 101, 115]⟩) HXk.out rfl
  have xk1 := cell_of_blk (j := 1) (v := .int .i64 (x : Int)) HXk.out rfl
  have xk2 := cell_of_blk (j := 2) (v := .string sx) HXk.out rfl
  have xk3 := cell_of_blk (j := 3) (v := .string gx) HXk.out rfl
  have xk4 := cell_of_blk (j := 4) (v := .slice Ak vx.length ck) HXk.out rfl
  go_wp2_with fail
  refine (HSE.out _ _ _ _ HB.out).mono ?_
  rintro e W6 ⟨rfl, hb0⟩
  clear xk0 xk1 xk2 xk3 xk4
  have hb := hb0
  replace HB := Lib.hid (below_step HB.out hb)
  replace HXk := Lib.hid (blk_below HXk.out hb)
  replace HXl := Lib.hid (blk_below HXl.out hb)
  replace HVk := Lib.hid (Kd.C_below HVk.out hb)
  replace HVl := Lib.hid (Kd.C_below HVl.out hb)
  clear hb hb0
  go_wp2
  go_ret
  exact ⟨rfl, HB.out⟩
 have t1 : decide (64 < (ct.size : Int)) = false := decide_eq_false (by omega)
 have hqz := pb_size (r := r) (x := x) (ct := ct) (by omega) (by omega) q64
 have hs : rsealF (kk r x (tm (sT x))) ct = (pb r x ct, 0) := seal_ky (by omega) (by omega) q64
 have hs2 : rsealF (kk r x ⟨#[]⟩) ct = (⟨#[]⟩, 6) := seal_kr
 have ho2 : ropenF (kk r x ⟨#[]⟩) (pb r x ct) = (ct, 0) := by rw [open_pb (by omega) (by omega) (by omega) q64, if_pos (Nat.le_refl _)]
 have hb2 : behindF (kk r x (tm (sT x))) (pb r x ct) = false := by rw [behind_pb (by omega) (by omega) (by omega) q64, decide_eq_false (by omega)]
 have HSE := Lib.hid (sealAt HTB (by omega) (by omega) hgx hs)
 have HSR := Lib.hid (sealAt HTB (by omega) (by omega) (by decide) hs2)
 have HOR := Lib.hid (openAt (by omega) (by omega) hqz ho2)
 have HBK := Lib.hid (behindAt (by omega) (by omega) hqz hb2)
 simp only at HSE HSR HOR HBK
 have hoy : ropenF (kk r y (tm (sT y))) (pb r x ct) = if x ≤ y then (ct, 0) else (⟨#[]⟩, 7) := open_pb (by omega) (by omega) (by omega) q64
 have hby : behindF (kk r y (tm (sT y))) (pb r x ct) = decide (x < y) := behind_pb (by omega) (by omega) (by omega) q64
 clear hs hs2 ho2 hb2 hgx q100
 rcases Nat.lt_trichotomy x y with hxy | hxy | hxy
 ·skip
  rw [if_pos (show x ≤ y by omega)] at hoy
  rw [decide_eq_true hxy] at hby
  have HOL := Lib.hid (openAt (by omega) (by omega) hqz hoy)
  have HBL := Lib.hid (behindAt (by omega) (by omega) hqz hby)
  simp only at HOL HBL
  clear hoy hby hqz q64
  have t2 : decide ((x : Int) ≤ (y : Int)) = true := decide_eq_true (by omega)
  have t3 : decide ((x : Int) < (y : Int)) = true := decide_eq_true (by omega)
  have u2 : decide (x ≤ y) = true := decide_eq_true (by omega)
  have u3 : decide (x < y) = true := decide_eq_true (by omega)
  clear hxy
  generalize pb r x ct = q at *
  generalize tm (hT (7 - x) (rT r)) = sx at *
  generalize tm (hT (7 - y) (rT r)) = sy at *
  generalize tm (sT x) = gx at *
  generalize tm (sT y) = gy at *
  generalize pubs (x + 1) = vx at *
  generalize pubs (y + 1) = vy at *
  go_wp2_with fail
  refine (HKX.out _).mono ?_
  rintro e W4 ⟨Ak, ck, rfl, hck, hCk, hb0⟩
  have hb := hb0
  replace HB := Lib.hid (below_step HB.out hb)
  clear hb hb0
  have HVk := Lib.hid hCk
  clear hCk
  replace HB := Lib.hid (below_alloc HB.out (.cells #[.string ⟨#[97, 110, 110, 97, 47, 110, 111, 116, 101, 115]⟩, .int .i64 (x : Int), .string sx, .string gx, .slice Ak vx.length ck] 45))
  replace HVk := Lib.hid (Kd.C_below HVk.out (below_alloc (Below.refl _ _) (.cells #[.string ⟨#[97, 110, 110, 97, 47, 110, 111, 116, 101, 115]⟩, .int .i64 (x : Int), .string sx, .string gx, .slice Ak vx.length ck] 45)))
  have HXk := Lib.hid (wnew W4 (.cells #[.string ⟨#[97, 110, 110, 97, 47, 110, 111, 116, 101, 115]⟩, .int .i64 (x : Int), .string sx, .string gx, .slice Ak vx.length ck] 45))
  go_wp2_with fail
  refine (HKY.out _).mono ?_
  rintro e W5 ⟨Al, cl, rfl, hcl, hCl, hb0⟩
  have hb := hb0
  replace HB := Lib.hid (below_step HB.out hb)
  replace HXk := Lib.hid (blk_below HXk.out hb)
  replace HVk := Lib.hid (Kd.C_below HVk.out hb)
  clear hb hb0
  have HVl := Lib.hid hCl
  clear hCl
  replace HB := Lib.hid (below_alloc HB.out (.cells #[.string ⟨#[97, 110, 110, 97, 47, 110, 111, 116, 101, 115]⟩, .int .i64 (y : Int), .string sy, .string gy, .slice Al vy.length cl] 45))
  replace HXk := Lib.hid (wkeep HXk.out (.cells #[.string ⟨#[97, 110, 110, 97, 47, 110, 111, 116, 101, 115]⟩, .int .i64 (y : Int), .string sy, .string gy, .slice Al vy.length cl] 45))
  replace HVk := Lib.hid (Kd.C_below HVk.out (below_alloc (Below.refl _ _) (.cells #[.string ⟨#[97, 110, 110, 97, 47, 110, 111, 116, 101, 115]⟩, .int .i64 (y : Int), .string sy, .string gy, .slice Al vy.length cl] 45)))
  replace HVl := Lib.hid (Kd.C_below HVl.out (below_alloc (Below.refl _ _) (.cells #[.string ⟨#[97, 110, 110, 97, 47, 110, 111, 116, 101, 115]⟩, .int .i64 (y : Int), .string sy, .string gy, .slice Al vy.length cl] 45)))
  have HXl := Lib.hid (wnew W5 (.cells #[.string ⟨#[97, 110, 110, 97, 47, 110, 111, 116, 101, 115]⟩, .int .i64 (y : Int), .string sy, .string gy, .slice Al vy.length cl] 45))
  have xk0 := cell_of_blk (j := 0) (v := .string ⟨#[97, 110, 110, 97, 47, 110, 111, 116, 101, 115]⟩) HXk.out rfl
  have xk1 := cell_of_blk (j := 1) (v := .int .i64 (x : Int)) HXk.out rfl
  have xk2 := cell_of_blk (j := 2) (v := .string sx) HXk.out rfl
  have xk3 := cell_of_blk (j := 3) (v := .string gx) HXk.out rfl
  have xk4 := cell_of_blk (j := 4) (v := .slice Ak vx.length ck) HXk.out rfl
  go_wp2_with fail
  refine (HSE.out _ _ _ _ HB.out).mono ?_
  rintro e W6 ⟨rfl, hb0⟩
  clear xk0 xk1 xk2 xk3 xk4
  have hb := hb0
  replace HB := Lib.hid (below_step HB.out hb)
  replace HXk := Lib.hid (blk_below HXk.out hb)
  replace HXl := Lib.hid (blk_below HXl.out hb)
  replace HVk := Lib.hid (Kd.C_below HVk.out hb)
  replace HVl := Lib.hid (Kd.C_below HVl.out hb)
  clear hb hb0
  have xl0 := cell_of_blk (j := 0) (v := .string ⟨#[97, 110, 110, 97, 47, 110, 111, 116, 101, 115]⟩) HXl.out rfl
  have xl1 := cell_of_blk (j := 1) (v := .int .i64 (y : Int)) HXl.out rfl
  have xl2 := cell_of_blk (j := 2) (v := .string sy) HXl.out rfl
  have xl3 := cell_of_blk (j := 3) (v := .string gy) HXl.out rfl
  have xl4 := cell_of_blk (j := 4) (v := .slice Al vy.length cl) HXl.out rfl
  go_wp2_with fail
  refine (HOL.out _ _ _ hcl HVl.out).mono ?_
  rintro e W7 ⟨rfl, hb0⟩
  clear xl0 xl1 xl2 xl3 xl4
  have hb := hb0
  replace HB := Lib.hid (below_step HB.out hb)
  replace HXk := Lib.hid (blk_below HXk.out hb)
  replace HXl := Lib.hid (blk_below HXl.out hb)
  replace HVk := Lib.hid (Kd.C_below HVk.out hb)
  replace HVl := Lib.hid (Kd.C_below HVl.out hb)
  clear hb hb0
  have xk0 := cell_of_blk (j := 0) (v := .string ⟨#[97, 110, 110, 97, 47, 110, 111, 116, 101, 115]⟩) HXk.out rfl
  have xk1 := cell_of_blk (j := 1) (v := .int .i64 (x : Int)) HXk.out rfl
  have xk2 := cell_of_blk (j := 2) (v := .string sx) HXk.out rfl
  have xk3 := cell_of_blk (j := 3) (v := .string gx) HXk.out rfl
  have xk4 := cell_of_blk (j := 4) (v := .slice Ak vx.length ck) HXk.out rfl
  have zb := free_of_blk (j := 3) (wnew W7 (.cells #[.string ⟨#[97, 110, 110, 97, 47, 110, 111, 116, 101, 115]⟩, .int .i64 (x : Int), .string sx, .string gx, .slice Ak vx.length ck] 45))
  replace HB := Lib.hid (below_alloc HB.out (.cells #[.string ⟨#[97, 110, 110, 97, 47, 110, 111, 116, 101, 115]⟩, .int .i64 (x : Int), .string sx, .string ⟨#[]⟩, .slice Ak vx.length ck] 45))
  replace HXk := Lib.hid (wkeep HXk.out (.cells #[.string ⟨#[97, 110, 110, 97, 47, 110, 111, 116, 101, 115]⟩, .int .i64 (x : Int), .string sx, .string ⟨#[]⟩, .slice Ak vx.length ck] 45))
  replace HXl := Lib.hid (wkeep HXl.out (.cells #[.string ⟨#[97, 110, 110, 97, 47, 110, 111, 116, 101, 115]⟩, .int .i64 (x : Int), .string sx, .string ⟨#[]⟩, .slice Ak vx.length ck] 45))
  replace HVk := Lib.hid (Kd.C_below HVk.out (below_alloc (Below.refl _ _) (.cells #[.string ⟨#[97, 110, 110, 97, 47, 110, 111, 116, 101, 115]⟩, .int .i64 (x : Int), .string sx, .string ⟨#[]⟩, .slice Ak vx.length ck] 45)))
  replace HVl := Lib.hid (Kd.C_below HVl.out (below_alloc (Below.refl _ _) (.cells #[.string ⟨#[97, 110, 110, 97, 47, 110, 111, 116, 101, 115]⟩, .int .i64 (x : Int), .string sx, .string ⟨#[]⟩, .slice Ak vx.length ck] 45)))
  have HXd := Lib.hid (wnew W7 (.cells #[.string ⟨#[97, 110, 110, 97, 47, 110, 111, 116, 101, 115]⟩, .int .i64 (x : Int), .string sx, .string ⟨#[]⟩, .slice Ak vx.length ck] 45))
  have xd0 := cell_of_blk (j := 0) (v := .string ⟨#[97, 110, 110, 97, 47, 110, 111, 116, 101, 115]⟩) HXd.out rfl
  have xd1 := cell_of_blk (j := 1) (v := .int .i64 (x : Int)) HXd.out rfl
  have xd2 := cell_of_blk (j := 2) (v := .string sx) HXd.out rfl
  have xd3 := cell_of_blk (j := 3) (v := .string ⟨#[]⟩) HXd.out rfl
  have xd4 := cell_of_blk (j := 4) (v := .slice Ak vx.length ck) HXd.out rfl
  go_wp2_with fail
  refine (HOR.out _ _ _ hck HVk.out).mono ?_
  rintro e W8 ⟨rfl, hb0⟩
  clear xk0 xk1 xk2 xk3 xk4 zb xd0 xd1 xd2 xd3 xd4
  have hb := hb0
  replace HB := Lib.hid (below_step HB.out hb)
  replace HXk := Lib.hid (blk_below HXk.out hb)
  replace HXl := Lib.hid (blk_below HXl.out hb)
  replace HXd := Lib.hid (blk_below HXd.out hb)
  replace HVk := Lib.hid (Kd.C_below HVk.out hb)
  replace HVl := Lib.hid (Kd.C_below HVl.out hb)
  clear hb hb0
  have xd0 := cell_of_blk (j := 0) (v := .string ⟨#[97, 110, 110, 97, 47, 110, 111, 116, 101, 115]⟩) HXd.out rfl
  have xd1 := cell_of_blk (j := 1) (v := .int .i64 (x : Int)) HXd.out rfl
  have xd2 := cell_of_blk (j := 2) (v := .string sx) HXd.out rfl
  have xd3 := cell_of_blk (j := 3) (v := .string ⟨#[]⟩) HXd.out rfl
  have xd4 := cell_of_blk (j := 4) (v := .slice Ak vx.length ck) HXd.out rfl
  go_wp2_with fail
  refine (HSR.out _ _ _ _ HB.out).mono ?_
  rintro e W9 ⟨rfl, hb0⟩
  clear xd0 xd1 xd2 xd3 xd4
  have hb := hb0
  replace HB := Lib.hid (below_step HB.out hb)
  replace HXk := Lib.hid (blk_below HXk.out hb)
  replace HXl := Lib.hid (blk_below HXl.out hb)
  replace HXd := Lib.hid (blk_below HXd.out hb)
  replace HVk := Lib.hid (Kd.C_below HVk.out hb)
  replace HVl := Lib.hid (Kd.C_below HVl.out hb)
  clear hb hb0
  have xl0 := cell_of_blk (j := 0) (v := .string ⟨#[97, 110, 110, 97, 47, 110, 111, 116, 101, 115]⟩) HXl.out rfl
  have xl1 := cell_of_blk (j := 1) (v := .int .i64 (y : Int)) HXl.out rfl
  have xl2 := cell_of_blk (j := 2) (v := .string sy) HXl.out rfl
  have xl3 := cell_of_blk (j := 3) (v := .string gy) HXl.out rfl
  have xl4 := cell_of_blk (j := 4) (v := .slice Al vy.length cl) HXl.out rfl
  go_wp2_with fail
  refine (HBL.out _ _ _ hcl HVl.out).mono ?_
  rintro e W10 ⟨rfl, hb0⟩
  clear xl0 xl1 xl2 xl3 xl4
  have hb := hb0
  replace HB := Lib.hid (below_step HB.out hb)
  replace HXk := Lib.hid (blk_below HXk.out hb)
  replace HXl := Lib.hid (blk_below HXl.out hb)
  replace HXd := Lib.hid (blk_below HXd.out hb)
  replace HVk := Lib.hid (Kd.C_below HVk.out hb)
  replace HVl := Lib.hid (Kd.C_below HVl.out hb)
  clear hb hb0
  have xk0 := cell_of_blk (j := 0) (v := .string ⟨#[97, 110, 110, 97, 47, 110, 111, 116, 101, 115]⟩) HXk.out rfl
  have xk1 := cell_of_blk (j := 1) (v := .int .i64 (x : Int)) HXk.out rfl
  have xk2 := cell_of_blk (j := 2) (v := .string sx) HXk.out rfl
  have xk3 := cell_of_blk (j := 3) (v := .string gx) HXk.out rfl
  have xk4 := cell_of_blk (j := 4) (v := .slice Ak vx.length ck) HXk.out rfl
  go_wp2_with fail
  refine (HBK.out _ _ _ hck HVk.out).mono ?_
  rintro e W11 ⟨rfl, hb0⟩
  clear xk0 xk1 xk2 xk3 xk4
  have hb := hb0
  replace HB := Lib.hid (below_step HB.out hb)
  replace HXk := Lib.hid (blk_below HXk.out hb)
  replace HXl := Lib.hid (blk_below HXl.out hb)
  replace HXd := Lib.hid (blk_below HXd.out hb)
  replace HVk := Lib.hid (Kd.C_below HVk.out hb)
  replace HVl := Lib.hid (Kd.C_below HVl.out hb)
  clear hb hb0
  go_wp2
  go_ret
  exact ⟨rfl, HB.out⟩
 ·skip
  rw [if_pos (show x ≤ y by omega)] at hoy
  rw [decide_eq_false (show ¬ x < y by omega)] at hby
  have HOL := Lib.hid (openAt (by omega) (by omega) hqz hoy)
  have HBL := Lib.hid (behindAt (by omega) (by omega) hqz hby)
  simp only at HOL HBL
  clear hoy hby hqz q64
  have t2 : decide ((x : Int) ≤ (y : Int)) = true := decide_eq_true (by omega)
  have t3 : decide ((x : Int) < (y : Int)) = false := decide_eq_false (by omega)
  have u2 : decide (x ≤ y) = true := decide_eq_true (by omega)
  have u3 : decide (x < y) = false := decide_eq_false (by omega)
  clear hxy
  generalize pb r x ct = q at *
  generalize tm (hT (7 - x) (rT r)) = sx at *
  generalize tm (hT (7 - y) (rT r)) = sy at *
  generalize tm (sT x) = gx at *
  generalize tm (sT y) = gy at *
  generalize pubs (x + 1) = vx at *
  generalize pubs (y + 1) = vy at *
  go_wp2_with fail
  refine (HKX.out _).mono ?_
  rintro e W4 ⟨Ak, ck, rfl, hck, hCk, hb0⟩
  have hb := hb0
  replace HB := Lib.hid (below_step HB.out hb)
  clear hb hb0
  have HVk := Lib.hid hCk
  clear hCk
  replace HB := Lib.hid (below_alloc HB.out (.cells #[.string ⟨#[97, 110, 110, 97, 47, 110, 111, 116, 101, 115]⟩, .int .i64 (x : Int), .string sx, .string gx, .slice Ak vx.length ck] 45))
  replace HVk := Lib.hid (Kd.C_below HVk.out (below_alloc (Below.refl _ _) (.cells #[.string ⟨#[97, 110, 110, 97, 47, 110, 111, 116, 101, 115]⟩, .int .i64 (x : Int), .string sx, .string gx, .slice Ak vx.length ck] 45)))
  have HXk := Lib.hid (wnew W4 (.cells #[.string ⟨#[97, 110, 110, 97, 47, 110, 111, 116, 101, 115]⟩, .int .i64 (x : Int), .string sx, .string gx, .slice Ak vx.length ck] 45))
  go_wp2_with fail
  refine (HKY.out _).mono ?_
  rintro e W5 ⟨Al, cl, rfl, hcl, hCl, hb0⟩
  have hb := hb0
  replace HB := Lib.hid (below_step HB.out hb)
  replace HXk := Lib.hid (blk_below HXk.out hb)
  replace HVk := Lib.hid (Kd.C_below HVk.out hb)
  clear hb hb0
  have HVl := Lib.hid hCl
  clear hCl
  replace HB := Lib.hid (below_alloc HB.out (.cells #[.string ⟨#[97, 110, 110, 97, 47, 110, 111, 116, 101, 115]⟩, .int .i64 (y : Int), .string sy, .string gy, .slice Al vy.length cl] 45))
  replace HXk := Lib.hid (wkeep HXk.out (.cells #[.string ⟨#[97, 110, 110, 97, 47, 110, 111, 116, 101, 115]⟩, .int .i64 (y : Int), .string sy, .string gy, .slice Al vy.length cl] 45))
  replace HVk := Lib.hid (Kd.C_below HVk.out (below_alloc (Below.refl _ _) (.cells #[.string ⟨#[97, 110, 110, 97, 47, 110, 111, 116, 101, 115]⟩, .int .i64 (y : Int), .string sy, .string gy, .slice Al vy.length cl] 45)))
  replace HVl := Lib.hid (Kd.C_below HVl.out (below_alloc (Below.refl _ _) (.cells #[.string ⟨#[97, 110, 110, 97, 47, 110, 111, 116, 101, 115]⟩, .int .i64 (y : Int), .string sy, .string gy, .slice Al vy.length cl] 45)))
  have HXl := Lib.hid (wnew W5 (.cells #[.string ⟨#[97, 110, 110, 97, 47, 110, 111, 116, 101, 115]⟩, .int .i64 (y : Int), .string sy, .string gy, .slice Al vy.length cl] 45))
  have xk0 := cell_of_blk (j := 0) (v := .string ⟨#[97, 110, 110, 97, 47, 110, 111, 116, 101, 115]⟩) HXk.out rfl
  have xk1 := cell_of_blk (j := 1) (v := .int .i64 (x : Int)) HXk.out rfl
  have xk2 := cell_of_blk (j := 2) (v := .string sx) HXk.out rfl
  have xk3 := cell_of_blk (j := 3) (v := .string gx) HXk.out rfl
  have xk4 := cell_of_blk (j := 4) (v := .slice Ak vx.length ck) HXk.out rfl
  go_wp2_with fail
  refine (HSE.out _ _ _ _ HB.out).mono ?_
  rintro e W6 ⟨rfl, hb0⟩
  clear xk0 xk1 xk2 xk3 xk4
  have hb := hb0
  replace HB := Lib.hid (below_step HB.out hb)
  replace HXk := Lib.hid (blk_below HXk.out hb)
  replace HXl := Lib.hid (blk_below HXl.out hb)
  replace HVk := Lib.hid (Kd.C_below HVk.out hb)
  replace HVl := Lib.hid (Kd.C_below HVl.out hb)
  clear hb hb0
  have xl0 := cell_of_blk (j := 0) (v := .string ⟨#[97, 110, 110, 97, 47, 110, 111, 116, 101, 115]⟩) HXl.out rfl
  have xl1 := cell_of_blk (j := 1) (v := .int .i64 (y : Int)) HXl.out rfl
  have xl2 := cell_of_blk (j := 2) (v := .string sy) HXl.out rfl
  have xl3 := cell_of_blk (j := 3) (v := .string gy) HXl.out rfl
  have xl4 := cell_of_blk (j := 4) (v := .slice Al vy.length cl) HXl.out rfl
  go_wp2_with fail
  refine (HOL.out _ _ _ hcl HVl.out).mono ?_
  rintro e W7 ⟨rfl, hb0⟩
  clear xl0 xl1 xl2 xl3 xl4
  have hb := hb0
  replace HB := Lib.hid (below_step HB.out hb)
  replace HXk := Lib.hid (blk_below HXk.out hb)
  replace HXl := Lib.hid (blk_below HXl.out hb)
  replace HVk := Lib.hid (Kd.C_below HVk.out hb)
  replace HVl := Lib.hid (Kd.C_below HVl.out hb)
  clear hb hb0
  have xk0 := cell_of_blk (j := 0) (v := .string ⟨#[97, 110, 110, 97, 47, 110, 111, 116, 101, 115]⟩) HXk.out rfl
  have xk1 := cell_of_blk (j := 1) (v := .int .i64 (x : Int)) HXk.out rfl
  have xk2 := cell_of_blk (j := 2) (v := .string sx) HXk.out rfl
  have xk3 := cell_of_blk (j := 3) (v := .string gx) HXk.out rfl
  have xk4 := cell_of_blk (j := 4) (v := .slice Ak vx.length ck) HXk.out rfl
  have zb := free_of_blk (j := 3) (wnew W7 (.cells #[.string ⟨#[97, 110, 110, 97, 47, 110, 111, 116, 101, 115]⟩, .int .i64 (x : Int), .string sx, .string gx, .slice Ak vx.length ck] 45))
  replace HB := Lib.hid (below_alloc HB.out (.cells #[.string ⟨#[97, 110, 110, 97, 47, 110, 111, 116, 101, 115]⟩, .int .i64 (x : Int), .string sx, .string ⟨#[]⟩, .slice Ak vx.length ck] 45))
  replace HXk := Lib.hid (wkeep HXk.out (.cells #[.string ⟨#[97, 110, 110, 97, 47, 110, 111, 116, 101, 115]⟩, .int .i64 (x : Int), .string sx, .string ⟨#[]⟩, .slice Ak vx.length ck] 45))
  replace HXl := Lib.hid (wkeep HXl.out (.cells #[.string ⟨#[97, 110, 110, 97, 47, 110, 111, 116, 101, 115]⟩, .int .i64 (x : Int), .string sx, .string ⟨#[]⟩, .slice Ak vx.length ck] 45))
  replace HVk := Lib.hid (Kd.C_below HVk.out (below_alloc (Below.refl _ _) (.cells #[.string ⟨#[97, 110, 110, 97, 47, 110, 111, 116, 101, 115]⟩, .int .i64 (x : Int), .string sx, .string ⟨#[]⟩, .slice Ak vx.length ck] 45)))
  replace HVl := Lib.hid (Kd.C_below HVl.out (below_alloc (Below.refl _ _) (.cells #[.string ⟨#[97, 110, 110, 97, 47, 110, 111, 116, 101, 115]⟩, .int .i64 (x : Int), .string sx, .string ⟨#[]⟩, .slice Ak vx.length ck] 45)))
  have HXd := Lib.hid (wnew W7 (.cells #[.string ⟨#[97, 110, 110, 97, 47, 110, 111, 116, 101, 115]⟩, .int .i64 (x : Int), .string sx, .string ⟨#[]⟩, .slice Ak vx.length ck] 45))
  have xd0 := cell_of_blk (j := 0) (v := .string ⟨#[97, 110, 110, 97, 47, 110, 111, 116, 101, 115]⟩) HXd.out rfl
  have xd1 := cell_of_blk (j := 1) (v := .int .i64 (x : Int)) HXd.out rfl
  have xd2 := cell_of_blk (j := 2) (v := .string sx) HXd.out rfl
  have xd3 := cell_of_blk (j := 3) (v := .string ⟨#[]⟩) HXd.out rfl
  have xd4 := cell_of_blk (j := 4) (v := .slice Ak vx.length ck) HXd.out rfl
  go_wp2_with fail
  refine (HOR.out _ _ _ hck HVk.out).mono ?_
  rintro e W8 ⟨rfl, hb0⟩
  clear xk0 xk1 xk2 xk3 xk4 zb xd0 xd1 xd2 xd3 xd4
  have hb := hb0
  replace HB := Lib.hid (below_step HB.out hb)
  replace HXk := Lib.hid (blk_below HXk.out hb)
  replace HXl := Lib.hid (blk_below HXl.out hb)
  replace HXd := Lib.hid (blk_below HXd.out hb)
  replace HVk := Lib.hid (Kd.C_below HVk.out hb)
  replace HVl := Lib.hid (Kd.C_below HVl.out hb)
  clear hb hb0
  have xd0 := cell_of_blk (j := 0) (v := .string ⟨#[97, 110, 110, 97, 47, 110, 111, 116, 101, 115]⟩) HXd.out rfl
  have xd1 := cell_of_blk (j := 1) (v := .int .i64 (x : Int)) HXd.out rfl
  have xd2 := cell_of_blk (j := 2) (v := .string sx) HXd.out rfl
  have xd3 := cell_of_blk (j := 3) (v := .string ⟨#[]⟩) HXd.out rfl
  have xd4 := cell_of_blk (j := 4) (v := .slice Ak vx.length ck) HXd.out rfl
  go_wp2_with fail
  refine (HSR.out _ _ _ _ HB.out).mono ?_
  rintro e W9 ⟨rfl, hb0⟩
  clear xd0 xd1 xd2 xd3 xd4
  have hb := hb0
  replace HB := Lib.hid (below_step HB.out hb)
  replace HXk := Lib.hid (blk_below HXk.out hb)
  replace HXl := Lib.hid (blk_below HXl.out hb)
  replace HXd := Lib.hid (blk_below HXd.out hb)
  replace HVk := Lib.hid (Kd.C_below HVk.out hb)
  replace HVl := Lib.hid (Kd.C_below HVl.out hb)
  clear hb hb0
  have xl0 := cell_of_blk (j := 0) (v := .string ⟨#[97, 110, 110, 97, 47, 110, 111, 116, 101, 115]⟩) HXl.out rfl
  have xl1 := cell_of_blk (j := 1) (v := .int .i64 (y : Int)) HXl.out rfl
  have xl2 := cell_of_blk (j := 2) (v := .string sy) HXl.out rfl
  have xl3 := cell_of_blk (j := 3) (v := .string gy) HXl.out rfl
  have xl4 := cell_of_blk (j := 4) (v := .slice Al vy.length cl) HXl.out rfl
  go_wp2_with fail
  refine (HBL.out _ _ _ hcl HVl.out).mono ?_
  rintro e W10 ⟨rfl, hb0⟩
  clear xl0 xl1 xl2 xl3 xl4
  have hb := hb0
  replace HB := Lib.hid (below_step HB.out hb)
  replace HXk := Lib.hid (blk_below HXk.out hb)
  replace HXl := Lib.hid (blk_below HXl.out hb)
  replace HXd := Lib.hid (blk_below HXd.out hb)
  replace HVk := Lib.hid (Kd.C_below HVk.out hb)
  replace HVl := Lib.hid (Kd.C_below HVl.out hb)
  clear hb hb0
  have xk0 := cell_of_blk (j := 0) (v := .string ⟨#[97, 110, 110, 97, 47, 110, 111, 116, 101, 115]⟩) HXk.out rfl
  have xk1 := cell_of_blk (j := 1) (v := .int .i64 (x : Int)) HXk.out rfl
  have xk2 := cell_of_blk (j := 2) (v := .string sx) HXk.out rfl
  have xk3 := cell_of_blk (j := 3) (v := .string gx) HXk.out rfl
  have xk4 := cell_of_blk (j := 4) (v := .slice Ak vx.length ck) HXk.out rfl
  go_wp2_with fail
  refine (HBK.out _ _ _ hck HVk.out).mono ?_
  rintro e W11 ⟨rfl, hb0⟩
  clear xk0 xk1 xk2 xk3 xk4
  have hb := hb0
  replace HB := Lib.hid (below_step HB.out hb)
  replace HXk := Lib.hid (blk_below HXk.out hb)
  replace HXl := Lib.hid (blk_below HXl.out hb)
  replace HXd := Lib.hid (blk_below HXd.out hb)
  replace HVk := Lib.hid (Kd.C_below HVk.out hb)
  replace HVl := Lib.hid (Kd.C_below HVl.out hb)
  clear hb hb0
  go_wp2
  go_ret
  exact ⟨rfl, HB.out⟩
 ·skip
  rw [if_neg (show ¬ x ≤ y by omega)] at hoy
  rw [decide_eq_false (show ¬ x < y by omega)] at hby
  have HOL := Lib.hid (openAt (by omega) (by omega) hqz hoy)
  have HBL := Lib.hid (behindAt (by omega) (by omega) hqz hby)
  simp only at HOL HBL
  clear hoy hby hqz q64
  have t2 : decide ((x : Int) ≤ (y : Int)) = false := decide_eq_false (by omega)
  have t3 : decide ((x : Int) < (y : Int)) = false := decide_eq_false (by omega)
  have u2 : decide (x ≤ y) = false := decide_eq_false (by omega)
  have u3 : decide (x < y) = false := decide_eq_false (by omega)
  clear hxy
  generalize pb r x ct = q at *
  generalize tm (hT (7 - x) (rT r)) = sx at *
  generalize tm (hT (7 - y) (rT r)) = sy at *
  generalize tm (sT x) = gx at *
  generalize tm (sT y) = gy at *
  generalize pubs (x + 1) = vx at *
  generalize pubs (y + 1) = vy at *
  go_wp2_with fail
  refine (HKX.out _).mono ?_
  rintro e W4 ⟨Ak, ck, rfl, hck, hCk, hb0⟩
  have hb := hb0
  replace HB := Lib.hid (below_step HB.out hb)
  clear hb hb0
  have HVk := Lib.hid hCk
  clear hCk
  replace HB := Lib.hid (below_alloc HB.out (.cells #[.string ⟨#[97, 110, 110, 97, 47, 110, 111, 116, 101, 115]⟩, .int .i64 (x : Int), .string sx, .string gx, .slice Ak vx.length ck] 45))
  replace HVk := Lib.hid (Kd.C_below HVk.out (below_alloc (Below.refl _ _) (.cells #[.string ⟨#[97, 110, 110, 97, 47, 110, 111, 116, 101, 115]⟩, .int .i64 (x : Int), .string sx, .string gx, .slice Ak vx.length ck] 45)))
  have HXk := Lib.hid (wnew W4 (.cells #[.string ⟨#[97, 110, 110, 97, 47, 110, 111, 116, 101, 115]⟩, .int .i64 (x : Int), .string sx, .string gx, .slice Ak vx.length ck] 45))
  go_wp2_with fail
  refine (HKY.out _).mono ?_
  rintro e W5 ⟨Al, cl, rfl, hcl, hCl, hb0⟩
  have hb := hb0
  replace HB := Lib.hid (below_step HB.out hb)
  replace HXk := Lib.hid (blk_below HXk.out hb)
  replace HVk := Lib.hid (Kd.C_below HVk.out hb)
  clear hb hb0
  have HVl := Lib.hid hCl
  clear hCl
  replace HB := Lib.hid (below_alloc HB.out (.cells #[.string ⟨#[97, 110, 110, 97, 47, 110, 111, 116, 101, 115]⟩, .int .i64 (y : Int), .string sy, .string gy, .slice Al vy.length cl] 45))
  replace HXk := Lib.hid (wkeep HXk.out (.cells #[.string ⟨#[97, 110, 110, 97, 47, 110, 111, 116, 101, 115]⟩, .int .i64 (y : Int), .string sy, .string gy, .slice Al vy.length cl] 45))
  replace HVk := Lib.hid (Kd.C_below HVk.out (below_alloc (Below.refl _ _) (.cells #[.string ⟨#[97, 110, 110, 97, 47, 110, 111, 116, 101, 115]⟩, .int .i64 (y : Int), .string sy, .string gy, .slice Al vy.length cl] 45)))
  replace HVl := Lib.hid (Kd.C_below HVl.out (below_alloc (Below.refl _ _) (.cells #[.string ⟨#[97, 110, 110, 97, 47, 110, 111, 116, 101, 115]⟩, .int .i64 (y : Int), .string sy, .string gy, .slice Al vy.length cl] 45)))
  have HXl := Lib.hid (wnew W5 (.cells #[.string ⟨#[97, 110, 110, 97, 47, 110, 111, 116, 101, 115]⟩, .int .i64 (y : Int), .string sy, .string gy, .slice Al vy.length cl] 45))
  have xk0 := cell_of_blk (j := 0) (v := .string ⟨#[97, 110, 110, 97, 47, 110, 111, 116, 101, 115]⟩) HXk.out rfl
  have xk1 := cell_of_blk (j := 1) (v := .int .i64 (x : Int)) HXk.out rfl
  have xk2 := cell_of_blk (j := 2) (v := .string sx) HXk.out rfl
  have xk3 := cell_of_blk (j := 3) (v := .string gx) HXk.out rfl
  have xk4 := cell_of_blk (j := 4) (v := .slice Ak vx.length ck) HXk.out rfl
  go_wp2_with fail
  refine (HSE.out _ _ _ _ HB.out).mono ?_
  rintro e W6 ⟨rfl, hb0⟩
  clear xk0 xk1 xk2 xk3 xk4
  have hb := hb0
  replace HB := Lib.hid (below_step HB.out hb)
  replace HXk := Lib.hid (blk_below HXk.out hb)
  replace HXl := Lib.hid (blk_below HXl.out hb)
  replace HVk := Lib.hid (Kd.C_below HVk.out hb)
  replace HVl := Lib.hid (Kd.C_below HVl.out hb)
  clear hb hb0
  have xl0 := cell_of_blk (j := 0) (v := .string ⟨#[97, 110, 110, 97, 47, 110, 111, 116, 101, 115]⟩) HXl.out rfl
  have xl1 := cell_of_blk (j := 1) (v := .int .i64 (y : Int)) HXl.out rfl
  have xl2 := cell_of_blk (j := 2) (v := .string sy) HXl.out rfl
  have xl3 := cell_of_blk (j := 3) (v := .string gy) HXl.out rfl
  have xl4 := cell_of_blk (j := 4) (v := .slice Al vy.length cl) HXl.out rfl
  go_wp2_with fail
  refine (HOL.out _ _ _ hcl HVl.out).mono ?_
  rintro e W7 ⟨rfl, hb0⟩
  clear xl0 xl1 xl2 xl3 xl4
  have hb := hb0
  replace HB := Lib.hid (below_step HB.out hb)
  replace HXk := Lib.hid (blk_below HXk.out hb)
  replace HXl := Lib.hid (blk_below HXl.out hb)
  replace HVk := Lib.hid (Kd.C_below HVk.out hb)
  replace HVl := Lib.hid (Kd.C_below HVl.out hb)
  clear hb hb0
  have xk0 := cell_of_blk (j := 0) (v := .string ⟨#[97, 110, 110, 97, 47, 110, 111, 116, 101, 115]⟩) HXk.out rfl
  have xk1 := cell_of_blk (j := 1) (v := .int .i64 (x : Int)) HXk.out rfl
  have xk2 := cell_of_blk (j := 2) (v := .string sx) HXk.out rfl
  have xk3 := cell_of_blk (j := 3) (v := .string gx) HXk.out rfl
  have xk4 := cell_of_blk (j := 4) (v := .slice Ak vx.length ck) HXk.out rfl
  have zb := free_of_blk (j := 3) (wnew W7 (.cells #[.string ⟨#[97, 110, 110, 97, 47, 110, 111, 116, 101, 115]⟩, .int .i64 (x : Int), .string sx, .string gx, .slice Ak vx.length ck] 45))
  replace HB := Lib.hid (below_alloc HB.out (.cells #[.string ⟨#[97, 110, 110, 97, 47, 110, 111, 116, 101, 115]⟩, .int .i64 (x : Int), .string sx, .string ⟨#[]⟩, .slice Ak vx.length ck] 45))
  replace HXk := Lib.hid (wkeep HXk.out (.cells #[.string ⟨#[97, 110, 110, 97, 47, 110, 111, 116, 101, 115]⟩, .int .i64 (x : Int), .string sx, .string ⟨#[]⟩, .slice Ak vx.length ck] 45))
  replace HXl := Lib.hid (wkeep HXl.out (.cells #[.string ⟨#[97, 110, 110, 97, 47, 110, 111, 116, 101, 115]⟩, .int .i64 (x : Int), .string sx, .string ⟨#[]⟩, .slice Ak vx.length ck] 45))
  replace HVk := Lib.hid (Kd.C_below HVk.out (below_alloc (Below.refl _ _) (.cells #[.string ⟨#[97, 110, 110, 97, 47, 110, 111, 116, 101, 115]⟩, .int .i64 (x : Int), .string sx, .string ⟨#[]⟩, .slice Ak vx.length ck] 45)))
  replace HVl := Lib.hid (Kd.C_below HVl.out (below_alloc (Below.refl _ _) (.cells #[.string ⟨#[97, 110, 110, 97, 47, 110, 111, 116, 101, 115]⟩, .int .i64 (x : Int), .string sx, .string ⟨#[]⟩, .slice Ak vx.length ck] 45)))
  have HXd := Lib.hid (wnew W7 (.cells #[.string ⟨#[97, 110, 110, 97, 47, 110, 111, 116, 101, 115]⟩, .int .i64 (x : Int), .string sx, .string ⟨#[]⟩, .slice Ak vx.length ck] 45))
  have xd0 := cell_of_blk (j := 0) (v := .string ⟨#[97, 110, 110, 97, 47, 110, 111, 116, 101, 115]⟩) HXd.out rfl
  have xd1 := cell_of_blk (j := 1) (v := .int .i64 (x : Int)) HXd.out rfl
  have xd2 := cell_of_blk (j := 2) (v := .string sx) HXd.out rfl
  have xd3 := cell_of_blk (j := 3) (v := .string ⟨#[]⟩) HXd.out rfl
  have xd4 := cell_of_blk (j := 4) (v := .slice Ak vx.length ck) HXd.out rfl
  go_wp2_with fail
  refine (HOR.out _ _ _ hck HVk.out).mono ?_
  rintro e W8 ⟨rfl, hb0⟩
  clear xk0 xk1 xk2 xk3 xk4 zb xd0 xd1 xd2 xd3 xd4
  have hb := hb0
  replace HB := Lib.hid (below_step HB.out hb)
  replace HXk := Lib.hid (blk_below HXk.out hb)
  replace HXl := Lib.hid (blk_below HXl.out hb)
  replace HXd := Lib.hid (blk_below HXd.out hb)
  replace HVk := Lib.hid (Kd.C_below HVk.out hb)
  replace HVl := Lib.hid (Kd.C_below HVl.out hb)
  clear hb hb0
  have xd0 := cell_of_blk (j := 0) (v := .string ⟨#[97, 110, 110, 97, 47, 110, 111, 116, 101, 115]⟩) HXd.out rfl
  have xd1 := cell_of_blk (j := 1) (v := .int .i64 (x : Int)) HXd.out rfl
  have xd2 := cell_of_blk (j := 2) (v := .string sx) HXd.out rfl
  have xd3 := cell_of_blk (j := 3) (v := .string ⟨#[]⟩) HXd.out rfl
  have xd4 := cell_of_blk (j := 4) (v := .slice Ak vx.length ck) HXd.out rfl
  go_wp2_with fail
  refine (HSR.out _ _ _ _ HB.out).mono ?_
  rintro e W9 ⟨rfl, hb0⟩
  clear xd0 xd1 xd2 xd3 xd4
  have hb := hb0
  replace HB := Lib.hid (below_step HB.out hb)
  replace HXk := Lib.hid (blk_below HXk.out hb)
  replace HXl := Lib.hid (blk_below HXl.out hb)
  replace HXd := Lib.hid (blk_below HXd.out hb)
  replace HVk := Lib.hid (Kd.C_below HVk.out hb)
  replace HVl := Lib.hid (Kd.C_below HVl.out hb)
  clear hb hb0
  have xl0 := cell_of_blk (j := 0) (v := .string ⟨#[97, 110, 110, 97, 47, 110, 111, 116, 101, 115]⟩) HXl.out rfl
  have xl1 := cell_of_blk (j := 1) (v := .int .i64 (y : Int)) HXl.out rfl
  have xl2 := cell_of_blk (j := 2) (v := .string sy) HXl.out rfl
  have xl3 := cell_of_blk (j := 3) (v := .string gy) HXl.out rfl
  have xl4 := cell_of_blk (j := 4) (v := .slice Al vy.length cl) HXl.out rfl
  go_wp2_with fail
  refine (HBL.out _ _ _ hcl HVl.out).mono ?_
  rintro e W10 ⟨rfl, hb0⟩
  clear xl0 xl1 xl2 xl3 xl4
  have hb := hb0
  replace HB := Lib.hid (below_step HB.out hb)
  replace HXk := Lib.hid (blk_below HXk.out hb)
  replace HXl := Lib.hid (blk_below HXl.out hb)
  replace HXd := Lib.hid (blk_below HXd.out hb)
  replace HVk := Lib.hid (Kd.C_below HVk.out hb)
  replace HVl := Lib.hid (Kd.C_below HVl.out hb)
  clear hb hb0
  have xk0 := cell_of_blk (j := 0) (v := .string ⟨#[97, 110, 110, 97, 47, 110, 111, 116, 101, 115]⟩) HXk.out rfl
  have xk1 := cell_of_blk (j := 1) (v := .int .i64 (x : Int)) HXk.out rfl
  have xk2 := cell_of_blk (j := 2) (v := .string sx) HXk.out rfl
  have xk3 := cell_of_blk (j := 3) (v := .string gx) HXk.out rfl
  have xk4 := cell_of_blk (j := 4) (v := .slice Ak vx.length ck) HXk.out rfl
  go_wp2_with fail
  refine (HBK.out _ _ _ hck HVk.out).mono ?_
  rintro e W11 ⟨rfl, hb0⟩
  clear xk0 xk1 xk2 xk3 xk4
  have hb := hb0
  replace HB := Lib.hid (below_step HB.out hb)
  replace HXk := Lib.hid (blk_below HXk.out hb)
  replace HXl := Lib.hid (blk_below HXl.out hb)
  replace HXd := Lib.hid (blk_below HXd.out hb)
  replace HVk := Lib.hid (Kd.C_below HVk.out hb)
  replace HVl := Lib.hid (Kd.C_below HVl.out hb)
  clear hb hb0
  go_wp2
  go_ret
  exact ⟨rfl, HB.out⟩
end Go.Proofs.YtphehoidkmficaaGreatDoor
end
section

namespace Go.Proofs.YtphehoidkmficaaGreatDoor
open Go.RowKit Go.Proofs.YtphehoidkmficaaGreatDoorW.PrintWords Go.Proofs.YtphehoidkmficaaGreatDoorW.PrintLast Go.Proofs.YtphehoidkmficaaGreatDoor.Ref
set_option linter.unusedVariables false
set_option linter.unusedSimpArgs false
set_option maxRecDepth 100000 in
set_option maxHeartbeats 8000000 in
theorem reads17_any (n0 a b : Int) (ct blob : ByteArray) (w : World) (HTB : Aside0 (Tabs w)) (h0 : (Lit.int .i64 n0).wf = true) (h1 : (Lit.int .i64 a).wf = true) (h2 : (Lit.int .i64 b).wf = true) (h3 : ct.size ≤ 140737488351232) (h4 : blob.size ≤ 140737488351232) :
  Calls Tryz.prog 7 #[.int .i64 n0, .int .i64 a, .int .i64 b, .string ct, .string blob] w fun e w' => e = .returned (.bool true) ∧ Below w.heap.size w w' := by
 have HSH := Lib.hid (fun (W : World) (hb : Below w.heap.size w W) => shown17_call W ⟨HTB.out.below hb⟩)
 have hr := pick_lt n0 (n := 5) (by omega)
 have hx := pick_lt a (n := 8) (by omega)
 have hy := pick_lt b (n := 8) (by omega)
 have HPX := Lib.hid (fun W => pick17_call a 8 (by omega) (by omega) (i64_of h1) W)
 have HPY := Lib.hid (fun W => pick17_call b 8 (by omega) (by omega) (i64_of h2) W)
 generalize pickN a 8 = x at *
 generalize pickN b 8 = y at *
 have HKX := Lib.hid (fun W => keysOf_call n0 (x := x) (i64_of h0) (by omega) W)
 have HKY := Lib.hid (fun W => keysOf_call n0 (x := y) (i64_of h0) (by omega) W)
 generalize pickN n0 5 = r at *
 have HB := Lib.hid (Below.refl w.heap.size w)
 go_enter Tryz.func7, Tryz.ntmps7
 go_wp2_with fail
 refine (HSH.out _ HB.out).mono ?_
 rintro e W1 ⟨rfl, hb0⟩
 have hb := hb0
 replace HB := Lib.hid (below_step HB.out hb)
 clear hb hb0
 by_cases q200 : ct.size ≤ 200
 rotate_left
 ·have t0 : decide (200 < (ct.size : Int)) = true := decide_eq_true (by omega)
  go_wp2
  go_ret
  exact ⟨rfl, HB.out⟩
 have t0 : decide (200 < (ct.size : Int)) = false := decide_eq_false (by omega)
 by_cases q5 : blob.size ≤ 5000
 rotate_left
 ·have t1 : decide (5000 < (blob.size : Int)) = true := decide_eq_true (by omega)
  go_wp2
  go_ret
  exact ⟨rfl, HB.out⟩
 have t1 : decide (5000 < (blob.size : Int)) = false := decide_eq_false (by omega)
 have hgx := sg_small (i := x) (by omega)
 have hc2 : hi.size ≤ 64 := by decide
 have hqz := pb_size (r := r) (x := x) (ct := hi) (by omega) (by omega) hc2
 have hs1 : rsealF (kk r y ⟨#[]⟩) ct = (⟨#[]⟩, 6) := seal_kr
 have hs2 : rsealF (kk r x (tm (sT x))) hi = (pb r x hi, 0) := seal_ky (by omega) (by omega) hc2
 have hn1 : renewF (kk r y ⟨#[]⟩) (pb r x hi) = if x < y then (⟨#[]⟩, false, 6) else if x = y then (pb r x hi, false, 0) else (⟨#[]⟩, false, 7) := renew_kr (by omega) (by omega) (by omega) hc2
 have hb1 : behindF (kk r y ⟨#[]⟩) (pb r x hi) = decide (x < y) := behind_pb (by omega) (by omega) (by omega) hc2
 obtain ⟨Z, hZ⟩ : ∃ Z, renewF (kk r y ⟨#[]⟩) blob = Z := ⟨_, rfl⟩
 obtain ⟨O, hO⟩ : ∃ O, ropenF (kk r y ⟨#[]⟩) blob = O := ⟨_, rfl⟩
 have HE : Hid (O.2 ≠ 0 → Z.2.2 = O.2) := Lib.hid (fun h => by rw [← hZ, renew_err (by rw [hO]; exact h), hO])
 obtain ⟨R, hR⟩ : ∃ R : ByteArray × Bool × Int, (if x < y then (⟨#[]⟩, false, 6) else if x = y then (pb r x hi, false, 0) else (⟨#[]⟩, false, 7)) = R := ⟨_, rfl⟩
 rw [hR] at hn1
 have HS1 := Lib.hid (sealAt HTB (by omega) (by omega) (by decide) hs1)
 have HS2 := Lib.hid (sealAt HTB (by omega) (by omega) hgx hs2)
 have HN1 := Lib.hid (renewAt HTB (by omega) (by omega) (by decide) hqz hn1)
 have HN2 := Lib.hid (renewAt HTB (by omega) (by omega) (by decide) (by omega) hZ)
 have HO1 := Lib.hid (openAt (by omega) (by omega) (by omega) hO)
 have HB1 := Lib.hid (behindAt (by omega) (by omega) hqz hb1)
 simp only at HS1 HS2 HN1 HN2 HO1 HB1
 have HR := Lib.hid hR
 clear hs1 hs2 hn1 hb1 hZ hO hgx hqz q200 q5 hR
 generalize pb r x hi = q at *
 generalize tm (hT (7 - x) (rT r)) = sx at *
 generalize tm (hT (7 - y) (rT r)) = sy at *
 generalize tm (sT x) = gx at *
 generalize tm (sT y) = gy at *
 generalize pubs (x + 1) = vx at *
 generalize pubs (y + 1) = vy at *
 go_wp2_with fail
 refine (HPX.out _).mono ?_
 rintro e W2 ⟨rfl, hb0⟩
 have hb := hb0
 replace HB := Lib.hid (below_step HB.out hb)
 clear hb hb0
 go_wp2_with fail
 refine (HPY.out _).mono ?_
 rintro e W3 ⟨rfl, hb0⟩
 have hb := hb0
 replace HB := Lib.hid (below_step HB.out hb)
 clear hb hb0
 go_wp2_with fail
 refine (HKY.out _).mono ?_
 rintro e W4 ⟨Ak, ck, rfl, hck, hCk, hb0⟩
 have hb := hb0
 replace HB := Lib.hid (below_step HB.out hb)
 clear hb hb0
 have HVk := Lib.hid hCk
 clear hCk
 have zb := free_of_blk (j := 3) (wnew W4 (.cells #[.string ⟨#[97, 110, 110, 97, 47, 110, 111, 116, 101, 115]⟩, .int .i64 (y : Int), .string sy, .string gy, .slice Ak vy.length ck] 45))
 replace HB := Lib.hid (below_alloc HB.out (.cells #[.string ⟨#[97, 110, 110, 97, 47, 110, 111, 116, 101, 115]⟩, .int .i64 (y : Int), .string sy, .string ⟨#[]⟩, .slice Ak vy.length ck] 45))
 replace HVk := Lib.hid (Kd.C_below HVk.out (below_alloc (Below.refl _ _) (.cells #[.string ⟨#[97, 110, 110, 97, 47, 110, 111, 116, 101, 115]⟩, .int .i64 (y : Int), .string sy, .string ⟨#[]⟩, .slice Ak vy.length ck] 45)))
 have HXk := Lib.hid (wnew W4 (.cells #[.string ⟨#[97, 110, 110, 97, 47, 110, 111, 116, 101, 115]⟩, .int .i64 (y : Int), .string sy, .string ⟨#[]⟩, .slice Ak vy.length ck] 45))
 have xk0 := cell_of_blk (j := 0) (v := .string ⟨#[97, 110, 110, 97, 47, 110, 111, 116, 101, 115]⟩) HXk.out rfl
 have xk1 := cell_of_blk (j := 1) (v := .int .i64 (y : Int)) HXk.out rfl
 have xk2 := cell_of_blk (j := 2) (v := .string sy) HXk.out rfl
 have xk3 := cell_of_blk (j := 3) (v := .string ⟨#[]⟩) HXk.out rfl
 have xk4 := cell_of_blk (j := 4) (v := .slice Ak vy.length ck) HXk.out rfl
 go_wp2_with fail
 refine (HS1.out _ _ _ _ HB.out).mono ?_
 rintro e W5 ⟨rfl, hb0⟩
 clear zb xk0 xk1 xk2 xk3 xk4
 have hb := hb0
 replace HB := Lib.hid (below_step HB.out hb)
 replace HXk := Lib.hid (blk_below HXk.out hb)
 replace HVk := Lib.hid (Kd.C_below HVk.out hb)
 clear hb hb0
 go_wp2_with fail
 refine (HKX.out _).mono ?_
 rintro e W6 ⟨Al, cl, rfl, hcl, hCl, hb0⟩
 have hb := hb0
 replace HB := Lib.hid (below_step HB.out hb)
 replace HXk := Lib.hid (blk_below HXk.out hb)
 replace HVk := Lib.hid (Kd.C_below HVk.out hb)
 clear hb hb0
 have HVl := Lib.hid hCl
 clear hCl
 go_wp2_with fail
 refine (HS2.out _ _ _ _ HB.out).mono ?_
 rintro e W7 ⟨rfl, hb0⟩
 have hb := hb0
 replace HB := Lib.hid (below_step HB.out hb)
 replace HXk := Lib.hid (blk_below HXk.out hb)
 replace HVk := Lib.hid (Kd.C_below HVk.out hb)
 replace HVl := Lib.hid (Kd.C_below HVl.out hb)
 clear hb hb0
 have xk0 := cell_of_blk (j := 0) (v := .string ⟨#[97, 110, 110, 97, 47, 110, 111, 116, 101, 115]⟩) HXk.out rfl
 have xk1 := cell_of_blk (j := 1) (v := .int .i64 (y : Int)) HXk.out rfl
 have xk2 := cell_of_blk (j := 2) (v := .string sy) HXk.out rfl
 have xk3 := cell_of_blk (j := 3) (v := .string ⟨#[]⟩) HXk.out rfl
 have xk4 := cell_of_blk (j := 4) (v := .slice Ak vy.length ck) HXk.out rfl
 go_wp2_with fail
 refine (HN1.out _ _ _ HB.out hck HVk.out).mono ?_
 rintro e W8 ⟨rfl, hb0⟩
 clear xk0 xk1 xk2 xk3 xk4
 have hb := hb0
 replace HB := Lib.hid (below_step HB.out hb)
 replace HXk := Lib.hid (blk_below HXk.out hb)
 replace HVk := Lib.hid (Kd.C_below HVk.out hb)
 replace HVl := Lib.hid (Kd.C_below HVl.out hb)
 clear hb hb0
 have xk0 := cell_of_blk (j := 0) (v := .string ⟨#[97, 110, 110, 97, 47, 110, 111, 116, 101, 115]⟩) HXk.out rfl
 have xk1 := cell_of_blk (j := 1) (v := .int .i64 (y : Int)) HXk.out rfl
 have xk2 := cell_of_blk (j := 2) (v := .string sy) HXk.out rfl
 have xk3 := cell_of_blk (j := 3) (v := .string ⟨#[]⟩) HXk.out rfl
 have xk4 := cell_of_blk (j := 4) (v := .slice Ak vy.length ck) HXk.out rfl
 go_wp2_with fail
 refine (HN2.out _ _ _ HB.out hck HVk.out).mono ?_
 rintro e W9 ⟨rfl, hb0⟩
 clear xk0 xk1 xk2 xk3 xk4
 have hb := hb0
 replace HB := Lib.hid (below_step HB.out hb)
 replace HXk := Lib.hid (blk_below HXk.out hb)
 replace HVk := Lib.hid (Kd.C_below HVk.out hb)
 replace HVl := Lib.hid (Kd.C_below HVl.out hb)
 clear hb hb0
 have xk0 := cell_of_blk (j := 0) (v := .string ⟨#[97, 110, 110, 97, 47, 110, 111, 116, 101, 115]⟩) HXk.out rfl
 have xk1 := cell_of_blk (j := 1) (v := .int .i64 (y : Int)) HXk.out rfl
 have xk2 := cell_of_blk (j := 2) (v := .string sy) HXk.out rfl
 have xk3 := cell_of_blk (j := 3) (v := .string ⟨#[]⟩) HXk.out rfl
 have xk4 := cell_of_blk (j := 4) (v := .slice Ak vy.length ck) HXk.out rfl
 go_wp2_with fail
 refine (HO1.out _ _ _ hck HVk.out).mono ?_
 rintro e W10 ⟨rfl, hb0⟩
 clear xk0 xk1 xk2 xk3 xk4
 have hb := hb0
 replace HB := Lib.hid (below_step HB.out hb)
 replace HXk := Lib.hid (blk_below HXk.out hb)
 replace HVk := Lib.hid (Kd.C_below HVk.out hb)
 replace HVl := Lib.hid (Kd.C_below HVl.out hb)
 clear hb hb0
 have HEo := HE.out
 by_cases qi : O.2 = 0
 ·skip
  have k1 : (O.2 != 0) = false := by rw [qi]; rfl
  rcases Nat.lt_trichotomy x y with hxy | hxy | hxy
  ·skip
   obtain rfl : R = (⟨#[]⟩, false, 6) := by rw [← HR.out, if_pos hxy]
   clear HR
   have t2 : decide ((x : Int) < (y : Int)) = true := decide_eq_true (by omega)
   have u2 : decide (x < y) = true := decide_eq_true hxy
   clear hxy
   have HBH := Lib.hid HB1.out
   rw [u2] at HBH
   have xk0 := cell_of_blk (j := 0) (v := .string ⟨#[97, 110, 110, 97, 47, 110, 111, 116, 101, 115]⟩) HXk.out rfl
   have xk1 := cell_of_blk (j := 1) (v := .int .i64 (y : Int)) HXk.out rfl
   have xk2 := cell_of_blk (j := 2) (v := .string sy) HXk.out rfl
   have xk3 := cell_of_blk (j := 3) (v := .string ⟨#[]⟩) HXk.out rfl
   have xk4 := cell_of_blk (j := 4) (v := .slice Ak vy.length ck) HXk.out rfl
   go_wp2_with fail
   refine (HBH.out _ _ _ hck HVk.out).mono ?_
   rintro e W11 ⟨rfl, hb0⟩
   clear xk0 xk1 xk2 xk3 xk4
   have hb := hb0
   replace HB := Lib.hid (below_step HB.out hb)
   replace HXk := Lib.hid (blk_below HXk.out hb)
   replace HVk := Lib.hid (Kd.C_below HVk.out hb)
   replace HVl := Lib.hid (Kd.C_below HVl.out hb)
   clear hb hb0
   go_wp2
   go_ret
   exact ⟨rfl, HB.out⟩
  ·skip
   obtain rfl : R = (q, false, 0) := by rw [← HR.out, if_neg (show ¬ x < y by omega), if_pos hxy]
   clear HR
   have t2 : decide ((x : Int) < (y : Int)) = false := decide_eq_false (by omega)
   have u2 : decide (x < y) = false := decide_eq_false (by omega)
   have t3 : ((x : Int) == (y : Int)) = true := by rw [hxy]; simp
   clear hxy
   have HBH := Lib.hid HB1.out
   rw [u2] at HBH
   have xk0 := cell_of_blk (j := 0) (v := .string ⟨#[97, 110, 110, 97, 47, 110, 111, 116, 101, 115]⟩) HXk.out rfl
   have xk1 := cell_of_blk (j := 1) (v := .int .i64 (y : Int)) HXk.out rfl
   have xk2 := cell_of_blk (j := 2) (v := .string sy) HXk.out rfl
   have xk3 := cell_of_blk (j := 3) (v := .string ⟨#[]⟩) HXk.out rfl
   have xk4 := cell_of_blk (j := 4) (v := .slice Ak vy.length ck) HXk.out rfl
   go_wp2_with fail
   refine (HBH.out _ _ _ hck HVk.out).mono ?_
   rintro e W11 ⟨rfl, hb0⟩
   clear xk0 xk1 xk2 xk3 xk4
   have hb := hb0
   replace HB := Lib.hid (below_step HB.out hb)
   replace HXk := Lib.hid (blk_below HXk.out hb)
   replace HVk := Lib.hid (Kd.C_below HVk.out hb)
   replace HVl := Lib.hid (Kd.C_below HVl.out hb)
   clear hb hb0
   go_wp2
   go_ret
   exact ⟨rfl, HB.out⟩
  ·skip
   obtain rfl : R = (⟨#[]⟩, false, 7) := by rw [← HR.out, if_neg (show ¬ x < y by omega), if_neg (show ¬ x = y by omega)]
   clear HR
   have t2 : decide ((x : Int) < (y : Int)) = false := decide_eq_false (by omega)
   have u2 : decide (x < y) = false := decide_eq_false (by omega)
   have t3 : ((x : Int) == (y : Int)) = false := by rw [beq_eq_false_iff_ne]; omega
   clear hxy
   have HBH := Lib.hid HB1.out
   rw [u2] at HBH
   have xk0 := cell_of_blk (j := 0) (v := .string ⟨#[97, 110, 110, 97, 47, 110, 111, 116, 101, 115]⟩) HXk.out rfl
   have xk1 := cell_of_blk (j := 1) (v := .int .i64 (y : Int)) HXk.out rfl
   have xk2 := cell_of_blk (j := 2) (v := .string sy) HXk.out rfl
   have xk3 := cell_of_blk (j := 3) (v := .string ⟨#[]⟩) HXk.out rfl
   have xk4 := cell_of_blk (j := 4) (v := .slice Ak vy.length ck) HXk.out rfl
   go_wp2_with fail
   refine (HBH.out _ _ _ hck HVk.out).mono ?_
   rintro e W11 ⟨rfl, hb0⟩
   clear xk0 xk1 xk2 xk3 xk4
   have hb := hb0
   replace HB := Lib.hid (below_step HB.out hb)
   replace HXk := Lib.hid (blk_below HXk.out hb)
   replace HVk := Lib.hid (Kd.C_below HVk.out hb)
   replace HVl := Lib.hid (Kd.C_below HVl.out hb)
   clear hb hb0
   go_wp2
   go_ret
   exact ⟨rfl, HB.out⟩
 ·skip
  have k1 : (O.2 != 0) = true := by rw [bne_iff_ne]; exact qi
  have k2 : (Z.2.2 != O.2) = false := by rw [HEo qi]; simp
  rcases Nat.lt_trichotomy x y with hxy | hxy | hxy
  ·skip
   obtain rfl : R = (⟨#[]⟩, false, 6) := by rw [← HR.out, if_pos hxy]
   clear HR
   have t2 : decide ((x : Int) < (y : Int)) = true := decide_eq_true (by omega)
   have u2 : decide (x < y) = true := decide_eq_true hxy
   clear hxy
   have HBH := Lib.hid HB1.out
   rw [u2] at HBH
   have xk0 := cell_of_blk (j := 0) (v := .string ⟨#[97, 110, 110, 97, 47, 110, 111, 116, 101, 115]⟩) HXk.out rfl
   have xk1 := cell_of_blk (j := 1) (v := .int .i64 (y : Int)) HXk.out rfl
   have xk2 := cell_of_blk (j := 2) (v := .string sy) HXk.out rfl
   have xk3 := cell_of_blk (j := 3) (v := .string ⟨#[]⟩) HXk.out rfl
   have xk4 := cell_of_blk (j := 4) (v := .slice Ak vy.length ck) HXk.out rfl
   go_wp2_with fail
   refine (HBH.out _ _ _ hck HVk.out).mono ?_
   rintro e W11 ⟨rfl, hb0⟩
   clear xk0 xk1 xk2 xk3 xk4
   have hb := hb0
   replace HB := Lib.hid (below_step HB.out hb)
   replace HXk := Lib.hid (blk_below HXk.out hb)
   replace HVk := Lib.hid (Kd.C_below HVk.out hb)
   replace HVl := Lib.hid (Kd.C_below HVl.out hb)
   clear hb hb0
   go_wp2
   go_ret
   exact ⟨rfl, HB.out⟩
  ·skip
   obtain rfl : R = (q, false, 0) := by rw [← HR.out, if_neg (show ¬ x < y by omega), if_pos hxy]
   clear HR
   have t2 : decide ((x : Int) < (y : Int)) = false := decide_eq_false (by omega)
   have u2 : decide (x < y) = false := decide_eq_false (by omega)
   have t3 : ((x : Int) == (y : Int)) = true := by rw [hxy]; simp
   clear hxy
   have HBH := Lib.hid HB1.out
   rw [u2] at HBH
   have xk0 := cell_of_blk (j := 0) (v := .string ⟨#[97, 110, 110, 97, 47, 110, 111, 116, 101, 115]⟩) HXk.out rfl
   have xk1 := cell_of_blk (j := 1) (v := .int .i64 (y : Int)) HXk.out rfl
   have xk2 := cell_of_blk (j := 2) (v := .string sy) HXk.out rfl
   have xk3 := cell_of_blk (j := 3) (v := .string ⟨#[]⟩) HXk.out rfl
   have xk4 := cell_of_blk (j := 4) (v := .slice Ak vy.length ck) HXk.out rfl
   go_wp2_with fail
   refine (HBH.out _ _ _ hck HVk.out).mono ?_
   rintro e W11 ⟨rfl, hb0⟩
   clear xk0 xk1 xk2 xk3 xk4
   have hb := hb0
   replace HB := Lib.hid (below_step HB.out hb)
   replace HXk := Lib.hid (blk_below HXk.out hb)
   replace HVk := Lib.hid (Kd.C_below HVk.out hb)
   replace HVl := Lib.hid (Kd.C_below HVl.out hb)
   clear hb hb0
   go_wp2
   go_ret
   exact ⟨rfl, HB.out⟩
  ·skip
   obtain rfl : R = (⟨#[]⟩, false, 7) := by rw [← HR.out, if_neg (show ¬ x < y by omega), if_neg (show ¬ x = y by omega)]
   clear HR
   have t2 : decide ((x : Int) < (y : Int)) = false := decide_eq_false (by omega)
   have u2 : decide (x < y) = false := decide_eq_false (by omega)
   have t3 : ((x : Int) == (y : Int)) = false := by rw [beq_eq_false_iff_ne]; omega
   clear hxy
   have HBH := Lib.hid HB1.out
   rw [u2] at HBH
   have xk0 := cell_of_blk (j := 0) (v := .string ⟨#[97, 110, 110, 97, 47, 110, 111, 116, 101, 115]⟩) HXk.out rfl
   have xk1 := cell_of_blk (j := 1) (v := .int .i64 (y : Int)) HXk.out rfl
   have xk2 := cell_of_blk (j := 2) (v := .string sy) HXk.out rfl
   have xk3 := cell_of_blk (j := 3) (v := .string ⟨#[]⟩) HXk.out rfl
   have xk4 := cell_of_blk (j := 4) (v := .slice Ak vy.length ck) HXk.out rfl
   go_wp2_with fail
   refine (HBH.out _ _ _ hck HVk.out).mono ?_
   rintro e W11 ⟨rfl, hb0⟩
   clear xk0 xk1 xk2 xk3 xk4
   have hb := hb0
   replace HB := Lib.hid (below_step HB.out hb)
   replace HXk := Lib.hid (blk_below HXk.out hb)
   replace HVk := Lib.hid (Kd.C_below HVk.out hb)
   replace HVl := Lib.hid (Kd.C_below HVl.out hb)
   clear hb hb0
   go_wp2
   go_ret
   exact ⟨rfl, HB.out⟩
end Go.Proofs.YtphehoidkmficaaGreatDoor
end
section

namespace Go.Proofs.YtphehoidkmficaaGreatDoor
open Go.RowKit Go.Proofs.YtphehoidkmficaaGreatDoorW.PrintWords Go.Proofs.YtphehoidkmficaaGreatDoorW.PrintLast Go.Proofs.YtphehoidkmficaaGreatDoor.Ref
set_option linter.unusedVariables false
set_option linter.unusedSimpArgs false
set_option maxRecDepth 100000 in
set_option maxHeartbeats 8000000 in
theorem renews17_any (n0 a b : Int) (ct : ByteArray) (w : World) (HTB : Aside0 (Tabs w)) (h0 : (Lit.int .i64 n0).wf = true) (h1 : (Lit.int .i64 a).wf = true) (h2 : (Lit.int .i64 b).wf = true) (h3 : ct.size ≤ 140737488351232) :
  Calls Tryz.prog 6 #[.int .i64 n0, .int .i64 a, .int .i64 b, .string ct] w fun e w' => e = .returned (.bool true) ∧ Below w.heap.size w w' := by
 have HSH := Lib.hid (fun (W : World) (hb : Below w.heap.size w W) => shown17_call W ⟨HTB.out.below hb⟩)
 have hr := pick_lt n0 (n := 5) (by omega)
 have hxa := pick_lt a (n := 8) (by omega)
 have hya := pick_lt b (n := 8) (by omega)
 have HPX := Lib.hid (fun W => pick17_call a 8 (by omega) (by omega) (i64_of h1) W)
 have HPY := Lib.hid (fun W => pick17_call b 8 (by omega) (by omega) (i64_of h2) W)
 generalize pickN a 8 = xa at *
 generalize pickN b 8 = ya at *
 have hmn : min (xa : Int) (ya : Int) = ((min xa ya : Nat) : Int) := by omega
 have hmx : max (xa : Int) (ya : Int) = ((max xa ya : Nat) : Int) := by omega
 have HKK := Lib.hid (fun (x : Nat) (h : x ≤ 7) (W : World) => keysOf_call n0 (x := x) (i64_of h0) h W)
 generalize pickN n0 5 = r at *
 have HB := Lib.hid (Below.refl w.heap.size w)
 go_enter Tryz.func6, Tryz.ntmps6
 go_wp2_with fail
 refine (HSH.out _ HB.out).mono ?_
 rintro e W1 ⟨rfl, hb0⟩
 have hb := hb0
 replace HB := Lib.hid (below_step HB.out hb)
 clear hb hb0
 by_cases q64 : ct.size ≤ 64
 rotate_left
 ·have t0 : decide (64 < (ct.size : Int)) = true := decide_eq_true (by omega)
  go_wp2
  go_ret
  exact ⟨rfl, HB.out⟩
 have t0 : decide (64 < (ct.size : Int)) = false := decide_eq_false (by omega)
 go_wp2_with fail
 refine (HPX.out _).mono ?_
 rintro e W2 ⟨rfl, hb0⟩
 have hb := hb0
 replace HB := Lib.hid (below_step HB.out hb)
 clear hb hb0
 go_wp2_with fail
 refine (HPY.out _).mono ?_
 rintro e W3 ⟨rfl, hb0⟩
 have hb := hb0
 replace HB := Lib.hid (below_step HB.out hb)
 clear hb hb0
 go_wp2_with fail
 refine (HPX.out _).mono ?_
 rintro e W4 ⟨rfl, hb0⟩
 have hb := hb0
 replace HB := Lib.hid (below_step HB.out hb)
 clear hb hb0
 go_wp2_with fail
 refine (HPY.out _).mono ?_
 rintro e W5 ⟨rfl, hb0⟩
 have hb := hb0
 replace HB := Lib.hid (below_step HB.out hb)
 clear hb hb0
 go_wp2_with fail
 have hx : min xa ya ≤ 7 := by omega
 have hy : max xa ya ≤ 7 := by omega
 have hle : min xa ya ≤ max xa ya := by omega
 have HKX := Lib.hid (HKK.out _ hx)
 have HKY := Lib.hid (HKK.out _ hy)
 generalize min xa ya = x at *
 generalize max xa ya = y at *
 clear hxa hya HKK h0 h1 h2 h3
 have hgx := sg_small (i := x) (by omega)
 have hgy := sg_small (i := y) (by omega)
 have hqz := pb_size (r := r) (x := x) (ct := ct) (by omega) (by omega) q64
 have hpz := pb_size (r := r) (x := y) (ct := ct) (by omega) (by omega) q64
 have hs : rsealF (kk r x (tm (sT x))) ct = (pb r x ct, 0) := seal_ky (by omega) (by omega) q64
 have hn1 : renewF (kk r y (tm (sT y))) (pb r x ct) = if x < y then (pb r y ct, true, 0) else if x = y then (pb r x ct, false, 0) else (⟨#[]⟩, false, 7) := renew_ky (by omega) (by omega) (by omega) q64
 have hn2 : renewF (kk r y (tm (sT y))) (pb r y ct) = (pb r y ct, false, 0) := by rw [show kk r y (tm (sT y)) = ky r y from rfl, renew_ky (by omega) (by omega) (by omega) q64, if_neg (Nat.lt_irrefl _), if_pos rfl]
 have hb : behindF (kk r y (tm (sT y))) (pb r y ct) = false := by rw [behind_pb (by omega) (by omega) (by omega) q64, decide_eq_false (Nat.lt_irrefl _)]
 have ho1 : ropenF (kk r y (tm (sT y))) (pb r y ct) = (ct, 0) := by rw [open_pb (by omega) (by omega) (by omega) q64, if_pos (Nat.le_refl _)]
 have ho2 : ropenF (kk r x (tm (sT x))) (pb r y ct) = if y ≤ x then (ct, 0) else (⟨#[]⟩, 7) := open_pb (by omega) (by omega) (by omega) q64
 have hn3 : renewF (kk r y ⟨#[]⟩) (pb r x ct) = if x < y then (⟨#[]⟩, false, 6) else if x = y then (pb r x ct, false, 0) else (⟨#[]⟩, false, 7) := renew_kr (by omega) (by omega) (by omega) q64
 have hxy : x < y ∨ x = y := by omega
 rcases hxy with hxy | rfl
 ·skip
  rw [if_pos hxy] at hn1 hn3
  rw [if_neg (by omega)] at ho2
  have t2 : decide ((x : Int) < (y : Int)) = true := decide_eq_true (by omega)
  have u2 : decide (x < y) = true := decide_eq_true hxy
  have t3 : ((x : Int) == (y : Int)) = false := by rw [beq_eq_false_iff_ne]; omega
  have HSE := Lib.hid (sealAt HTB (by omega) (by omega) hgx hs)
  have HN1 := Lib.hid (renewAt HTB (by omega) (by omega) hgy hqz hn1)
  have HN2 := Lib.hid (renewAt HTB (by omega) (by omega) hgy hpz hn2)
  have HBH := Lib.hid (behindAt (by omega) (by omega) hpz hb)
  have HO1 := Lib.hid (openAt (by omega) (by omega) hpz ho1)
  have HO2 := Lib.hid (openAt (by omega) (by omega) hpz ho2)
  have HN3 := Lib.hid (renewAt HTB (by omega) (by omega) (by decide) hqz hn3)
  simp only at HSE HN1 HN2 HBH HO1 HO2 HN3
  clear hs hn1 hn2 hb ho1 ho2 hn3 hgx hgy hqz hpz q64
  generalize pb r x ct = q at *
  generalize pb r y ct = p at *
  generalize tm (hT (7 - x) (rT r)) = sx at *
  generalize tm (hT (7 - y) (rT r)) = sy at *
  generalize tm (sT x) = gx at *
  generalize tm (sT y) = gy at *
  generalize pubs (x + 1) = vx at *
  generalize pubs (y + 1) = vy at *
  go_wp2_with fail
  refine (HKX.out _).mono ?_
  rintro e W6 ⟨Ak, ck, rfl, hck, hCk, hb0⟩
  have hb := hb0
  replace HB := Lib.hid (below_step HB.out hb)
  clear hb hb0
  have HVk := Lib.hid hCk
  clear hCk
  replace HB := Lib.hid (below_alloc HB.out (.cells #[.string ⟨#[97, 110, 110, 97, 47, 110, 111, 116, 101, 115]⟩, .int .i64 (x : Int), .string sx, .string gx, .slice Ak vx.length ck] 45))
  replace HVk := Lib.hid (Kd.C_below HVk.out (below_alloc (Below.refl _ _) (.cells #[.string ⟨#[97, 110, 110, 97, 47, 110, 111, 116, 101, 115]⟩, .int .i64 (x : Int), .string sx, .string gx, .slice Ak vx.length ck] 45)))
  have HXk := Lib.hid (wnew W6 (.cells #[.string ⟨#[97, 110, 110, 97, 47, 110, 111, 116, 101, 115]⟩, .int .i64 (x : Int), .string sx, .string gx, .slice Ak vx.length ck] 45))
  go_wp2_with fail
  refine (HKY.out _).mono ?_
  rintro e W7 ⟨Al, cl, rfl, hcl, hCl, hb0⟩
  have hb := hb0
  replace HB := Lib.hid (below_step HB.out hb)
  replace HXk := Lib.hid (blk_below HXk.out hb)
  replace HVk := Lib.hid (Kd.C_below HVk.out hb)
  clear hb hb0
  have HVl := Lib.hid hCl
  clear hCl
  replace HB := Lib.hid (below_alloc HB.out (.cells #[.string ⟨#[97, 110, 110, 97, 47, 110, 111, 116, 101, 115]⟩, .int .i64 (y : Int), .string sy, .string gy, .slice Al vy.length cl] 45))
  replace HXk := Lib.hid (wkeep HXk.out (.cells #[.string ⟨#[97, 110, 110, 97, 47, 110, 111, 116, 101, 115]⟩, .int .i64 (y : Int), .string sy, .string gy, .slice Al vy.length cl] 45))
  replace HVk := Lib.hid (Kd.C_below HVk.out (below_alloc (Below.refl _ _) (.cells #[.string ⟨#[97, 110, 110, 97, 47, 110, 111, 116, 101, 115]⟩, .int .i64 (y : Int), .string sy, .string gy, .slice Al vy.length cl] 45)))
  replace HVl := Lib.hid (Kd.C_below HVl.out (below_alloc (Below.refl _ _) (.cells #[.string ⟨#[97, 110, 110, 97, 47, 110, 111, 116, 101, 115]⟩, .int .i64 (y : Int), .string sy, .string gy, .slice Al vy.length cl] 45)))
  have HXl := Lib.hid (wnew W7 (.cells #[.string ⟨#[97, 110, 110, 97, 47, 110, 111, 116, 101, 115]⟩, .int .i64 (y : Int), .string sy, .string gy, .slice Al vy.length cl] 45))
  have xk0 := cell_of_blk (j := 0) (v := .string ⟨#[97, 110, 110, 97, 47, 110, 111, 116, 101, 115]⟩) HXk.out rfl
  have xk1 := cell_of_blk (j := 1) (v := .int .i64 (x : Int)) HXk.out rfl
  have xk2 := cell_of_blk (j := 2) (v := .string sx) HXk.out rfl
  have xk3 := cell_of_blk (j := 3) (v := .string gx) HXk.out rfl
  have xk4 := cell_of_blk (j := 4) (v := .slice Ak vx.length ck) HXk.out rfl
  go_wp2_with fail
  refine (HSE.out _ _ _ _ HB.out).mono ?_
  rintro e W8 ⟨rfl, hb0⟩
  clear xk0 xk1 xk2 xk3 xk4
  have hb := hb0
  replace HB := Lib.hid (below_step HB.out hb)
  replace HXk := Lib.hid (blk_below HXk.out hb)
  replace HXl := Lib.hid (blk_below HXl.out hb)
  replace HVk := Lib.hid (Kd.C_below HVk.out hb)
  replace HVl := Lib.hid (Kd.C_below HVl.out hb)
  clear hb hb0
  have xl0 := cell_of_blk (j := 0) (v := .string ⟨#[97, 110, 110, 97, 47, 110, 111, 116, 101, 115]⟩) HXl.out rfl
  have xl1 := cell_of_blk (j := 1) (v := .int .i64 (y : Int)) HXl.out rfl
  have xl2 := cell_of_blk (j := 2) (v := .string sy) HXl.out rfl
  have xl3 := cell_of_blk (j := 3) (v := .string gy) HXl.out rfl
  have xl4 := cell_of_blk (j := 4) (v := .slice Al vy.length cl) HXl.out rfl
  go_wp2_with fail
  refine (HN1.out _ _ _ HB.out hcl HVl.out).mono ?_
  rintro e W9 ⟨rfl, hb0⟩
  clear xl0 xl1 xl2 xl3 xl4
  have hb := hb0
  replace HB := Lib.hid (below_step HB.out hb)
  replace HXk := Lib.hid (blk_below HXk.out hb)
  replace HXl := Lib.hid (blk_below HXl.out hb)
  replace HVk := Lib.hid (Kd.C_below HVk.out hb)
  replace HVl := Lib.hid (Kd.C_below HVl.out hb)
  clear hb hb0
  have xl0 := cell_of_blk (j := 0) (v := .string ⟨#[97, 110, 110, 97, 47, 110, 111, 116, 101, 115]⟩) HXl.out rfl
  have xl1 := cell_of_blk (j := 1) (v := .int .i64 (y : Int)) HXl.out rfl
  have xl2 := cell_of_blk (j := 2) (v := .string sy) HXl.out rfl
  have xl3 := cell_of_blk (j := 3) (v := .string gy) HXl.out rfl
  have xl4 := cell_of_blk (j := 4) (v := .slice Al vy.length cl) HXl.out rfl
  go_wp2_with fail
  refine (HN2.out _ _ _ HB.out hcl HVl.out).mono ?_
  rintro e W10 ⟨rfl, hb0⟩
  clear xl0 xl1 xl2 xl3 xl4
  have hb := hb0
  replace HB := Lib.hid (below_step HB.out hb)
  replace HXk := Lib.hid (blk_below HXk.out hb)
  replace HXl := Lib.hid (blk_below HXl.out hb)
  replace HVk := Lib.hid (Kd.C_below HVk.out hb)
  replace HVl := Lib.hid (Kd.C_below HVl.out hb)
  clear hb hb0
  have xl0 := cell_of_blk (j := 0) (v := .string ⟨#[97, 110, 110, 97, 47, 110, 111, 116, 101, 115]⟩) HXl.out rfl
  have xl1 := cell_of_blk (j := 1) (v := .int .i64 (y : Int)) HXl.out rfl
  have xl2 := cell_of_blk (j := 2) (v := .string sy) HXl.out rfl
  have xl3 := cell_of_blk (j := 3) (v := .string gy) HXl.out rfl
  have xl4 := cell_of_blk (j := 4) (v := .slice Al vy.length cl) HXl.out rfl
  go_wp2_with fail
  refine (HBH.out _ _ _ hcl HVl.out).mono ?_
  rintro e W11 ⟨rfl, hb0⟩
  clear xl0 xl1 xl2 xl3 xl4
  have hb := hb0
  replace HB := Lib.hid (below_step HB.out hb)
  replace HXk := Lib.hid (blk_below HXk.out hb)
  replace HXl := Lib.hid (blk_below HXl.out hb)
  replace HVk := Lib.hid (Kd.C_below HVk.out hb)
  replace HVl := Lib.hid (Kd.C_below HVl.out hb)
  clear hb hb0
  have xl0 := cell_of_blk (j := 0) (v := .string ⟨#[97, 110, 110, 97, 47, 110, 111, 116, 101, 115]⟩) HXl.out rfl
  have xl1 := cell_of_blk (j := 1) (v := .int .i64 (y : Int)) HXl.out rfl
  have xl2 := cell_of_blk (j := 2) (v := .string sy) HXl.out rfl
  have xl3 := cell_of_blk (j := 3) (v := .string gy) HXl.out rfl
  have xl4 := cell_of_blk (j := 4) (v := .slice Al vy.length cl) HXl.out rfl
  go_wp2_with fail
  refine (HO1.out _ _ _ hcl HVl.out).mono ?_
  rintro e W12 ⟨rfl, hb0⟩
  clear xl0 xl1 xl2 xl3 xl4
  have hb := hb0
  replace HB := Lib.hid (below_step HB.out hb)
  replace HXk := Lib.hid (blk_below HXk.out hb)
  replace HXl := Lib.hid (blk_below HXl.out hb)
  replace HVk := Lib.hid (Kd.C_below HVk.out hb)
  replace HVl := Lib.hid (Kd.C_below HVl.out hb)
  clear hb hb0
  have xk0 := cell_of_blk (j := 0) (v := .string ⟨#[97, 110, 110, 97, 47, 110, 111, 116, 101, 115]⟩) HXk.out rfl
  have xk1 := cell_of_blk (j := 1) (v := .int .i64 (x : Int)) HXk.out rfl
  have xk2 := cell_of_blk (j := 2) (v := .string sx) HXk.out rfl
  have xk3 := cell_of_blk (j := 3) (v := .string gx) HXk.out rfl
  have xk4 := cell_of_blk (j := 4) (v := .slice Ak vx.length ck) HXk.out rfl
  go_wp2_with fail
  refine (HO2.out _ _ _ hck HVk.out).mono ?_
  rintro e W13 ⟨rfl, hb0⟩
  clear xk0 xk1 xk2 xk3 xk4
  have hb := hb0
  replace HB := Lib.hid (below_step HB.out hb)
  replace HXk := Lib.hid (blk_below HXk.out hb)
  replace HXl := Lib.hid (blk_below HXl.out hb)
  replace HVk := Lib.hid (Kd.C_below HVk.out hb)
  replace HVl := Lib.hid (Kd.C_below HVl.out hb)
  clear hb hb0
  have xl0 := cell_of_blk (j := 0) (v := .string ⟨#[97, 110, 110, 97, 47, 110, 111, 116, 101, 115]⟩) HXl.out rfl
  have xl1 := cell_of_blk (j := 1) (v := .int .i64 (y : Int)) HXl.out rfl
  have xl2 := cell_of_blk (j := 2) (v := .string sy) HXl.out rfl
  have xl3 := cell_of_blk (j := 3) (v := .string gy) HXl.out rfl
  have xl4 := cell_of_blk (j := 4) (v := .slice Al vy.length cl) HXl.out rfl
  have zb := free_of_blk (j := 3) (wnew W13 (.cells #[.string ⟨#[97, 110, 110, 97, 47, 110, 111, 116, 101, 115]⟩, .int .i64 (y : Int), .string sy, .string gy, .slice Al vy.length cl] 45))
  replace HB := Lib.hid (below_alloc HB.out (.cells #[.string ⟨#[97, 110, 110, 97, 47, 110, 111, 116, 101, 115]⟩, .int .i64 (y : Int), .string sy, .string ⟨#[]⟩, .slice Al vy.length cl] 45))
  replace HXk := Lib.hid (wkeep HXk.out (.cells #[.string ⟨#[97, 110, 110, 97, 47, 110, 111, 116, 101, 115]⟩, .int .i64 (y : Int), .string sy, .string ⟨#[]⟩, .slice Al vy.length cl] 45))
  replace HXl := Lib.hid (wkeep HXl.out (.cells #[.string ⟨#[97, 110, 110, 97, 47, 110, 111, 116, 101, 115]⟩, .int .i64 (y : Int), .string sy, .string ⟨#[]⟩, .slice Al vy.length cl] 45))
  replace HVk := Lib.hid (Kd.C_below HVk.out (below_alloc (Below.refl _ _) (.cells #[.string ⟨#[97, 110, 110, 97, 47, 110, 111, 116, 101, 115]⟩, .int .i64 (y : Int), .string sy, .string ⟨#[]⟩, .slice Al vy.length cl] 45)))
  replace HVl := Lib.hid (Kd.C_below HVl.out (below_alloc (Below.refl _ _) (.cells #[.string ⟨#[97, 110, 110, 97, 47, 110, 111, 116, 101, 115]⟩, .int .i64 (y : Int), .string sy, .string ⟨#[]⟩, .slice Al vy.length cl] 45)))
  have HXd := Lib.hid (wnew W13 (.cells #[.string ⟨#[97, 110, 110, 97, 47, 110, 111, 116, 101, 115]⟩, .int .i64 (y : Int), .string sy, .string ⟨#[]⟩, .slice Al vy.length cl] 45))
  have xd0 := cell_of_blk (j := 0) (v := .string ⟨#[97, 110, 110, 97, 47, 110, 111, 116, 101, 115]⟩) HXd.out rfl
  have xd1 := cell_of_blk (j := 1) (v := .int .i64 (y : Int)) HXd.out rfl
  have xd2 := cell_of_blk (j := 2) (v := .string sy) HXd.out rfl
  have xd3 := cell_of_blk (j := 3) (v := .string ⟨#[]⟩) HXd.out rfl
  have xd4 := cell_of_blk (j := 4) (v := .slice Al vy.length cl) HXd.out rfl
  go_wp2_with fail
  refine (HN3.out _ _ _ HB.out hcl HVl.out).mono ?_
  rintro e W14 ⟨rfl, hb0⟩
  clear xl0 xl1 xl2 xl3 xl4 zb xd0 xd1 xd2 xd3 xd4
  have hb := hb0
  replace HB := Lib.hid (below_step HB.out hb)
  replace HXk := Lib.hid (blk_below HXk.out hb)
  replace HXl := Lib.hid (blk_below HXl.out hb)
  replace HXd := Lib.hid (blk_below HXd.out hb)
  replace HVk := Lib.hid (Kd.C_below HVk.out hb)
  replace HVl := Lib.hid (Kd.C_below HVl.out hb)
  clear hb hb0
  go_wp2
  go_ret
  exact ⟨rfl, HB.out⟩
 ·skip
  rw [if_neg (Nat.lt_irrefl _), if_pos rfl] at hn1 hn3
  rw [if_pos (Nat.le_refl _)] at ho2
  have t2 : decide ((x : Int) < (x : Int)) = false := decide_eq_false (by omega)
  have u2 : decide (x < x) = false := decide_eq_false (by omega)
  have HSE := Lib.hid (sealAt HTB (by omega) (by omega) hgx hs)
  have HN1 := Lib.hid (renewAt HTB (by omega) (by omega) hgy hqz hn1)
  have HN2 := Lib.hid (renewAt HTB (by omega) (by omega) hgy hpz hn2)
  have HBH := Lib.hid (behindAt (by omega) (by omega) hpz hb)
  have HO1 := Lib.hid (openAt (by omega) (by omega) hpz ho1)
  have HO2 := Lib.hid (openAt (by omega) (by omega) hpz ho2)
  have HN3 := Lib.hid (renewAt HTB (by omega) (by omega) (by decide) hqz hn3)
  simp only at HSE HN1 HN2 HBH HO1 HO2 HN3
  clear hs hn1 hn2 hb ho1 ho2 hn3 hgx hgy hqz hpz q64
  generalize pb r x ct = q at *
  generalize tm (hT (7 - x) (rT r)) = sx at *
  generalize tm (sT x) = gx at *
  generalize pubs (x + 1) = vx at *
  go_wp2_with fail
  refine (HKX.out _).mono ?_
  rintro e W6 ⟨Ak, ck, rfl, hck, hCk, hb0⟩
  have hb := hb0
  replace HB := Lib.hid (below_step HB.out hb)
  clear hb hb0
  have HVk := Lib.hid hCk
  clear hCk
  replace HB := Lib.hid (below_alloc HB.out (.cells #[.string ⟨#[97, 110, 110, 97, 47, 110, 111, 116, 101, 115]⟩, .int .i64 (x : Int), .string sx, .string gx, .slice Ak vx.length ck] 45))
  replace HVk := Lib.hid (Kd.C_below HVk.out (below_alloc (Below.refl _ _) (.cells #[.string ⟨#[97, 110, 110, 97, 47, 110, 111, 116, 101, 115]⟩, .int .i64 (x : Int), .string sx, .string gx, .slice Ak vx.length ck] 45)))
  have HXk := Lib.hid (wnew W6 (.cells #[.string ⟨#[97, 110, 110, 97, 47, 110, 111, 116, 101, 115]⟩, .int .i64 (x : Int), .string sx, .string gx, .slice Ak vx.length ck] 45))
  go_wp2_with fail
  refine (HKY.out _).mono ?_
  rintro e W7 ⟨Al, cl, rfl, hcl, hCl, hb0⟩
  have hb := hb0
  replace HB := Lib.hid (below_step HB.out hb)
  replace HXk := Lib.hid (blk_below HXk.out hb)
  replace HVk := Lib.hid (Kd.C_below HVk.out hb)
  clear hb hb0
  have HVl := Lib.hid hCl
  clear hCl
  replace HB := Lib.hid (below_alloc HB.out (.cells #[.string ⟨#[97, 110, 110, 97, 47, 110, 111, 116, 101, 115]⟩, .int .i64 (x : Int), .string sx, .string gx, .slice Al vx.length cl] 45))
  replace HXk := Lib.hid (wkeep HXk.out (.cells #[.string ⟨#[97, 110, 110, 97, 47, 110, 111, 116, 101, 115]⟩, .int .i64 (x : Int), .string sx, .string gx, .slice Al vx.length cl] 45))
  replace HVk := Lib.hid (Kd.C_below HVk.out (below_alloc (Below.refl _ _) (.cells #[.string ⟨#[97, 110, 110, 97, 47, 110, 111, 116, 101, 115]⟩, .int .i64 (x : Int), .string sx, .string gx, .slice Al vx.length cl] 45)))
  replace HVl := Lib.hid (Kd.C_below HVl.out (below_alloc (Below.refl _ _) (.cells #[.string ⟨#[97, 110, 110, 97, 47, 110, 111, 116, 101, 115]⟩, .int .i64 (x : Int), .string sx, .string gx, .slice Al vx.length cl] 45)))
  have HXl := Lib.hid (wnew W7 (.cells #[.string ⟨#[97, 110, 110, 97, 47, 110, 111, 116, 101, 115]⟩, .int .i64 (x : Int), .string sx, .string gx, .slice Al vx.length cl] 45))
  have xk0 := cell_of_blk (j := 0) (v := .string ⟨#[97, 110, 110, 97, 47, 110, 111, 116, 101, 115]⟩) HXk.out rfl
  have xk1 := cell_of_blk (j := 1) (v := .int .i64 (x : Int)) HXk.out rfl
  have xk2 := cell_of_blk (j := 2) (v := .string sx) HXk.out rfl
  have xk3 := cell_of_blk (j := 3) (v := .string gx) HXk.out rfl
  have xk4 := cell_of_blk (j := 4) (v := .slice Ak vx.length ck) HXk.out rfl
  go_wp2_with fail
  refine (HSE.out _ _ _ _ HB.out).mono ?_
  rintro e W8 ⟨rfl, hb0⟩
  clear xk0 xk1 xk2 xk3 xk4
  have hb := hb0
  replace HB := Lib.hid (below_step HB.out hb)
  replace HXk := Lib.hid (blk_below HXk.out hb)
  replace HXl := Lib.hid (blk_below HXl.out hb)
  replace HVk := Lib.hid (Kd.C_below HVk.out hb)
  replace HVl := Lib.hid (Kd.C_below HVl.out hb)
  clear hb hb0
  have xl0 := cell_of_blk (j := 0) (v := .string ⟨#[97, 110, 110, 97, 47, 110, 111, 116, 101, 115]⟩) HXl.out rfl
  have xl1 := cell_of_blk (j := 1) (v := .int .i64 (x : Int)) HXl.out rfl
  have xl2 := cell_of_blk (j := 2) (v := .string sx) HXl.out rfl
  have xl3 := cell_of_blk (j := 3) (v := .string gx) HXl.out rfl
  have xl4 := cell_of_blk (j := 4) (v := .slice Al vx.length cl) HXl.out rfl
  go_wp2_with fail
  refine (HN1.out _ _ _ HB.out hcl HVl.out).mono ?_
  rintro e W9 ⟨rfl, hb0⟩
  clear xl0 xl1 xl2 xl3 xl4
  have hb := hb0
  replace HB := Lib.hid (below_step HB.out hb)
  replace HXk := Lib.hid (blk_below HXk.out hb)
  replace HXl := Lib.hid (blk_below HXl.out hb)
  replace HVk := Lib.hid (Kd.C_below HVk.out hb)
  replace HVl := Lib.hid (Kd.C_below HVl.out hb)
  clear hb hb0
  have xl0 := cell_of_blk (j := 0) (v := .string ⟨#[97, 110, 110, 97, 47, 110, 111, 116, 101, 115]⟩) HXl.out rfl
  have xl1 := cell_of_blk (j := 1) (v := .int .i64 (x : Int)) HXl.out rfl
  have xl2 := cell_of_blk (j := 2) (v := .string sx) HXl.out rfl
  have xl3 := cell_of_blk (j := 3) (v := .string gx) HXl.out rfl
  have xl4 := cell_of_blk (j := 4) (v := .slice Al vx.length cl) HXl.out rfl
  go_wp2_with fail
  refine (HN2.out _ _ _ HB.out hcl HVl.out).mono ?_
  rintro e W10 ⟨rfl, hb0⟩
  clear xl0 xl1 xl2 xl3 xl4
  have hb := hb0
  replace HB := Lib.hid (below_step HB.out hb)
  replace HXk := Lib.hid (blk_below HXk.out hb)
  replace HXl := Lib.hid (blk_below HXl.out hb)
  replace HVk := Lib.hid (Kd.C_below HVk.out hb)
  replace HVl := Lib.hid (Kd.C_below HVl.out hb)
  clear hb hb0
  have xl0 := cell_of_blk (j := 0) (v := .string ⟨#[97, 110, 110, 97, 47, 110, 111, 116, 101, 115]⟩) HXl.out rfl
  have xl1 := cell_of_blk (j := 1) (v := .int .i64 (x : Int)) HXl.out rfl
  have xl2 := cell_of_blk (j := 2) (v := .string sx) HXl.out rfl
  have xl3 := cell_of_blk (j := 3) (v := .string gx) HXl.out rfl
  have xl4 := cell_of_blk (j := 4) (v := .slice Al vx.length cl) HXl.out rfl
  go_wp2_with fail
  refine (HBH.out _ _ _ hcl HVl.out).mono ?_
  rintro e W11 ⟨rfl, hb0⟩
  clear xl0 xl1 xl2 xl3 xl4
  have hb := hb0
  replace HB := Lib.hid (below_step HB.out hb)
  replace HXk := Lib.hid (blk_below HXk.out hb)
  replace HXl := Lib.hid (blk_below HXl.out hb)
  replace HVk := Lib.hid (Kd.C_below HVk.out hb)
  replace HVl := Lib.hid (Kd.C_below HVl.out hb)
  clear hb hb0
  have xl0 := cell_of_blk (j := 0) (v := .string ⟨#[97, 110, 110, 97, 47, 110, 111, 116, 101, 115]⟩) HXl.out rfl
  have xl1 := cell_of_blk (j := 1) (v := .int .i64 (x : Int)) HXl.out rfl
  have xl2 := cell_of_blk (j := 2) (v := .string sx) HXl.out rfl
  have xl3 := cell_of_blk (j := 3) (v := .string gx) HXl.out rfl
  have xl4 := cell_of_blk (j := 4) (v := .slice Al vx.length cl) HXl.out rfl
  go_wp2_with fail
  refine (HO1.out _ _ _ hcl HVl.out).mono ?_
  rintro e W12 ⟨rfl, hb0⟩
  clear xl0 xl1 xl2 xl3 xl4
  have hb := hb0
  replace HB := Lib.hid (below_step HB.out hb)
  replace HXk := Lib.hid (blk_below HXk.out hb)
  replace HXl := Lib.hid (blk_below HXl.out hb)
  replace HVk := Lib.hid (Kd.C_below HVk.out hb)
  replace HVl := Lib.hid (Kd.C_below HVl.out hb)
  clear hb hb0
  have xk0 := cell_of_blk (j := 0) (v := .string ⟨#[97, 110, 110, 97, 47, 110, 111, 116, 101, 115]⟩) HXk.out rfl
  have xk1 := cell_of_blk (j := 1) (v := .int .i64 (x : Int)) HXk.out rfl
  have xk2 := cell_of_blk (j := 2) (v := .string sx) HXk.out rfl
  have xk3 := cell_of_blk (j := 3) (v := .string gx) HXk.out rfl
  have xk4 := cell_of_blk (j := 4) (v := .slice Ak vx.length ck) HXk.out rfl
  go_wp2_with fail
  refine (HO2.out _ _ _ hck HVk.out).mono ?_
  rintro e W13 ⟨rfl, hb0⟩
  clear xk0 xk1 xk2 xk3 xk4
  have hb := hb0
  replace HB := Lib.hid (below_step HB.out hb)
  replace HXk := Lib.hid (blk_below HXk.out hb)
  replace HXl := Lib.hid (blk_below HXl.out hb)
  replace HVk := Lib.hid (Kd.C_below HVk.out hb)
  replace HVl := Lib.hid (Kd.C_below HVl.out hb)
  clear hb hb0
  have xl0 := cell_of_blk (j := 0) (v := .string ⟨#[97, 110, 110, 97, 47, 110, 111, 116, 101, 115]⟩) HXl.out rfl
  have xl1 := cell_of_blk (j := 1) (v := .int .i64 (x : Int)) HXl.out rfl
  have xl2 := cell_of_blk (j := 2) (v := .string sx) HXl.out rfl
  have xl3 := cell_of_blk (j := 3) (v := .string gx) HXl.out rfl
  have xl4 := cell_of_blk (j := 4) (v := .slice Al vx.length cl) HXl.out rfl
  have zb := free_of_blk (j := 3) (wnew W13 (.cells #[.string ⟨#[97, 110, 110, 97, 47, 110, 111, 116, 101, 115]⟩, .int .i64 (x : Int), .string sx, .string gx, .slice Al vx.length cl] 45))
  replace HB := Lib.hid (below_alloc HB.out (.cells #[.string ⟨#[97, 110, 110, 97, 47, 110, 111, 116, 101, 115]⟩, .int .i64 (x : Int), .string sx, .string ⟨#[]⟩, .slice Al vx.length cl] 45))
  replace HXk := Lib.hid (wkeep HXk.out (.cells #[.string ⟨#[97, 110, 110, 97, 47, 110, 111, 116, 101, 115]⟩, .int .i64 (x : Int), .string sx, .string ⟨#[]⟩, .slice Al vx.length cl] 45))
  replace HXl := Lib.hid (wkeep HXl.out (.cells #[.string ⟨#[97, 110, 110, 97, 47, 110, 111, 116, 101, 115]⟩, .int .i64 (x : Int), .string sx, .string ⟨#[]⟩, .slice Al vx.length cl] 45))
  replace HVk := Lib.hid (Kd.C_below HVk.out (below_alloc (Below.refl _ _) (.cells #[.string ⟨#[97, 110, 110, 97, 47, 110, 111, 116, 101, 115]⟩, .int .i64 (x : Int), .string sx, .string ⟨#[]⟩, .slice Al vx.length cl] 45)))
  replace HVl := Lib.hid (Kd.C_below HVl.out (below_alloc (Below.refl _ _) (.cells #[.string ⟨#[97, 110, 110, 97, 47, 110, 111, 116, 101, 115]⟩, .int .i64 (x : Int), .string sx, .string ⟨#[]⟩, .slice Al vx.length cl] 45)))
  have HXd := Lib.hid (wnew W13 (.cells #[.string ⟨#[97, 110, 110, 97, 47, 110, 111, 116, 101, 115]⟩, .int .i64 (x : Int), .string sx, .string ⟨#[]⟩, .slice Al vx.length cl] 45))
  have xd0 := cell_of_blk (j := 0) (v := .string ⟨#[97, 110, 110, 97, 47, 110, 111, 116, 101, 115]⟩) HXd.out rfl
  have xd1 := cell_of_blk (j := 1) (v := .int .i64 (x : Int)) HXd.out rfl
  have xd2 := cell_of_blk (j := 2) (v := .string sx) HXd.out rfl
  have xd3 := cell_of_blk (j := 3) (v := .string ⟨#[]⟩) HXd.out rfl
  have xd4 := cell_of_blk (j := 4) (v := .slice Al vx.length cl) HXd.out rfl
  go_wp2_with fail
  refine (HN3.out _ _ _ HB.out hcl HVl.out).mono ?_
  rintro e W14 ⟨rfl, hb0⟩
  clear xl0 xl1 xl2 xl3 xl4 zb xd0 xd1 xd2 xd3 xd4
  have hb := hb0
  replace HB := Lib.hid (below_step HB.out hb)
  replace HXk := Lib.hid (blk_below HXk.out hb)
  replace HXl := Lib.hid (blk_below HXl.out hb)
  replace HXd := Lib.hid (blk_below HXd.out hb)
  replace HVk := Lib.hid (Kd.C_below HVk.out hb)
  replace HVl := Lib.hid (Kd.C_below HVl.out hb)
  clear hb hb0
  go_wp2
  go_ret
  exact ⟨rfl, HB.out⟩
end Go.Proofs.YtphehoidkmficaaGreatDoor
end
