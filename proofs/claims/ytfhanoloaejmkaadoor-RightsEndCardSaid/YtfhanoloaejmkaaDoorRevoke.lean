/- The contract of rights.Revoke. -/
import Derived.Test.YtfhanoloaejmkaaDoorGrant
namespace Go.Proofs.YtfhanoloaejmkaaDoor
open Go.RowKit Go.Proofs.YtfhanoloaejmkaaDoorW.PrintWords Go.Proofs.YtfhanoloaejmkaaDoor.Ref
set_option linter.unusedVariables false
set_option linter.unusedSimpArgs false

/-- The boxes of rights, of the user's name, of the result. -/
structure Bx (w0 W : World) (r : Rt) (v3 v4 : Value) (u : ByteArray) : Prop where
  bel : Below w0.heap.size w0 W
  box : BoxAt W w0.heap.size r v3 v4
  usr : W.heap[w0.heap.size + 1]? = some (.cells #[.string u] 9 (0, 0))
  res : BoxAt W (w0.heap.size + 1 + 1) noRt (.slice none 0 0) (.slice none 0 0)
theorem Bx.below {w0 W W' : World} {r : Rt} {v3 v4 : Value} {u : ByteArray} (h : Bx w0 W r v3 v4 u) (hb : Below W.heap.size W W') : Bx w0 W' r v3 v4 u :=
  ⟨below_step h.bel hb, h.box.below hb, blk_below h.usr hb, h.res.below hb⟩
theorem Bx.size {w0 W : World} {r : Rt} {v3 v4 : Value} {u : ByteArray} (h : Bx w0 W r v3 v4 u) : w0.heap.size + 3 ≤ W.heap.size := by
  obtain ⟨cs, _, hc⟩ := h.res
  have := blk_lt hc
  omega
theorem Bx.grown {w0 W W' : World} {r : Rt} {v3 v4 : Value} {u : ByteArray} {row : Option Nat} (h : Bx w0 W r v3 v4 u) (hg : W.grownBy W' row) (hr : ∀ k, row = some k → w0.heap.size + 3 ≤ k) : Bx w0 W' r v3 v4 u := by
  have hs := h.size
  refine ⟨h.bel.grown hg (by omega) (fun k hk => by have := hr k hk; omega), h.box.grown hg (fun e => by have := hr _ e.symm; omega), blk_grown h.usr hg (fun e => by have := hr _ e.symm; omega), h.res.grown hg (fun e => by have := hr _ e.symm; omega)⟩
theorem Bx.cell {w0 W : World} {r : Rt} {v3 v4 : Value} {u : ByteArray} (h : Bx w0 W r v3 v4 u) : W.cell? ⟨w0.heap.size + 1, 0, none⟩ = some (.string u) := blk_cell h.usr 0
theorem BoxAt.set2 {w : World} {b : Nat} {r : Rt} {v3 v4 : Value} (h : BoxAt w b r v3 v4) (n : Int) : BoxAt (w.setCell ⟨b, 2, none⟩ (.int .i64 n)) b ⟨r.o, r.f, n, r.rs, r.ws⟩ v3 v4 := by
  obtain ⟨cs, rfl, h⟩ := h
  exact ⟨_, rfl, blk_set h 2 _⟩
theorem own_apart {W4 W5 W6 : World} {B : Nat} {v v5 : Value} {l l5 : List ByteArray} (h4 : W4.ownsRow B 9 1 v l.length (strs l)) (h : W5.ownsRow B 9 1 v l.length (strs l)) (h5 : W5.ownsRow W4.heap.size 9 1 v5 l5.length (strs l5)) (hg : W5.grownBy W6 v5.ownBlock) :
    W6.ownsRow B 9 1 v l.length (strs l) ∧ True := by
  refine ⟨own_other h hg ?_, trivial⟩
  cases e : v.ownBlock with
  | none => exact Or.inl rfl
  | some k =>
    refine Or.inr fun e2 => ?_
    have h1 := own_lt h4 k e
    have h2 := own_base h5 k e2.symm
    omega
/-- Two rows of one's own, apart: what is told of them behind the stores into the boxes. -/
theorem rows_fin {w0 W : World} {v3 v4 : Value} {l3 l4 : List ByteArray} (o3 : W.ownsRow (w0.heap.size + 3) 9 1 v3 l3.length (strs l3)) (o4 : W.ownsRow (w0.heap.size + 3) 9 1 v4 l4.length (strs l4)) (hap : ∀ k, v3.ownBlock = some k → v4.ownBlock ≠ some k) (p q n a b c d e : Value) :
    Kd.R Kd.string 9 ((((((((W.setCell ⟨w0.heap.size, 3, none⟩ p).setCell ⟨w0.heap.size, 4, none⟩ q).setCell ⟨w0.heap.size, 2, none⟩ n).setCell ⟨w0.heap.size + 1 + 1, 0, none⟩ a).setCell ⟨w0.heap.size + 1 + 1, 1, none⟩ b).setCell ⟨w0.heap.size + 1 + 1, 2, none⟩ c).setCell ⟨w0.heap.size + 1 + 1, 3, none⟩ d).setCell ⟨w0.heap.size + 1 + 1, 4, none⟩ e) w0.heap.size (fun k_ => some k_ ≠ (v4 : Value).ownBlock) v3 l3 ∧
      Kd.R Kd.string 9 ((((((((W.setCell ⟨w0.heap.size, 3, none⟩ p).setCell ⟨w0.heap.size, 4, none⟩ q).setCell ⟨w0.heap.size, 2, none⟩ n).setCell ⟨w0.heap.size + 1 + 1, 0, none⟩ a).setCell ⟨w0.heap.size + 1 + 1, 1, none⟩ b).setCell ⟨w0.heap.size + 1 + 1, 2, none⟩ c).setCell ⟨w0.heap.size + 1 + 1, 3, none⟩ d).setCell ⟨w0.heap.size + 1 + 1, 4, none⟩ e) w0.heap.size (fun k_ => some k_ ≠ (v3 : Value).ownBlock) v4 l4 := by
  have q1 : w0.heap.size < w0.heap.size + 3 := by omega
  have q2 : w0.heap.size + 1 + 1 < w0.heap.size + 3 := by omega
  have go : ∀ {v : Value} {l : List ByteArray}, W.ownsRow (w0.heap.size + 3) 9 1 v l.length (strs l) → ((((((((W.setCell ⟨w0.heap.size, 3, none⟩ p).setCell ⟨w0.heap.size, 4, none⟩ q).setCell ⟨w0.heap.size, 2, none⟩ n).setCell ⟨w0.heap.size + 1 + 1, 0, none⟩ a).setCell ⟨w0.heap.size + 1 + 1, 1, none⟩ b).setCell ⟨w0.heap.size + 1 + 1, 2, none⟩ c).setCell ⟨w0.heap.size + 1 + 1, 3, none⟩ d).setCell ⟨w0.heap.size + 1 + 1, 4, none⟩ e).ownsRow w0.heap.size 9 1 v l.length (strs l) := fun h =>
    own_weaken (own_set (own_set (own_set (own_set (own_set (own_set (own_set (own_set h q1 p) q1 q) q1 n) q2 a) q2 b) q2 c) q2 d) q2 e) (by omega)
  exact ⟨Kd.R_of_own (go o3) (fun k hk e => hap k hk e.symm), Kd.R_of_own (go o4) (fun k hk e => hap k e.symm hk)⟩

set_option maxHeartbeats 4000000 in
set_option maxRecDepth 100000 in
theorem revoke_any (r : Rt) (u : ByteArray) (A : Option Addr) (c : Nat) (A' : Option Addr) (c' : Nat) (w : World) (HTB : Aside0 (Tabs w)) (hs : smallR r = true) (hu : u.size ≤ 1000000) (h1 : Kd.C Kd.string w A r.rs.length r.rs) (h2 : r.rs.length ≤ c) (h3 : Kd.C Kd.string w A' r.ws.length r.ws) (h4 : r.ws.length ≤ c') :
    Calls Tryd.prog 15 #[.agg #[.string r.o, .string r.f, .int .i64 r.e, .slice A r.rs.length c, .slice A' r.ws.length c'], .string u] w fun e w' => ∃ v3_ v4_ : Value, e = .returned (.tuple #[.agg #[.string (revokeF r u).1.o, .string (revokeF r u).1.f, .int .i64 (revokeF r u).1.e, v3_, v4_], .int .i64 (revokeF r u).2]) ∧ Kd.R Kd.string 9 w' w.heap.size (fun k_ => some k_ ≠ (v4_ : Value).ownBlock) v3_ (revokeF r u).1.rs ∧ Kd.R Kd.string 9 w' w.heap.size (fun k_ => some k_ ≠ (v3_ : Value).ownBlock) v4_ (revokeF r u).1.ws ∧ Below w.heap.size w w' := by
  obtain ⟨R, hR⟩ : ∃ R, revokeF r u = R := ⟨_, rfl⟩
  rw [hR]
  have HR := Lib.hid hR
  clear hR
  go_enter Tryd.func15, Tryd.ntmps15
  have hb0 : Bx w (((w.alloc (Obj.cells #[Value.string r.o, Value.string r.f, Value.int IntKind.i64 r.e, Value.slice A r.rs.length c, Value.slice A' r.ws.length c'] 26)).alloc (Obj.cells #[Value.string u] 9)).alloc (Obj.cells #[Value.string { data := #[] }, Value.string { data := #[] }, Value.int IntKind.i64 0, Value.slice none 0 0, Value.slice none 0 0] 26)) r (.slice A r.rs.length c) (.slice A' r.ws.length c') u := by
    refine ⟨below_alloc (below_alloc (below_alloc (Below.refl _ _) _) _) _, ⟨_, rfl, ?_⟩, ?_, ⟨_, rfl, ?_⟩⟩
    · rw [(World.grownBy_alloc _ _ none).block _ (by rw [World.size_alloc, World.size_alloc]; omega) (by simp), (World.grownBy_alloc _ _ none).block _ (by rw [World.size_alloc]; omega) (by simp)]
      exact heap_new _ _ _ rfl
    · rw [(World.grownBy_alloc _ _ none).block _ (by rw [World.size_alloc, World.size_alloc]; omega) (by simp)]
      exact heap_new _ _ _ (by rw [World.size_alloc])
    · exact heap_new _ _ _ (by rw [World.size_alloc, World.size_alloc])
  have HA := Lib.hid (asked_call r u A c A' c' _ ⟨HTB.out.below hb0.bel⟩ hs hu (Kd.C_below h1 hb0.bel) h2 (Kd.C_below h3 hb0.bel) h4)
  have HB0 := Lib.hid hb0
  have HS := Lib.hid hs
  have HC1 := Lib.hid h1
  have HC3 := Lib.hid h3
  clear hb0 hs h1 h3
  go_wp2_with fail
  refine HA.out.mono ?_
  rintro e w1 ⟨rfl, hb⟩
  have HB1 := Lib.hid (HB0.out.below hb)
  clear hb HB0 HA
  by_cases ha : askedF r u = 0
  · have hq : rightR r = true ∧ rightN (bytes u) = true := by
      unfold askedF at ha
      cases q1 : rightR r with
      | false => rw [q1] at ha; simp at ha
      | true =>
        cases q2 : rightN (bytes u) with
        | false => rw [q1, q2] at ha; simp at ha
        | true => exact ⟨rfl, rfl⟩
    obtain ⟨hq1, hq2⟩ := hq
    have hp := right_parts hq1
    obtain ⟨x0, x1, x2, x3, x4⟩ := HB1.out.box.cell
    have x5 := HB1.out.cell
    rw [ha]
    clear ha
    have HO := Lib.hid (other_call r u A c A' c' w1 HS.out (Kd.C_below HC1.out HB1.out.bel) h2 (Kd.C_below HC3.out HB1.out.bel) h4)
    rw [searchB_eq hp.2.2.2.2.1, searchB_eq hp.2.2.2.2.2.1] at HO
    have HP := Lib.hid hp
    have HQ := Lib.hid (And.intro hq1 hq2)
    clear hp hq1 hq2
    cases hoo : (decide (u ∈ r.rs) || decide (u ∈ r.ws)) with
    | false =>
      rw [hoo] at HO
      have hno : u ∉ r.rs ∧ u ∉ r.ws := by simpa using hoo
      have HN : Hid (R.1 = noRt ∧ R.2 = 4) := by
        rw [← HR.out]
        unfold revokeF
        rw [if_neg (by rw [HQ.out.1]; simp), if_neg (by rw [HQ.out.2]; simp), if_pos (by rintro (h | h); exact hno.1 h; exact hno.2 h)]
        exact ⟨rfl, rfl⟩
      clear hoo hno
      go_wp2_with fail
      refine HO.out.mono ?_
      rintro e w2 ⟨rfl, hb⟩
      have HB2 := Lib.hid (HB1.out.below hb)
      clear hb HO HB1 x0 x1 x2 x3 x4 x5
      obtain ⟨y0, y1, y2, y3, y4⟩ := HB2.out.res.cell
      have z0 := HB2.out.res.free 0
      have z1 := HB2.out.res.free 1
      have z2 := HB2.out.res.free 2
      have z3 := HB2.out.res.free 3
      have z4 := HB2.out.res.free 4
      go_wp2
      obtain ⟨cs, hcs, hblk⟩ := HB2.out.res.put noRt (.slice none 0 0) (.slice none 0 0)
      have hbl := BoxAt.put_below (b := w.heap.size + 1 + 1) HB2.out.bel (by omega) noRt (.slice none 0 0) (.slice none 0 0)
      subst hcs
      refine bodyPost_ret (results_ct rfl _ _ (w.heap.size + 1 + 1) 26 _ (0, 0) _ rfl hblk Tryd.underlying26 rfl (by kernel_rfl)) rfl ?_
      obtain ⟨R, er⟩ := R
      obtain ⟨rfl, rfl⟩ := (show Hid (R = noRt ∧ er = 4) from HN).out
      exact ⟨_, _, rfl, Kd.R_nil _ _ _ _ _, Kd.R_nil _ _ _ _ _, hbl⟩
    | true =>
      rw [hoo] at HO
      have hno : u ∈ r.rs ∨ u ∈ r.ws := by simpa using hoo
      have HNO := Lib.hid hno
      clear hoo hno
      go_wp2_with fail
      refine HO.out.mono ?_
      rintro e w2 ⟨rfl, hb⟩
      have HB2 := Lib.hid (HB1.out.below hb)
      clear hb HO HB1 x0 x1 x2 x3 x4 x5
      obtain ⟨x0, x1, x2, x3, x4⟩ := HB2.out.box.cell
      have x5 := HB2.out.cell
      have he0 : 0 ≤ r.e := HP.out.2.2.1.1
      have he1 : r.e ≤ 7 := HP.out.2.2.1.2
      by_cases h7 : r.e = 7
      · have HN : Hid (R.1 = noRt ∧ R.2 = 9) := by
          rw [← HR.out]
          unfold revokeF
          rw [if_neg (by rw [HQ.out.1]; simp), if_neg (by rw [HQ.out.2]; simp), if_neg (fun h => h HNO.out), if_pos h7]
          exact ⟨rfl, rfl⟩
        have h7b : (r.e == 7) = true := by rw [h7]; rfl
        clear h7
        obtain ⟨y0, y1, y2, y3, y4⟩ := HB2.out.res.cell
        have z0 := HB2.out.res.free 0
        have z1 := HB2.out.res.free 1
        have z2 := HB2.out.res.free 2
        have z3 := HB2.out.res.free 3
        have z4 := HB2.out.res.free 4
        go_wp2
        obtain ⟨cs, hcs, hblk⟩ := HB2.out.res.put noRt (.slice none 0 0) (.slice none 0 0)
        have hbl := BoxAt.put_below (b := w.heap.size + 1 + 1) HB2.out.bel (by omega) noRt (.slice none 0 0) (.slice none 0 0)
        subst hcs
        refine bodyPost_ret (results_ct rfl _ _ (w.heap.size + 1 + 1) 26 _ (0, 0) _ rfl hblk Tryd.underlying26 rfl (by kernel_rfl)) rfl ?_
        obtain ⟨R, er⟩ := R
        obtain ⟨rfl, rfl⟩ := (show Hid (R = noRt ∧ er = 9) from HN).out
        exact ⟨_, _, rfl, Kd.R_nil _ _ _ _ _, Kd.R_nil _ _ _ _ _, hbl⟩
      · have h7b : (r.e == 7) = false := by rw [beq_eq_false_iff_ne]; exact h7
        have HN : Hid (R = (⟨r.o, r.f, r.e + 1, dropL r.rs u, dropL r.ws u⟩, 0)) := by
          rw [← HR.out]
          unfold revokeF
          rw [if_neg (by rw [HQ.out.1]; simp), if_neg (by rw [HQ.out.2]; simp), if_neg (fun h => h HNO.out), if_neg h7]
          exact Lib.hid rfl
        clear h7
        have l1 : r.rs.length ≤ 1000000 := by have := HP.out.2.2.2.1; omega
        have l2 : r.ws.length ≤ 1000000 := by have := HP.out.2.2.2.1; omega
        have HBd : Hid (Bx w w2.drew r (.slice A r.rs.length c) (.slice A' r.ws.length c') u) := Lib.hid ⟨below_drew HB2.out.bel, HB2.out.box, HB2.out.usr, HB2.out.res⟩
        go_wp2_with fail
        go_region_with
          (first
            | (go_at_call 33; (with_reducible refine (clone_any A c r.rs w2.drew (Kd.C_below HC1.out HBd.out.bel) l1).mono ?_); rintro e w3 ⟨v3, rfl, ho3, hb3⟩; obtain ⟨A3, c3, rfl, _⟩ := own_C ho3; have HB3 := Lib.hid (HBd.out.below hb3); have HO3 := Lib.hid (own_weaken ho3 HBd.out.size); obtain ⟨_, _, _, p3, p4⟩ := HB3.out.box.cell; have p5 := HB3.out.cell; clear ho3 hb3)
            | (go_at_call 37; (with_reducible refine (delete_any w3 (w.heap.size + 3) (w.heap.size + 1) (.slice A3 r.rs.length c3) r.rs u HO3.out l1 HB3.out.cell (own_not HO3.out (by omega))).mono ?_); rintro e w4 ⟨v4, rfl, ho4, hg4, hs4⟩; obtain ⟨A4, c4, rfl, _⟩ := own_C ho4; have HB4 := Lib.hid (HB3.out.grown hg4 (fun k hk => own_base HO3.out k hk)); have HO4 := Lib.hid ho4; have HC34 := Lib.hid (Kd.C_below HC3.out HB4.out.bel); clear p3 p4 p5; obtain ⟨_, _, _, q3, q4⟩ := HB4.out.box.cell; have q5 := HB4.out.cell; clear ho4 hg4 hs4)
            | (go_at_call 33; (with_reducible refine (clone_any A' c' r.ws w4 HC34.out l2).mono ?_); rintro e w5 ⟨v5, rfl, ho5, hb5⟩; obtain ⟨A5, c5, rfl, _⟩ := own_C ho5; have HB5 := Lib.hid (HB4.out.below hb5); have HO45 := Lib.hid (pw_own_below HO4.out hb5); have HO5 := Lib.hid ho5; have HW5 := Lib.hid hb5.size; clear q3 q4 q5; obtain ⟨_, _, _, s3, s4⟩ := HB5.out.box.cell; have s5 := HB5.out.cell; clear ho5 hb5)
            | (go_at_call 37; (with_reducible refine (delete_any w5 w4.heap.size (w.heap.size + 1) (.slice A5 r.ws.length c5) r.ws u HO5.out l2 HB5.out.cell (own_not HO5.out (by have := HB4.out.size; omega))).mono ?_); rintro e w6 ⟨v6, rfl, ho6, hg6, hs6⟩; obtain ⟨A6, c6, rfl, _⟩ := own_C ho6; have HB6 := Lib.hid (HB5.out.grown hg6 (fun k hk => by have := own_base HO5.out k hk; have := HB4.out.size; omega)); have HO6 := Lib.hid ho6; have HO46 := Lib.hid (own_apart HO4.out HO45.out HO5.out hg6); clear s3 s4 s5; obtain ⟨t0, t1, t2, t3, t4⟩ := HB6.out.box.cell; have f2 := HB6.out.box.free 2; have f3 := HB6.out.box.free 3; have f4 := HB6.out.box.free 4; clear ho6 hg6 hs6))
        all_goals
          obtain ⟨y0, y1, y2, y3, y4⟩ := HB6.out.res.cell
          have z0 := HB6.out.res.free 0
          have z1 := HB6.out.res.free 1
          have z2 := HB6.out.res.free 2
          have z3 := HB6.out.res.free 3
          have z4 := HB6.out.res.free 4
          go_wp2
          have hres := (((HB6.out.res.far (p := ⟨w.heap.size, 3, none⟩) (by show _ ≠ w.heap.size; omega) (.slice A4 (dropL r.rs u).length c4)).far (p := ⟨w.heap.size, 4, none⟩) (by show _ ≠ w.heap.size; omega) (.slice A6 (dropL r.ws u).length c6)).far (p := ⟨w.heap.size, 2, none⟩) (by show _ ≠ w.heap.size; omega) (.int .i64 (r.e + 1)))
          have hbel := ((HB6.out.bel.setCell (p := ⟨w.heap.size, 3, none⟩) (Nat.le_refl _) (.slice A4 (dropL r.rs u).length c4)).setCell (p := ⟨w.heap.size, 4, none⟩) (Nat.le_refl _) (.slice A6 (dropL r.ws u).length c6)).setCell (p := ⟨w.heap.size, 2, none⟩) (Nat.le_refl _) (.int .i64 (r.e + 1))
          obtain ⟨cs, hcs, hblk⟩ := hres.put ⟨r.o, r.f, r.e + 1, [], []⟩ (.slice A4 (dropL r.rs u).length c4) (.slice A6 (dropL r.ws u).length c6)
          have hbl := BoxAt.put_below (b := w.heap.size + 1 + 1) hbel (by omega) ⟨r.o, r.f, r.e + 1, [], []⟩ (.slice A4 (dropL r.rs u).length c4) (.slice A6 (dropL r.ws u).length c6)
          subst hcs
          refine bodyPost_ret (results_ct rfl _ _ (w.heap.size + 1 + 1) 26 _ (0, 0) _ rfl hblk Tryd.underlying26 rfl (by kernel_rfl)) rfl ?_
          have hrw := rows_fin (w0 := w) HO46.out.1 (own_weaken HO6.out HB4.out.size) (fun k hk e => by have h1 := own_base HO6.out k e; have h2 := own_lt HO4.out k hk; omega) (.slice A4 (dropL r.rs u).length c4) (.slice A6 (dropL r.ws u).length c6) (.int .i64 (r.e + 1)) (.string r.o) (.string r.f) (.int .i64 (r.e + 1)) (.slice A4 (dropL r.rs u).length c4) (.slice A6 (dropL r.ws u).length c6)
          obtain rfl := HN.out
          exact ⟨_, _, rfl, hrw.1, hrw.2, hbl⟩
  · have HN : Hid ((R.1 = noRt) ∧ R.2 = askedF r u) := by
      rw [← HR.out]
      unfold revokeF
      unfold askedF at ha ⊢
      cases q1 : rightR r with
      | false => exact ⟨rfl, rfl⟩
      | true =>
        cases q2 : rightN (bytes u) with
        | false => exact ⟨rfl, rfl⟩
        | true => rw [q1, q2] at ha; exact absurd rfl ha
    generalize askedF r u = ER at *
    have hE1 : ((ER : Int) == 0) = false := by rw [beq_eq_false_iff_ne]; exact ha
    have hE2 : ((ER : Int) != 0) = true := by rw [bne_iff_ne]; exact ha
    clear ha
    obtain ⟨y0, y1, y2, y3, y4⟩ := HB1.out.res.cell
    have z0 := HB1.out.res.free 0
    have z1 := HB1.out.res.free 1
    have z2 := HB1.out.res.free 2
    have z3 := HB1.out.res.free 3
    have z4 := HB1.out.res.free 4
    go_wp2
    obtain ⟨cs, hcs, hblk⟩ := HB1.out.res.put noRt (.slice none 0 0) (.slice none 0 0)
    have hbl := BoxAt.put_below (b := w.heap.size + 1 + 1) HB1.out.bel (by omega) noRt (.slice none 0 0) (.slice none 0 0)
    subst hcs
    refine bodyPost_ret (results_ct rfl _ _ (w.heap.size + 1 + 1) 26 _ (0, 0) _ rfl hblk Tryd.underlying26 rfl (by kernel_rfl)) rfl ?_
    obtain ⟨R, er⟩ := R
    obtain ⟨rfl, rfl⟩ := (show Hid (R = noRt ∧ er = ER) from HN).out
    exact ⟨_, _, rfl, Kd.R_nil _ _ _ _ _, Kd.R_nil _ _ _ _ _, hbl⟩


end Go.Proofs.YtfhanoloaejmkaaDoor
