/- Contracts and laws that the statement of LawDataHides leans on (packed from this claim's own texts): part 13. -/
import Derived.Test.YtlhoahbpklhpmaaGreatDoorQH10
import Derived.Test.YtlhoahbpklhpmaaGreatDoorQH11
import Derived.Test.YtlhoahbpklhpmaaGreatDoorQH12
section

namespace Go.Proofs.YtlhoahbpklhpmaaGreatDoor.Der
open Go.RowKit Go.Proofs.YtlhoahbpklhpmaaGreatDoor Go.Proofs.YtlhoahbpklhpmaaGreatDoor.Ref Go.Proofs.YtlhoahbpklhpmaaGreatDoor.PA Go.Proofs.YtlhoahbpklhpmaaGreatDoorW.PrintWords Go.Proofs.YtlhoahbpklhpmaaGreatDoorW.PrintLast
set_option linter.unusedVariables false
theorem right_all {ts : List T} (h : ∀ t ∈ ts, Wf t) : (ts.map tm).all right = true := by
 refine List.all_eq_true.2 fun s hs => ?_
 obtain ⟨t, ht, rfl⟩ := List.mem_map.1 hs
 exact right_tm (h t ht)
theorem termsOf_tm {ts : List T} (h : ∀ t ∈ ts, Wf t) : termsOf (ts.map tm) = ts := by
 induction ts with
 | nil => rfl
 | cons t ts ih =>
  have h1 := ih (fun x hx => h x (List.mem_cons_of_mem _ hx))
  have h2 : termOf (bytes (tm t)) = some t := by rw [bytes_tm]; exact termOf_enc (h t List.mem_cons_self)
  unfold termsOf at h1 ⊢
  rw [List.map_cons, List.filterMap_cons, h2]
  simp only
  rw [h1]
theorem derives_tm {ts : List T} {t : T} (h : ∀ t ∈ ts, Wf t) (hl : ts.length ≤ 200) (ht : Wf t) : closure_Derives.f (ts.map tm) (tm t) = some (tog (hadL ts) t, 0) := by
 unfold closure_Derives.f
 rw [if_pos]
 ·unfold derivesF
  rw [if_pos (right_all h), if_neg (by rw [List.length_map]; omega), if_pos (right_tm ht), termsOf_tm h]
  rw [show tm t = tB t from rfl, togB_tB _ ht]
 ·refine ⟨by rw [List.length_map]; omega, List.all_eq_true.2 fun s hs => ?_, by rw [size_tm]; have := ht.2; omega⟩
  obtain ⟨u, hu, rfl⟩ := List.mem_map.1 hs
  rw [size_tm]
  have := (h u hu).2
  exact decide_eq_true (by omega)
theorem ref6Key_ev (s : ByteArray) : Ev (fun k => letterlockref6_Key.f k s) (keyF s) := by
 unfold letterlockref6_Key.f keyF
 refine Ev.bind (refRight_ev s) ?_
 cases hr : right s with
 | false =>
  rw [if_neg (by simp)]
  exact Ev.neg (by simp) (Ev.now _)
 | true =>
  rw [if_pos rfl]
  refine Ev.pos rfl ?_
  have ht := refText_ev keyB (by decide)
  rw [key_text] at ht
  refine Ev.bind ht (Ev.bind (refPair_ev (textB keyB) s) ?_)
  by_cases h0 : (pairF (textB keyB) s).2 = 0
  ·simp only [if_pos h0]
   exact Ev.bind (refHash_ev _) (Ev.now _)
  ·simp only [if_neg h0]
   exact Ev.now _
theorem root_ev (c : Int) (hc : I64 c) : Ev (fun k => letterlocklaw9_rootOf.f k c) (tm (rT (pickN c 5))) := by
 have h5 := pick_lt c (n := 5) (by omega)
 unfold letterlocklaw9_rootOf.f
 refine Ev.put (pick_val c 5 (by omega) (by omega) hc) ?_
 rw [u64_of (by omega)]
 have hs := ref5Secret_ev rootB xB (pickN c 5) (by decide) (by decide) (by omega)
 rw [secret_root (by omega)] at hs
 exact Ev.bind hs (Ev.now _)
theorem st_ev {r e : Nat} (hr : r < 1000) (he : e ≤ 7) : Ev (fun k => letterlockref6_State.f k (tm (rT r)) (e : Int)) (tm (hT (7 - e) (rT r)), 0) := by
 have h := ref6State_ev (tm (rT r)) e
 rwa [state_tm e 3 (rT r) he (rT_ok hr).1 (by omega) (by have := (rT_ok hr).2; omega)] at h
theorem key_ev9 {r j : Nat} (hr : r < 1000) (hj : j ≤ 20) : Ev (fun k => letterlockref6_Key.f k (tm (hT j (rT r)))) (tm (kT r j), 0) := by
 have h := ref6Key_ev (tm (hT j (rT r)))
 rwa [key_state hr hj] at h
theorem atom_ok {n : Nat} (h : n < 18446744073709551616) : Wf (.atom n) := ⟨h, by have := len_atom n h; omega⟩
theorem atom_ev9 {n : Nat} (h : n < 18446744073709551616) : Ev (fun k => term_OfAtom.f k (n : Int)) (tm (.atom n)) := by
 have h1 := ofAtom_ev n h
 rwa [atomB_tm] at h1
theorem sealA_ok {r j n : Nat} (hr : r < 1000) (hj : j ≤ 7) (hn : n < 18446744073709551616) : ok 13 (sealA r j n) ∧ (enc (sealA r j n)).length ≤ 1300 := by
 obtain ⟨h1, h2⟩ := kT_ok hr hj
 have h3 := len_atom n hn
 refine ⟨⟨h1, hn, fun e => by simp at e⟩, ?_⟩
 simp only [sealA, enc, List.length_cons, List.length_append] at h3 ⊢; omega
theorem sigA_ok {i r j n : Nat} (hi : i < 1000) (hr : r < 1000) (hj : j ≤ 7) (hn : n < 18446744073709551616) : ok 14 (sigA i r j n) ∧ (enc (sigA i r j n)).length ≤ 2450 := by
 obtain ⟨h1, h2⟩ := sealA_ok hr hj hn
 obtain ⟨h3, h4⟩ := sT_ok hi
 refine ⟨⟨ok_mono (e := 13) h3 (by omega), h1, fun e => by simp at e⟩, ?_⟩
 simp only [sigA, enc, List.length_cons, List.length_append]; omega
theorem forge_ok {i n : Nat} (hi : i < 1000) (hn : n < 18446744073709551616) : Wf (.two .g (sT i) (.atom n)) := by
 obtain ⟨h3, h4⟩ := sT_ok hi
 have h5 := len_atom n hn
 refine wf_of (d := 4) (n := 1300) ⟨⟨h3, hn, fun e => by simp at e⟩, ?_⟩ (by omega) (by omega)
 simp only [enc, List.length_cons, List.length_append] at h5 ⊢; omega
theorem hides9_ev (a0 a1 a2 : Int) (n : Nat) (h0 : I64 a0) (h1 : I64 a1) (h2 : I64 a2) (hn : n < 18446744073709551616) :
  Ev (fun k => PH.letterlocklaw9_DataHides.f k a0 a1 a2 (n : Int)) true := by
 have hm : 1000 ≤ n ||| 1099511627776 := Nat.le_trans (by omega) (Nat.right_le_or)
 have hm2 : n ||| 1099511627776 < 18446744073709551616 := Nat.or_lt_two_pow (n := 64) (by omega) (by omega)
 have hr5 := pick_lt a0 (n := 5) (by omega)
 have hx := pick_lt a1 (n := 8) (by omega)
 have hy := pick_lt a2 (n := 8) (by omega)
 have p1 := pick_val a1 8 (by omega) (by omega) h1
 have p2 := pick_val a2 8 (by omega) (by omega) h2
 have hroot := root_ev a0 h0
 unfold PH.letterlocklaw9_DataHides.f
 rw [show bits BinOp.or IntKind.u64 (n : Int) 1099511627776 = ((n ||| 1099511627776 : Nat) : Int) from bits_or_u64_nat n 1099511627776 (by omega) (by omega)]
 generalize n ||| 1099511627776 = m at *
 generalize pickN a0 5 = r at *
 generalize pickN a1 8 = x at *
 generalize pickN a2 8 = y at *
 have w1 := wf_of (sealA_ok (r := r) (j := 7 - x) (n := m) (by omega) (by omega) hm2) (by omega) (by omega)
 have w2 := wf_of (sigA_ok (i := x) (r := r) (j := 7 - x) (n := m) (by omega) (by omega) (by omega) hm2) (by omega) (by omega)
 have w3 : Wf (hT (7 - y) (rT r)) := by
  obtain ⟨g1, g2⟩ := rT_ok (n := r) (by omega)
  exact ⟨ok_mono (ok_hT (7 - y) 3 (rT r) g1) (by omega), by rw [len_hT]; omega⟩
 have w4 := atom_ok hm2
 have w5 : Wf (.atom 99) := atom_ok (by omega)
 have w6 := forge_ok (i := x) (n := 99) (by omega) (by omega)
 have s1 : term_Seal.f (tm (kT r (7 - x))) (tm (.atom m)) = some (tm (sealA r (7 - x) m), 0) := by
  rw [seal_val (tm_small (wf_of (kT_ok (by omega) (by omega)) (by omega) (by omega))) (tm_small w4)]
  exact congrArg some (seal_tm w1)
 have s2 : term_Sign.f (tm (sT x)) (tm (sealA r (7 - x) m)) = some (tm (sigA x r (7 - x) m), 0) := by
  rw [sign_val (tm_small (wf_of (sT_ok (by omega)) (by omega) (by omega))) (tm_small w1)]
  exact congrArg some (sign_tm w2)
 have s3 : term_Sign.f (tm (sT x)) (tm (.atom 99)) = some (tm (.two .g (sT x) (.atom 99)), 0) := by
  rw [sign_val (tm_small (wf_of (sT_ok (by omega)) (by omega) (by omega))) (tm_small w5)]
  exact congrArg some (sign_tm w6)
 have d1 : closure_Derives.f [tm (sealA r (7 - x) m), tm (sigA x r (7 - x) m), tm (hT (7 - y) (rT r))] (tm (.atom m)) = some (decide (x ≤ y), 0) := by
  have h := derives_tm (ts := [sealA r (7 - x) m, sigA x r (7 - x) m, hT (7 - y) (rT r)]) (t := .atom m) (by
   intro t ht
   simp only [List.mem_cons, List.not_mem_nil, or_false] at ht
   rcases ht with rfl | rfl | rfl <;> assumption) (by simp) w4
  rwa [hides_can (by omega) (by omega)] at h
 have d2 : closure_Derives.f [tm (sealA r (7 - x) m), tm (sigA x r (7 - x) m)] (tm (.atom m)) = some (false, 0) := by
  have h := derives_tm (ts := [sealA r (7 - x) m, sigA x r (7 - x) m]) (t := .atom m) (by
   intro t ht
   simp only [List.mem_cons, List.not_mem_nil, or_false] at ht
   rcases ht with rfl | rfl <;> assumption) (by simp) w4
  rwa [hides_no (by omega)] at h
 have d3 : closure_Derives.f [tm (sealA r (7 - x) m), tm (sigA x r (7 - x) m), tm (hT (7 - y) (rT r)), tm (.atom 99)] (tm (.two .g (sT x) (.atom 99))) = some (false, 0) := by
  have h := derives_tm (ts := [sealA r (7 - x) m, sigA x r (7 - x) m, hT (7 - y) (rT r), .atom 99]) (t := .two .g (sT x) (.atom 99)) (by
   intro t ht
   simp only [List.mem_cons, List.not_mem_nil, or_false] at ht
   rcases ht with rfl | rfl | rfl | rfl <;> assumption) (by simp) w6
  rwa [hides_made (by omega) (by omega)] at h
 refine Ev.put (a := true) rfl (Ev.pos rfl (Ev.put p1 (Ev.put p2 (Ev.bind hroot (Ev.bind (st_ev (by omega) (by omega)) (Ev.bind hroot (Ev.bind (st_ev (by omega) (by omega)) ?_)))))))
 refine Ev.bind (key_ev9 (by omega) (by omega)) (Ev.bind (atom_ev9 hm2) (Ev.put s1 (Ev.bind (signer_ev (by omega)) (Ev.put s2 (Ev.put rfl (Ev.put d1 (Ev.put d2 ?_)))))))
 refine Ev.bind (signer_ev (by omega)) (Ev.bind (atom_ev9 (n := 99) (by omega)) (Ev.put s3 (Ev.put rfl (Ev.pos (by simp) (Ev.put rfl (Ev.bind (atom_ev9 (n := 99) (by omega)) (Ev.pos (by simp) (Ev.put d3 ?_))))))))
 refine Ev.pos rfl (Ev.pos rfl (Ev.pos rfl (Ev.pos rfl (Ev.pos rfl (Ev.pos ?_ (Ev.neg (by simp) (Ev.now _)))))))
 simp
theorem hides9_any (a0 a1 a2 a3 : Int) (w : World) (HTB : Aside0 (Tabs w)) (h0 : (Lit.int .i64 a0).wf = true) (h1 : (Lit.int .i64 a1).wf = true) (h2 : (Lit.int .i64 a2).wf = true) (h3 : (Lit.int .u64 a3).wf = true) :
  Calls Tryz.prog 3 #[.int .i64 a0, .int .i64 a1, .int .i64 a2, .int .u64 a3] w fun e w' => e = .returned (.bool true) ∧ Below w.heap.size w w' := by
 have g0 : I64 a0 := by simpa [Lit.wf, IntKind.min, IntKind.max, IntKind.signed, IntKind.bits] using h0
 have g1 : I64 a1 := by simpa [Lit.wf, IntKind.min, IntKind.max, IntKind.signed, IntKind.bits] using h1
 have g2 : I64 a2 := by simpa [Lit.wf, IntKind.min, IntKind.max, IntKind.signed, IntKind.bits] using h2
 have g3 : 0 ≤ a3 ∧ a3 ≤ 18446744073709551615 := by simpa [Lit.wf, IntKind.min, IntKind.max, IntKind.signed, IntKind.bits] using h3
 obtain ⟨n, rfl⟩ := Int.eq_ofNat_of_zero_le g3.1
 obtain ⟨k, hk⟩ := ev_some (hides9_ev a0 a1 a2 n g0 g1 g2 (by omega))
 exact PH.letterlocklaw9_DataHides.calls k _ _ _ _ _ w HTB hk
end Go.Proofs.YtlhoahbpklhpmaaGreatDoor.Der
end
