/- closure.all, walked. -/
import Derived.Test.YtnieihhnchefdaaAll
namespace Go.Proofs.Ytnieihhnchefdaa
open Go.RowKit Go.Maps Go.Proofs.YtnieihhnchefdaaW.PrintWords
set_option linter.unusedVariables false

set_option maxHeartbeats 4000000 in
set_option maxRecDepth 100000 in
theorem all_any (A : Option Addr) (cap : Nat) (l : List ByteArray) (w : World) (hc : ReadsB w A l) (hlen : l.length ≤ 1000000) (hsz : ∀ s ∈ l, s.size ≤ 9223372036854774000) :
    Calls Try.prog 43 #[.slice A l.length cap] w fun e w' => AllPost l w e w' := by
  have hmm := @run_makeMap Try.prog
  have HC := Lib.hid hc
  have HZ := Lib.hid hsz
  clear hc hsz
  go_enter Try.func43, Try.ntmps43
  go_wp2_with fail
  go_loopw [15] (fun i wr => ∃ k : Nat, k ≤ l.length ∧ i = .int .i64 k ∧ FirstR l w k wr) (fun i _ => 1000001 - (intOf i).toNat)
  case atStart =>
    refine ⟨0, by omega, rfl, fun j hj h => by omega, ⟨.map [], World.ownsMap_made _ _ _ _, hadD_nil⟩, (Below.refl _ _).alloc (Nat.le_refl _) _, by simp⟩
  case round =>
    obtain ⟨k, hk, rfl, hr⟩ := hrel
    have HR := Lib.hid hr
    clear hr hmm
    by_cases hlt : k < l.length
    · obtain ⟨ad, rfl, hcell⟩ := HC.out k hlt
      have hcw := pw_cell_below HR.out.2.2.1 hcell
      clear hcell
      have hlt2 : (k : Int) < (l.length : Int) := by omega
      have HK := Lib.hid (show term_Kind.f l[k] = some (kindF l[k]) by unfold term_Kind.f; rw [if_pos (HZ.out _ (List.getElem_mem hlt))])
      cases hr : right l[k] with
      | false =>
        have hkf : kindF l[k] = 0 := by
          unfold kindF
          unfold right at hr
          have : termOf (bytes l[k]) = none := by simpa using hr
          rw [this]
        rw [hkf] at HK
        have HW := Lib.hid (show l.all right = false from List.all_eq_false.2 ⟨_, List.getElem_mem hlt, by rw [hr]; simp⟩)
        generalize l[k] = s at hcw HK
        clear hr hkf HC HZ
        go_wp2_with fail
        refine (term_Kind.calls s 0 _ HK.out).mono ?_
        rintro e w5 ⟨rfl, hb⟩
        have H5 := Lib.hid (HR.out.below hb).2.2.1
        clear hb HR hcw HK
        go_wp2
        go_ret2
        exact ⟨by rw [HW.out]; simp, H5.out⟩
      | true =>
        obtain ⟨t, ht, hs, htm⟩ := right_tB hr
        have hkf : (kindF l[k] == 0) = false := by
          refine beq_eq_false_iff_ne.mpr fun e => ?_
          unfold kindF at e
          rw [htm] at e
          have : t.code.toNat ≠ 0 := by
            cases t with
            | atom n => exact (by decide : (97 : UInt8).toNat ≠ 0)
            | text n => exact (by decide : (116 : UInt8).toNat ≠ 0)
            | one k a => exact (by cases k <;> decide : k.code.toNat ≠ 0)
            | two k a b => exact (by cases k <;> decide : k.code.toNat ≠ 0)
          simp only at e
          omega
        have hkey := tB_key ht
        rw [← hs] at hkey
        have HF := Lib.hid (fun w5 w6 n D (h1 : FirstR l w k w5) h2 h3 h4 h5 => FirstR.put (n := n) (D := D) (w5 := w6) (wr := w5) hlt htm hr h1 h2 h3 h4 h5)
        generalize kindF l[k] = kv at HK hkf
        generalize l[k] = s at hcw HK hkey
        clear hr hs htm HZ
        go_wp2_with fail
        refine (term_Kind.calls s kv _ HK.out).mono ?_
        rintro e w5 ⟨rfl, hb⟩
        have H5 := Lib.hid (HR.out.below hb)
        clear hb HR hcw HK
        obtain ⟨D, hown, hD⟩ := H5.out.2.1
        have HD := Lib.hid hD
        have hsl : (addAll [] (termsOf (l.take k))).length < maxLen := by
          have h1 := (nodup_len (U := termsOf (l.take k)) (hadAt_nodup H5.out.2.1) (fun x hx => by simpa using (mem_addAll [] _ x).1 hx))
          have h2 : (termsOf (l.take k)).length ≤ (l.take k).length := List.length_filterMap_le _ _
          rw [List.length_take] at h2
          unfold maxLen
          omega
        clear hD
        go_wp2_with (at_mapUpdate; refine wpList_mapUpdate_own _ rfl _ _ _ 56 rfl 9 64 hadLaw Try.underlying56 (unitElem (H := Unit)) w.heap.size _ D rfl hown hsl _ _ _ rfl rfl hkey _ [] unitElem_mk ?_; intro w6 hown6 hgrow6)
        have H6 := Lib.hid (HF.out w5 w6 _ D H5.out HD.out hown hown6 hgrow6)
        clear hown hown6 hgrow6 HD H5 HF hkey
        go_roundw
        case rel => exact ⟨k + 1, by omega, by go_num, H6.out⟩
        case measure => simp [intOf]; omega
    · obtain rfl : k = l.length := by omega
      have HW := Lib.hid (show l.all right = true from List.all_eq_true.2 fun x hx => by
        obtain ⟨j, hj, rfl⟩ := List.getElem_of_mem hx
        exact HR.out.1 j hj hj)
      by_cases hbig : 200 < l.length
      · have HB := Lib.hid HR.out.2.2.1
        clear HR HC HZ
        have hbig2 : (200 : Int) < (l.length : Int) := by omega
        go_wp2
        go_ret2
        exact ⟨by rw [HW.out, if_pos rfl, if_pos hbig]; rfl, HB.out⟩
      · have hbig2 : ¬ (200 : Int) < (l.length : Int) := by omega
        have HH := Lib.hid (fun x (hx : x ∈ hadL (termsOf l)) => hadL_wf (termsOf_wf l) x hx)
        have HL := Lib.hid (hadL_len l (by omega))
        have HR2 := Lib.hid (show RoundR l w (addAll [] (termsOf l)) wr by
          obtain ⟨h1, h2, h3, h4⟩ := HR.out
          rw [List.take_length] at h2
          exact ⟨h2, fun x hx => (mem_addAll [] _ x).2 (Or.inr hx), fun x hx => hadL_sup _ x (by simpa using (mem_addAll [] _ x).1 hx), h3, h4⟩)
        clear HR HC HZ
        go_wp2_with fail
        go_loopw [7] (fun m wr => ∃ (n : Nat) (S : List T), m = .int .i64 n ∧ n ≤ S.length ∧ RoundR l w S wr ∧ (n = S.length → ClosedT S)) (fun m _ => 1000000000 - (intOf m).toNat)
        case atStart =>
          refine ⟨0, _, rfl, Nat.zero_le _, HR2.out, fun h => ?_⟩
          have : addAll [] (termsOf l) = [] := List.length_eq_zero_iff.1 h.symm
          rw [this]
          intro t ht
          simp at ht
        case round =>
          obtain ⟨n, S, rfl, hn, hr, hcl⟩ := hrel
          have HR := Lib.hid hr
          have HCL := Lib.hid hcl
          clear hr hcl HR2
          obtain ⟨D, hown, hD⟩ := HR.out.1
          have hz : Maps.size D = S.length := hD.1
          have hS8 := HL.out S (hadAt_nodup HR.out.1) HR.out.2.2.1
          clear hD
          by_cases hlt : n < S.length
          · have hlt2 : (n : Int) < (S.length : Int) := by omega
            go_wp2_with (at_len; refine wpList_len_own _ rfl _ 56 rfl 9 64 Try.underlying56 unitElem w.heap.size _ D rfl hown ?_; rw [hz])
            refine (keys_calls w.heap.size _).mono ?_
            rintro e w2 ⟨rfl, rfl⟩
            go_wp2_with fail
            refine (sorted_calls w.heap.size S _ HR.out.1 (by omega)).mono ?_
            rintro e w3 ⟨v, rfl, hR, hb⟩
            obtain ⟨A2, cap2, rfl⟩ := Kd.R_slice hR
            have hM : MidR l w S A2 0 S w3 := ⟨HR.out.below hb, fun k hk => readsC (Kd.R_reads' hR).2.2 hk, fun x hx => hx, fun j t h => by omega⟩
            have HM := Lib.hid hM
            have HN := Lib.hid (hadAt_nodup HR.out.1)
            have hll : ((sortT S).map tB).length = S.length := LT_len S
            rw [hll]
            clear hb hR HR hown hz hM hll HCL
            go_wp2_with fail
            go_loopw [39] (fun i wr2 => ∃ (k : Nat) (S2 : List T), k ≤ S.length ∧ i = .int .i64 k ∧ MidR l w S A2 k S2 wr2) (fun i _ => 1000000001 - (intOf i).toNat)
            case atStart => exact ⟨0, S, Nat.zero_le _, rfl, HM.out⟩
            case round =>
              obtain ⟨k, S2, hk, rfl, hm⟩ := hrel
              have HM2 := Lib.hid hm
              clear hm HM
              by_cases hltk : k < S.length
              · obtain ⟨t, htS, htk, hkl, hkt⟩ := LT_get S k hltk
                obtain ⟨ad, rfl, hcell⟩ := HM2.out.2.1 k hkl
                rw [hkt] at hcell
                have hltk2 : (k : Int) < (S.length : Int) := by omega
                have htw : Wf t := HH.out t (HM2.out.1.2.2.1 t (HM2.out.2.2.1 t htS))
                have HG := Lib.hid (gives_any t S2 w.heap.size _ HM2.out.1.1 htw)
                have HGH := Lib.hid (show ∀ x ∈ gives S2 t, x ∈ hadL (termsOf l) from fun x hx => hadL_closed (termsOf l) t (HM2.out.1.2.2.1 t (HM2.out.2.2.1 t htS)) x (gives_mono HM2.out.1.2.2.1 t x hx))
                have HTK := Lib.hid htk
                have hg5 : (gives S2 t).length ≤ 1000000000 := by have := gives_len S2 t; omega
                unfold GivesC at HG
                generalize tB t = s at hcell HG
                clear htS htk hkl hkt htw
                go_wp2_with fail
                refine HG.out.mono ?_
                rintro e w4 ⟨A3, cap3, rfl, hrd, hb⟩
                have HI := Lib.hid (InR.start (g := gives S2 t) HM2.out hb hrd)
                clear hrd hb HG hcell
                go_wp2_with fail
                go_loopw [47] (fun i wr3 => ∃ (k2 : Nat) (S3 : List T), k2 ≤ (gives S2 t).length ∧ i = .int .i64 k2 ∧ InR l w S (some ad) A3 S2 (gives S2 t) k2 S3 wr3) (fun i _ => 1000000001 - (intOf i).toNat)
                case atStart => exact ⟨0, S2, Nat.zero_le _, rfl, HI.out⟩
                case round =>
                  obtain ⟨k2, S3, hk2, rfl, hi⟩ := hrel
                  have HI3 := Lib.hid hi
                  clear hi HI
                  by_cases hltk2' : k2 < (gives S2 t).length
                  · obtain ⟨ad3, rfl, hcell3⟩ := HI3.out.2.2.1 k2 (by simpa using hltk2')
                    rw [List.getElem_map] at hcell3
                    have hltk3 : (k2 : Int) < ((gives S2 t).length : Int) := by omega
                    have hkey := tB_key (HH.out _ (HGH.out _ (List.getElem_mem hltk2')))
                    obtain ⟨D, hown, hD⟩ := HI3.out.1.1
                    have HD := Lib.hid hD
                    have hsl : S3.length < maxLen := by
                      have := HL.out S3 (hadAt_nodup HI3.out.1.1) HI3.out.1.2.2.1
                      unfold maxLen; omega
                    have HP := Lib.hid (fun w6 n h1 h2 => InR.put (n := n) (w5 := w6) hltk2' HI3.out (HGH.out _ (List.getElem_mem hltk2')) HD.out hown h1 h2)
                    generalize tB (gives S2 t)[k2] = s3 at hcell3 hkey
                    generalize (gives S2 t)[k2] = t3 at hkey HP
                    clear hD HD HI3
                    go_wp2_with (at_mapUpdate; refine wpList_mapUpdate_own _ rfl _ _ _ 56 rfl 9 64 hadLaw Try.underlying56 (unitElem (H := Unit)) w.heap.size _ D rfl hown hsl _ _ _ rfl rfl hkey _ [] unitElem_mk ?_; intro w6 hown6 hgrow6)
                    have H6 := Lib.hid (HP.out w6 _ hown6 hgrow6)
                    clear hown hown6 hgrow6 HP hkey hcell3
                    go_roundw
                    case rel => exact ⟨k2 + 1, _, by omega, by go_num, H6.out⟩
                    case measure => simp [intOf]; omega
                  · have HD2 := Lib.hid (InR.done HM2.out HTK.out (by
                      have : k2 = (gives S2 t).length := by omega
                      rw [this] at HI3; exact HI3.out))
                    clear HI3 HGH HTK
                    have hltk3 : ((gives S2 t).length : Int) ≤ (k2 : Int) := by omega
                    go_wp2
                    go_roundw
                    case rel => exact ⟨k + 1, S3, by omega, by go_num, HD2.out⟩
                    case measure => simp [intOf]; omega
              · have hke : k = S.length := by omega
                subst hke
                have HE := Lib.hid (MidR.done HN.out HM2.out)
                have HR3 := Lib.hid HM2.out.1
                clear HM2 HN
                go_wp2
                go_roundw
                case rel => exact ⟨S.length, S2, rfl, HE.out.1, HR3.out, HE.out.2⟩
                case measure => simp [intOf]; omega
          · have hge : (S.length : Int) ≤ (n : Int) := by omega
            have HCL2 := Lib.hid (HCL.out (by omega))
            go_wp2_with (at_len; refine wpList_len_own _ rfl _ 56 rfl 9 64 Try.underlying56 unitElem w.heap.size _ D rfl hown ?_; rw [hz])
            go_ret2
            refine ⟨?_, HR.out.2.2.2.1⟩
            rw [HW.out, if_pos rfl, if_neg hbig]
            exact ⟨w.heap.size, S, rfl, HR.out.1, hadL_iff HR.out.2.1 HCL2.out HR.out.2.2.1⟩

end Go.Proofs.Ytnieihhnchefdaa
