/- The contract of term.read, by kinds. -/
import Derived.Test.YtpgbhgpjfjeomaaRead
namespace Go.Proofs.Ytpgbhgpjfjeomaa
open Go.RowKit Go.Proofs.YtpgbhgpjfjeomaaW.PrintWords
set_option linter.unusedVariables false

theorem read_s (d : Nat) (hd : d ≤ 1000) (ih : ∀ (s : ByteArray) (w : World), s.size ≤ 9223372036854774000 → Calls Try.prog 53 #[.string s, .int .i64 d] w (ReadPost w d s))
    (s : ByteArray) (hs0 : s.size ≤ 9223372036854774000) (h1 : s.toList.isEmpty = false) (hp : 0 < s.size) (hc : ∀ h : 0 < s.size, (s[0]'h).toNat = 115) (w : World) :
    Calls Try.prog 53 #[.string s, .int .i64 ((d + 1 : Nat) : Int)] w (ReadPost w (d + 1) s) := by
  have hd0 : ((d : Int) + 1 == 0) = false := by rw [beq_eq_false_iff_ne]; omega
  have IH := Lib.hid ih
  clear ih
  have HS := Lib.hid (rel_start w s d hp)
  rw [show (((d + 1 : Nat) : Int)) = (d : Int) + 1 from by omega]
  go_enter Try.func53, Try.ntmps53
  go_wp2_with fail
  go_loopw [7, 32] (fun a i wr => ∃ k at_ : Nat, k ≤ 2 ∧ i = .int .i64 k ∧ a = .int .i64 at_ ∧ RelR w s d k at_ wr) (fun _ i _ => 10 - (intOf i).toNat)
  case atStart => exact ⟨0, 1, by omega, rfl, rfl, HS.out⟩
  case round =>
    obtain ⟨k, at_, hk, rfl, rfl, hr⟩ := hrel
    have Hr := Lib.hid hr
    clear hr HS
    by_cases hlt : k < 2
    · have hat : at_ ≤ s.size := by obtain ⟨ts, rest, sv, _, _, h3, _⟩ := Hr.out; omega
      go_wp2_with fail
      refine (IH.out (s.extract at_ s.size) _ (by rw [ByteArray.size_extract]; omega)).mono ?_
      rintro e w5 ⟨v, rfl, hv, hb5⟩
      have Hv := Lib.hid hv
      have Hb5 := Lib.hid hb5
      clear hv hb5
      cases hpr : parse d (bytes (s.extract at_ s.size)) with
      | none =>
        have hvn : v = .nilIface := by have := Hv.out; rw [hpr] at this; exact this
        subst hvn
        have HF : Hid (parse (d + 1) (bytes s) = none) := by
          rw [bytes_split hp]
          exact fail_two (k2 := K2.s) (by rw [UInt8.toNat_inj.1 ((hc hp).trans (show 115 = (K2.s).code.toNat from rfl))]; rfl) (rel_fail Hr.out hpr hlt)
        have HB : Hid (Below w.heap.size w w5) := by obtain ⟨ts, rest, sv, q1, q2, q3, q4, q0, q5, q6, q7, q8⟩ := Hr.out; exact q7.trans (Hb5.out.mono (by omega))
        clear Hv hpr
        go_wp2
        go_ret
        exact ⟨_, rfl, by rw [HF.out]; rfl, HB.out⟩
      | some x =>
        obtain ⟨t, r2⟩ := x
        have hnode : NodeAt w5 wr.heap.size v t := by have := Hv.out; rw [hpr] at this; exact this
        obtain ⟨ty, f, y, rfl, hm, hen, hcf⟩ := hnode.isNode
        have Hn := Lib.hid hnode
        have Hcf := Lib.hid hcf
        clear hnode hcf Hv
        go_upto_region 23 with (fail)
        obtain ⟨ts, rest, sv, q1, q2, q3, q4, q0, q5, q6, q7, q8⟩ := Hr.out
        have hsz5 : w.heap.size < w5.heap.size := by have := Hb5.out.size; omega
        have hblk : w5.heap[w.heap.size]? = some (.cells #[.string ⟨#[]⟩, sv] 55 (0, 0)) := (Hb5.out.block _ q8).trans q5
        have Hown : Hid (∀ o o', ((w5.alloc o).alloc o').drew.ownsRow (w.heap.size + 1) 9 1 sv k (strCells (ts.map enc))) := fun o o' => (((pw_own_below q6 Hb5.out).alloc o).alloc o').drew
        have Hnew : Hid (∀ o o', ((w5.alloc o).alloc o').drew.heap[w5.heap.size + 1]? = some o') := fun o o' => by
          have := heap_alloc_new (w5.alloc o) o'
          rwa [show (w5.alloc o).heap.size = w5.heap.size + 1 from by simp] at this
        have Hne : Hid (some w.heap.size ≠ sv.ownBlock) := fun e => by have := own_base q6 _ e.symm; omega
        have hcell := cell_of_blk (j := 1) (v := sv) hblk rfl
        have hfree := free_of_blk (j := 1) hblk
        have Hq := Lib.hid (And.intro q1 (And.intro q2 (And.intro q3 (And.intro q4 q0))))
        have Hb := Lib.hid (q7.trans (Hb5.out.mono (by omega)))
        have Hbase : Hid (∀ j, sv.ownBlock = some j → w.heap.size + 1 ≤ j) := fun j hj => own_base q6 j hj
        have Hblk := Lib.hid hblk
        obtain ⟨i0, hi0, hz0, hz1, hz2⟩ := info_parts infoStr
        clear q1 q2 q3 q4 q0 q5 q6 q7 q8 hblk
        have Hi0 := Lib.hid hi0
        have Hz0 := Lib.hid hz0
        have Hz1 := Lib.hid hz1
        have Hz2 := Lib.hid hz2
        clear hi0 hz0 hz1 hz2
        have K2 : Hid (∀ o o', ((w5.alloc o).alloc o').drew.cell? ⟨w.heap.size, 1, none⟩ = some sv ∧ ((w5.alloc o).alloc o').drew.frozen? ⟨w.heap.size, 1, none⟩ = false) := fun o o' => by
          have hb : ((w5.alloc o).alloc o').drew.heap[w.heap.size]? = some (.cells #[.string ⟨#[]⟩, sv] 55 (0, 0)) := (Below.heap_alloc _ _ _ (by simp; omega)).trans ((Below.heap_alloc _ _ _ hsz5).trans Hblk.out)
          exact ⟨cell_of_blk hb rfl, free_of_blk hb⟩
        go_cut [] (fun wx => MidRel w s d k at_ t wx)
        case first =>
          go_region_law (first
            | (refine step_append_lies _ (by rfl) _ _ _ (by rfl) (w.heap.size + 1) 9 i0 _ 1 16 Try.underlying29 Hi0.out Hz0.out Hz1.out Hz2.out rfl (by omega) sv k (strCells (ts.map enc)) (by rfl) (Hown.out _ _) ⟨w5.heap.size + 1, 0, none⟩ 1 1 [.string (ofBytes (enc t))] (by rfl) (by rfl) (World.news_of_block (cs := #[.string (ofBytes (enc t))]) (t := 9) (fr := (0, 0)) (Hnew.out _ _)) (by simp [Value.oneCell']) (by omega) (by unfold maxLen; omega) (by omega) (by simp; omega) (w5.heap.size + 2) (by simp) ?_; intro gg cap w1 hown1 hgrow hat hlt1; have hc1 := (hgrow.cell_far ⟨w.heap.size, 1, none⟩ (by simp; omega) Hne.out).trans (K2.out _ _).1; have hf1 := (hgrow.frozen_far ⟨w.heap.size, 1, none⟩ (by simp; omega) Hne.out).trans (K2.out _ _).2)
            | (go_simp; (with_reducible refine (Hcf.out _).mono ?_); rintro e w' ⟨rfl, rfl⟩))
          all_goals (go_wp2_with fail; go_meet)
          all_goals exact mid_of Hq.out Hb.out hsz5 Hblk.out Hne.out Hbase.out hown1 hgrow
        case rest =>
          have Hc := Lib.hid hcut
          have hL := rel_len Hr.out hpr
          have hLz := size_ofBytes (enc t)
          have Hpr := Lib.hid hpr
          clear hcut hcell hfree hpr Hblk Hne Hown Hnew K2 Hi0 Hz0 Hz1 Hz2 Hq
          go_wp2_with fail
          refine (Hcf.out _).mono ?_
          rintro e w6 ⟨rfl, rfl⟩
          go_wp2
          go_roundw
          case rel => exact ⟨k + 1, at_ + (enc t).length, by omega, by go_num, by go_num, rel_next Hc.out Hpr.out _⟩
          case measure => simp [intOf]; omega
    · obtain rfl : k = 2 := by omega
      clear hlt
      obtain ⟨ts, rest, sv, q1, q2, q3, q4, q5, q6, q7, q8⟩ := rel_end Hr.out
      obtain ⟨a, b, rfl, _, q11⟩ := done_two hp (k2 := K2.s) (UInt8.toNat_inj.1 (hc hp)) q1 q4
      obtain ⟨q9, q10⟩ := q11 (fun h => by cases h.1)
      have HP : Hid (∀ u, ReadPost w (d + 1) s (.returned (.iface 55 (.agg #[.string (s.extract 0 at_), sv]))) (wr.setCell ⟨w.heap.size, 0, none⟩ u)) := fun u =>
        ⟨_, rfl, by rw [q9]; exact node_two q6 q10 u, q7.setCell (Nat.le_refl _) _⟩
      have hc0 := cell_of_blk (j := 0) (v := .string ⟨#[]⟩) q5 rfl
      have hc1 := cell_of_blk (j := 1) (v := sv) q5 rfl
      have hf0 := free_of_blk (j := 0) q5
      clear q1 q2 q4 q5 q6 q7 q8 q9 q10 q11 Hr
      go_wp2
      go_ret
      exact HP.out _

theorem read_g (d : Nat) (hd : d ≤ 1000) (ih : ∀ (s : ByteArray) (w : World), s.size ≤ 9223372036854774000 → Calls Try.prog 53 #[.string s, .int .i64 d] w (ReadPost w d s))
    (s : ByteArray) (hs0 : s.size ≤ 9223372036854774000) (h1 : s.toList.isEmpty = false) (hp : 0 < s.size) (hc : ∀ h : 0 < s.size, (s[0]'h).toNat = 103) (w : World) :
    Calls Try.prog 53 #[.string s, .int .i64 ((d + 1 : Nat) : Int)] w (ReadPost w (d + 1) s) := by
  have hd0 : ((d : Int) + 1 == 0) = false := by rw [beq_eq_false_iff_ne]; omega
  have IH := Lib.hid ih
  clear ih
  have HS := Lib.hid (rel_start w s d hp)
  rw [show (((d + 1 : Nat) : Int)) = (d : Int) + 1 from by omega]
  go_enter Try.func53, Try.ntmps53
  go_wp2_with fail
  go_loopw [7, 32] (fun a i wr => ∃ k at_ : Nat, k ≤ 2 ∧ i = .int .i64 k ∧ a = .int .i64 at_ ∧ RelR w s d k at_ wr) (fun _ i _ => 10 - (intOf i).toNat)
  case atStart => exact ⟨0, 1, by omega, rfl, rfl, HS.out⟩
  case round =>
    obtain ⟨k, at_, hk, rfl, rfl, hr⟩ := hrel
    have Hr := Lib.hid hr
    clear hr HS
    by_cases hlt : k < 2
    · have hat : at_ ≤ s.size := by obtain ⟨ts, rest, sv, _, _, h3, _⟩ := Hr.out; omega
      go_wp2_with fail
      refine (IH.out (s.extract at_ s.size) _ (by rw [ByteArray.size_extract]; omega)).mono ?_
      rintro e w5 ⟨v, rfl, hv, hb5⟩
      have Hv := Lib.hid hv
      have Hb5 := Lib.hid hb5
      clear hv hb5
      cases hpr : parse d (bytes (s.extract at_ s.size)) with
      | none =>
        have hvn : v = .nilIface := by have := Hv.out; rw [hpr] at this; exact this
        subst hvn
        have HF : Hid (parse (d + 1) (bytes s) = none) := by
          rw [bytes_split hp]
          exact fail_two (k2 := K2.g) (by rw [UInt8.toNat_inj.1 ((hc hp).trans (show 103 = (K2.g).code.toNat from rfl))]; rfl) (rel_fail Hr.out hpr hlt)
        have HB : Hid (Below w.heap.size w w5) := by obtain ⟨ts, rest, sv, q1, q2, q3, q4, q0, q5, q6, q7, q8⟩ := Hr.out; exact q7.trans (Hb5.out.mono (by omega))
        clear Hv hpr
        go_wp2
        go_ret
        exact ⟨_, rfl, by rw [HF.out]; rfl, HB.out⟩
      | some x =>
        obtain ⟨t, r2⟩ := x
        have hnode : NodeAt w5 wr.heap.size v t := by have := Hv.out; rw [hpr] at this; exact this
        obtain ⟨ty, f, y, rfl, hm, hen, hcf⟩ := hnode.isNode
        have Hn := Lib.hid hnode
        have Hcf := Lib.hid hcf
        clear hnode hcf Hv
        go_upto_region 23 with (fail)
        obtain ⟨ts, rest, sv, q1, q2, q3, q4, q0, q5, q6, q7, q8⟩ := Hr.out
        have hsz5 : w.heap.size < w5.heap.size := by have := Hb5.out.size; omega
        have hblk : w5.heap[w.heap.size]? = some (.cells #[.string ⟨#[]⟩, sv] 55 (0, 0)) := (Hb5.out.block _ q8).trans q5
        have Hown : Hid (∀ o o', ((w5.alloc o).alloc o').drew.ownsRow (w.heap.size + 1) 9 1 sv k (strCells (ts.map enc))) := fun o o' => (((pw_own_below q6 Hb5.out).alloc o).alloc o').drew
        have Hnew : Hid (∀ o o', ((w5.alloc o).alloc o').drew.heap[w5.heap.size + 1]? = some o') := fun o o' => by
          have := heap_alloc_new (w5.alloc o) o'
          rwa [show (w5.alloc o).heap.size = w5.heap.size + 1 from by simp] at this
        have Hne : Hid (some w.heap.size ≠ sv.ownBlock) := fun e => by have := own_base q6 _ e.symm; omega
        have hcell := cell_of_blk (j := 1) (v := sv) hblk rfl
        have hfree := free_of_blk (j := 1) hblk
        have Hq := Lib.hid (And.intro q1 (And.intro q2 (And.intro q3 (And.intro q4 q0))))
        have Hb := Lib.hid (q7.trans (Hb5.out.mono (by omega)))
        have Hbase : Hid (∀ j, sv.ownBlock = some j → w.heap.size + 1 ≤ j) := fun j hj => own_base q6 j hj
        have Hblk := Lib.hid hblk
        obtain ⟨i0, hi0, hz0, hz1, hz2⟩ := info_parts infoStr
        clear q1 q2 q3 q4 q0 q5 q6 q7 q8 hblk
        have Hi0 := Lib.hid hi0
        have Hz0 := Lib.hid hz0
        have Hz1 := Lib.hid hz1
        have Hz2 := Lib.hid hz2
        clear hi0 hz0 hz1 hz2
        have K2 : Hid (∀ o o', ((w5.alloc o).alloc o').drew.cell? ⟨w.heap.size, 1, none⟩ = some sv ∧ ((w5.alloc o).alloc o').drew.frozen? ⟨w.heap.size, 1, none⟩ = false) := fun o o' => by
          have hb : ((w5.alloc o).alloc o').drew.heap[w.heap.size]? = some (.cells #[.string ⟨#[]⟩, sv] 55 (0, 0)) := (Below.heap_alloc _ _ _ (by simp; omega)).trans ((Below.heap_alloc _ _ _ hsz5).trans Hblk.out)
          exact ⟨cell_of_blk hb rfl, free_of_blk hb⟩
        go_cut [] (fun wx => MidRel w s d k at_ t wx)
        case first =>
          go_region_law (first
            | (refine step_append_lies _ (by rfl) _ _ _ (by rfl) (w.heap.size + 1) 9 i0 _ 1 16 Try.underlying29 Hi0.out Hz0.out Hz1.out Hz2.out rfl (by omega) sv k (strCells (ts.map enc)) (by rfl) (Hown.out _ _) ⟨w5.heap.size + 1, 0, none⟩ 1 1 [.string (ofBytes (enc t))] (by rfl) (by rfl) (World.news_of_block (cs := #[.string (ofBytes (enc t))]) (t := 9) (fr := (0, 0)) (Hnew.out _ _)) (by simp [Value.oneCell']) (by omega) (by unfold maxLen; omega) (by omega) (by simp; omega) (w5.heap.size + 2) (by simp) ?_; intro gg cap w1 hown1 hgrow hat hlt1; have hc1 := (hgrow.cell_far ⟨w.heap.size, 1, none⟩ (by simp; omega) Hne.out).trans (K2.out _ _).1; have hf1 := (hgrow.frozen_far ⟨w.heap.size, 1, none⟩ (by simp; omega) Hne.out).trans (K2.out _ _).2)
            | (go_simp; (with_reducible refine (Hcf.out _).mono ?_); rintro e w' ⟨rfl, rfl⟩))
          all_goals (go_wp2_with fail; go_meet)
          all_goals exact mid_of Hq.out Hb.out hsz5 Hblk.out Hne.out Hbase.out hown1 hgrow
        case rest =>
          have Hc := Lib.hid hcut
          have hL := rel_len Hr.out hpr
          have hLz := size_ofBytes (enc t)
          have Hpr := Lib.hid hpr
          clear hcut hcell hfree hpr Hblk Hne Hown Hnew K2 Hi0 Hz0 Hz1 Hz2 Hq
          go_wp2_with fail
          refine (Hcf.out _).mono ?_
          rintro e w6 ⟨rfl, rfl⟩
          go_wp2
          go_roundw
          case rel => exact ⟨k + 1, at_ + (enc t).length, by omega, by go_num, by go_num, rel_next Hc.out Hpr.out _⟩
          case measure => simp [intOf]; omega
    · obtain rfl : k = 2 := by omega
      clear hlt
      obtain ⟨ts, rest, sv, q1, q2, q3, q4, q5, q6, q7, q8⟩ := rel_end Hr.out
      obtain ⟨a, b, rfl, _, q11⟩ := done_two hp (k2 := K2.g) (UInt8.toNat_inj.1 (hc hp)) q1 q4
      obtain ⟨q9, q10⟩ := q11 (fun h => by cases h.1)
      have HP : Hid (∀ u, ReadPost w (d + 1) s (.returned (.iface 55 (.agg #[.string (s.extract 0 at_), sv]))) (wr.setCell ⟨w.heap.size, 0, none⟩ u)) := fun u =>
        ⟨_, rfl, by rw [q9]; exact node_two q6 q10 u, q7.setCell (Nat.le_refl _) _⟩
      have hc0 := cell_of_blk (j := 0) (v := .string ⟨#[]⟩) q5 rfl
      have hc1 := cell_of_blk (j := 1) (v := sv) q5 rfl
      have hf0 := free_of_blk (j := 0) q5
      clear q1 q2 q4 q5 q6 q7 q8 q9 q10 q11 Hr
      go_wp2
      go_ret
      exact HP.out _

end Go.Proofs.Ytpgbhgpjfjeomaa
