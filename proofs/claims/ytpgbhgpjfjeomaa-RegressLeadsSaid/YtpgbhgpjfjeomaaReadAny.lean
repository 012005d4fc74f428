/- The contract of term.read, whole: by induction on the depth. -/
import Derived.Test.YtpgbhgpjfjeomaaReadA
import Derived.Test.YtpgbhgpjfjeomaaReadB
import Derived.Test.YtpgbhgpjfjeomaaReadC
namespace Go.Proofs.Ytpgbhgpjfjeomaa
open Go.RowKit Go.Proofs.YtpgbhgpjfjeomaaW.PrintWords
set_option linter.unusedVariables false

theorem read_leaf (c : Nat) (hcc : c = 97 ∨ c = 116) (d : Nat) (hd : d ≤ 1000) (s : ByteArray) (v : Value) (h1 : s.toList.isEmpty = false) (hp : 0 < s.size) (hc : ∀ h : 0 < s.size, (s[0]'h).toNat = c) (w : World)
    (hl : Calls Try.prog 58 #[.string s] w fun e w' => e = .returned v ∧ Below w.heap.size w w') :
    Calls Try.prog 53 #[.string s, .int .i64 ((d + 1 : Nat) : Int)] w fun e w' => e = .returned v ∧ Below w.heap.size w w' := by
  have hd0 : ((d : Int) + 1 == 0) = false := by rw [beq_eq_false_iff_ne]; omega
  have HL := Lib.hid hl
  clear hl
  rw [show (((d + 1 : Nat) : Int)) = (d : Int) + 1 from by omega]
  rcases hcc with rfl | rfl
  · go_enter Try.func53, Try.ntmps53
    go_wp2_with fail
    refine HL.out.mono ?_
    rintro e w' ⟨rfl, hb⟩
    have HB := Lib.hid hb
    clear hb
    go_wp2
    go_ret
    exact ⟨rfl, HB.out⟩
  · go_enter Try.func53, Try.ntmps53
    go_wp2_with fail
    refine HL.out.mono ?_
    rintro e w' ⟨rfl, hb⟩
    have HB := Lib.hid hb
    clear hb
    go_wp2
    go_ret
    exact ⟨rfl, HB.out⟩

theorem read_none (c : Nat) (q0 : ((c : Int) == 97) = false) (q1 : ((c : Int) == 116) = false) (q2 : ((c : Int) == 104) = false) (q3 : ((c : Int) == 117) = false) (q4 : ((c : Int) == 112) = false) (q5 : ((c : Int) == 115) = false) (q6 : ((c : Int) == 98) = false) (q7 : ((c : Int) == 103) = false)
    (d : Nat) (hd : d ≤ 1000) (s : ByteArray) (h1 : s.toList.isEmpty = false) (hp : 0 < s.size) (hc : ∀ h : 0 < s.size, (s[0]'h).toNat = c) (w : World) :
    Calls Try.prog 53 #[.string s, .int .i64 ((d + 1 : Nat) : Int)] w fun e w' => e = .returned .nilIface ∧ w = w' := by
  have hd0 : ((d : Int) + 1 == 0) = false := by rw [beq_eq_false_iff_ne]; omega
  rw [show (((d + 1 : Nat) : Int)) = (d : Int) + 1 from by omega]
  go_enter Try.func53, Try.ntmps53
  go_wp2
  go_ret
  exact ⟨rfl, rfl⟩

theorem leaf_node {w : World} {base : Nat} {x : Option (T × Bs)} (h : ∀ y, x = some y → (∃ n, y.1 = .atom n) ∨ ∃ s, y.1 = .text s) : NodeRes w base (leafRes x) x := by
  cases x with
  | none => rfl
  | some y =>
    obtain ⟨t, r⟩ := y
    rcases h _ rfl with ⟨n, rfl⟩ | ⟨s, rfl⟩
    · rfl
    · rfl

theorem read_any (d : Nat) (hd : d ≤ 1000) : ∀ (s : ByteArray) (w : World), s.size ≤ 9223372036854774000 → Calls Try.prog 53 #[.string s, .int .i64 d] w (ReadPost w d s) := by
  induction d with
  | zero =>
    intro s w hs
    cases hb : bytes s with
    | nil =>
      obtain rfl : s = ⟨#[]⟩ := bs_inj (by rw [hb]; rfl)
      refine (read_nil 0 w).mono ?_
      rintro e w' ⟨rfl, rfl⟩
      exact ⟨_, rfl, rfl, Below.refl _ _⟩
    | cons c l =>
      refine (read_zero s (bytes_cons hb).2.1 w).mono ?_
      rintro e w' ⟨rfl, rfl⟩
      exact ⟨_, rfl, rfl, Below.refl _ _⟩
  | succ d ih =>
    have ih := ih (by omega)
    intro s w hs
    cases hb : bytes s with
    | nil =>
      obtain rfl : s = ⟨#[]⟩ := bs_inj (by rw [hb]; rfl)
      refine (read_nil (d + 1) w).mono ?_
      rintro e w' ⟨rfl, rfl⟩
      exact ⟨_, rfl, rfl, Below.refl _ _⟩
    | cons c l =>
      obtain ⟨h2, h1, h3, h4⟩ := bytes_cons hb
      have hp : 0 < s.size := by omega
      have hc : ∀ h : 0 < s.size, (s[0]'h).toNat = c.toNat := fun h => by rw [h3 h]
      have hsz : (s.extract 1 s.size).size = l.length := by rw [← bytes_length, h4]
      have hx : s.extract 1 ((s.extract 1 s.size).size + 1) = s.extract 1 s.size := by rw [hsz, ← h2]
      have hpost : ∀ x, parse (d + 1) (bytes s) = x → (∀ y, x = some y → (∃ n, y.1 = .atom n) ∨ ∃ s, y.1 = .text s) →
          (Calls Try.prog 53 #[.string s, .int .i64 ((d + 1 : Nat) : Int)] w fun e w' => e = .returned (leafRes x) ∧ Below w.heap.size w w') →
          Calls Try.prog 53 #[.string s, .int .i64 ((d + 1 : Nat) : Int)] w (ReadPost w (d + 1) s) := by
        intro x hx hy hcall
        refine hcall.mono ?_
        rintro e w' ⟨rfl, hB⟩
        exact ⟨_, rfl, by rw [hx]; exact leaf_node hy, hB⟩
      by_cases e97 : c = 97
      · subst e97
        refine hpost ((takeL l).map fun x => (T.atom x.1, x.2)) (by rw [hb]; rfl) ?_ (read_leaf 97 (.inl rfl) d (by omega) s _ h1 hp hc w ?_)
        · intro y hy
          obtain ⟨z, _, rfl⟩ := Option.map_eq_some_iff.1 hy
          exact .inl ⟨_, rfl⟩
        · have := leaf_atom s (s.extract 1 s.size) (by omega) (by omega) hc hx (by rw [h4, hb]) w
          rwa [h4] at this
      by_cases e116 : c = 116
      · subst e116
        refine hpost ((takeT 4000 l).map fun x => (T.text x.1, x.2)) (by rw [hb]; rfl) ?_ (read_leaf 116 (.inr rfl) d (by omega) s _ h1 hp hc w ?_)
        · intro y hy
          obtain ⟨z, _, rfl⟩ := Option.map_eq_some_iff.1 hy
          exact .inr ⟨_, rfl⟩
        · have := leaf_text s (s.extract 1 s.size) 116 (by rfl) (by omega) (by omega) hc hx (by rw [h4, hb]) w
          rwa [h4] at this
      by_cases e104 : c = 104
      · subst e104; exact read_h d (by omega) ih s hs h1 hp hc w
      by_cases e117 : c = 117
      · subst e117; exact read_u d (by omega) ih s hs h1 hp hc w
      by_cases e112 : c = 112
      · subst e112; exact read_p d (by omega) ih s hs h1 hp hc w
      by_cases e115 : c = 115
      · subst e115; exact read_s d (by omega) ih s hs h1 hp hc w
      by_cases e98 : c = 98
      · subst e98; exact read_b d (by omega) ih s hs h1 hp hc w
      by_cases e103 : c = 103
      · subst e103; exact read_g d (by omega) ih s hs h1 hp hc w
      have hne : ∀ k : UInt8, c ≠ k → ((c.toNat : Int) == (k.toNat : Int)) = false := fun k hk => by
        rw [beq_eq_false_iff_ne]
        intro e
        exact hk (UInt8.toNat_inj.1 (by omega))
      refine (read_none c.toNat (hne 97 e97) (hne 116 e116) (hne 104 e104) (hne 117 e117) (hne 112 e112) (hne 115 e115) (hne 98 e98) (hne 103 e103) d (by omega) s h1 hp hc w).mono ?_
      rintro e w' ⟨rfl, rfl⟩
      refine ⟨_, rfl, ?_, Below.refl _ _⟩
      have : parse (d + 1) (bytes s) = none := by
        rw [hb]
        simp only [parse]
        rw [if_neg e97, if_neg e116]
        have k1 : kind1 c = none := by unfold kind1; rw [if_neg e104, if_neg e117]
        have k2 : kind2 c = none := by unfold kind2; rw [if_neg e112, if_neg e115, if_neg e98, if_neg e103]
        rw [k1]
        simp only
        rw [k2]
      rw [this]
      rfl

end Go.Proofs.Ytpgbhgpjfjeomaa
