/- The contracts proved by hand, together: what the printed texts lean on. -/
import Derived.Test.YtnieihhnchefdaaOf
import Derived.Test.YtnieihhnchefdaaDrawShown
import Derived.Test.YtnieihhnchefdaaApart
namespace Go.Proofs.Ytnieihhnchefdaa
open Go.RowKit Go.Proofs.YtnieihhnchefdaaW.PrintWords
set_option linter.unusedVariables false

def draw_Mix.f (a0 : Int) : Option Int := if 0 ≤ a0 ∧ a0 < 18446744073709551616 then some (mixN a0.toNat) else none
theorem draw_Mix.calls (a0 : Int) (r : Int) (w : World) (h : draw_Mix.f a0 = some r) :
    Calls Try.prog 56 #[.int .u64 a0] w fun e w' => e = .returned (.int .u64 r) ∧ Below w.heap.size w w' := by
  unfold draw_Mix.f at h
  split at h
  · rename_i hs
    obtain rfl := Option.some.inj h
    obtain ⟨n, rfl⟩ := Int.eq_ofNat_of_zero_le hs.1
    exact mix_any n w
  · exact absurd h (by simp)
def bits_Len64.f (a0 : Int) : Option Int := if 0 ≤ a0 ∧ a0 ≤ 18446744073709551615 then some (Lib.bitLen a0.toNat) else none
theorem bits_Len64.calls (a0 : Int) (r : Int) (w : World) (h : bits_Len64.f a0 = some r) :
    Calls Try.prog 78 #[.int .u64 a0] w fun e w' => e = .returned (.int .i64 r) ∧ Drawn0 w w' := by
  unfold bits_Len64.f at h
  split at h
  · rename_i hs
    obtain rfl := Option.some.inj h
    refine (Try.bits_Len64 a0 w hs.1 hs.2).mono ?_
    rintro e w' ⟨rfl, rfl⟩
    exact ⟨rfl, Drawn0.refl _⟩
  · exact absurd h (by simp)
def law5_shown.f : Option Bool := some true
theorem law5_shown.calls (r : Bool) (w : World) (h : law5_shown.f = some r) :
    Calls Try.prog 33 #[] w fun e w' => e = .returned (.bool r) ∧ Below w.heap.size w w' := by
  obtain rfl := Option.some.inj h
  exact shown5_any w

end Go.Proofs.Ytnieihhnchefdaa
