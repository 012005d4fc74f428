/- What the printed words of the reference for draw come to. -/
import Derived.Test.YtpgbhgpjfjeomaaEvRef
import Derived.Test.YtpgbhgpjfjeomaaEvSecret
namespace Go.Proofs.Ytpgbhgpjfjeomaa.Ref
open Go.RowKit Go.Proofs.Ytpgbhgpjfjeomaa Go.Proofs.Ytpgbhgpjfjeomaa.PA Go.Proofs.YtpgbhgpjfjeomaaW.PrintWords Go.Proofs.YtpgbhgpjfjeomaaW.PrintLast
set_option linter.unusedVariables false

theorem ref5Secret_ev (a b : ByteArray) (n : Nat) (ha : a.size ≤ 1000000) (hb : b.size ≤ 1000000) (h : n < 18446744073709551616) :
    Ev (fun k => letterlockref5_Secret.f k a b (n : Int)) (secretF a b n) := by
  have hs := nameB_size a b
  unfold letterlockref5_Secret.f secretF
  refine Ev.pos (by omega) (Ev.pos (by rw [ByteArray.size_append, size_one]; omega) (Ev.bind (refText_ev (nameB a b) (by omega)) ?_))
  by_cases h0 : (textF (nameB a b)).2 = 0
  · rw [if_pos h0]
    refine Ev.pos h0 (Ev.bind (refAtom_ev n h) (Ev.bind (refPair_ev (textF (nameB a b)).1 (atomB n)) ?_))
    by_cases h1 : (pairF (textF (nameB a b)).1 (atomB n)).2 = 0
    · rw [if_pos h1]
      exact Ev.pos h1 (Ev.bind (refHash_ev _) (Ev.now _))
    · rw [if_neg h1]
      exact Ev.neg h1 (Ev.now _)
  · rw [if_neg h0]
    exact Ev.neg h0 (Ev.now _)

theorem ref5Mix_val (n : Nat) : letterlockref5_Mix.f (n : Int) = some ((mixN n : Nat) : Int) := by
  unfold letterlockref5_Mix.f
  have h0 : IntKind.u64.wrap ((n : Int) + 11400714819323198485) = ((mixA n : Nat) : Int) := by
    rw [IntKind.wrap_u64]; unfold mixA; omega
  rw [h0]
  have h1 := mixStep_u64 (mixA n) 1073741824 13787848793156543929 (mixA_lt n)
  rw [show IntKind.u64.wrap (bits BinOp.xor IntKind.u64 ((mixA n : Nat) : Int) (((mixA n : Nat) : Int) / 1073741824) * 13787848793156543929) = ((mixB (mixA n) : Nat) : Int) from h1]
  have h2 := mixStep_u64 (mixB (mixA n)) 134217728 10723151780598845931 (mixB_lt _)
  rw [show IntKind.u64.wrap (bits BinOp.xor IntKind.u64 ((mixB (mixA n) : Nat) : Int) (((mixB (mixA n) : Nat) : Int) / 134217728) * 10723151780598845931) = ((mixC (mixB (mixA n)) : Nat) : Int) from h2]
  rw [show bits BinOp.xor IntKind.u64 ((mixC (mixB (mixA n)) : Nat) : Int) (((mixC (mixB (mixA n)) : Nat) : Int) / 2147483648) = _ from xorShift_u64 _ 2147483648 (mixC_lt _)]
  have hx : U64 (mixC (mixB (mixA n)) ^^^ mixC (mixB (mixA n)) / 2147483648) := by
    have h := mixC_lt (mixB (mixA n))
    unfold U64 at *
    rw [show (18446744073709551616 : Nat) = 2 ^ 64 from rfl] at *
    exact Nat.xor_lt_two_pow h (Nat.lt_of_le_of_lt (Nat.div_le_self _ _) h)
  unfold mixN mixD
  rw [Nat.mod_eq_of_lt hx]

def drawN (a i : Nat) : Nat := (a + i * 11400714819323198485) % 18446744073709551616
theorem drawN_succ (a i : Nat) : drawN a (i + 1) = mixA (drawN a i) := by unfold drawN mixA; omega
theorem drawN_zero (a : Nat) (h : U64 a) : drawN a 0 = a := by unfold drawN; unfold U64 at h; omega
theorem ref5Draw_val (a i : Nat) (ha : U64 a) (hi : i < 1000) : letterlockref5_Draw.f (a : Int) (i : Int) = some ((mixN (drawN a i) : Nat) : Int) := by
  unfold letterlockref5_Draw.f
  have h : IntKind.u64.wrap ((a : Int) + (IntKind.u64.wrap ((IntKind.u64.wrap (i : Int)) * 11400714819323198485))) = ((drawN a i : Nat) : Int) := by
    unfold drawN
    rw [IntKind.wrap_u64, IntKind.wrap_u64, IntKind.wrap_u64]
    omega
  rw [h, ref5Mix_val]
  rfl

end Go.Proofs.Ytpgbhgpjfjeomaa.Ref
