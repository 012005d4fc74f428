/- The draws of chapter 5: what draw.Mix, draw.New, Next and Many do, as contracts. Conditions: numbers are those of uint64. -/
import Derived.Test.YtnieihhnchefdaaProg
import Derived.WalkKit
import Derived.WalkLawsBesides
import Derived.Below
import Derived.OneCell
import Derived.Laws.Bits64
import Derived.Lib.Hide
namespace Go.Proofs.Ytnieihhnchefdaa
open Go.RowKit
set_option linter.unusedVariables false

/-- A number of uint64. -/
def U64 (n : Nat) : Prop := n < 18446744073709551616
def stepN : Nat := 11400714819323198485
def mixA (n : Nat) : Nat := (n + 11400714819323198485) % 18446744073709551616
def mixB (n : Nat) : Nat := (n ^^^ n / 1073741824) * 13787848793156543929 % 18446744073709551616
def mixC (n : Nat) : Nat := (n ^^^ n / 134217728) * 10723151780598845931 % 18446744073709551616
def mixD (n : Nat) : Nat := (n ^^^ n / 2147483648) % 18446744073709551616
def mixN (n : Nat) : Nat := mixD (mixC (mixB (mixA n)))
theorem mixA_lt (n : Nat) : U64 (mixA n) := Nat.mod_lt _ (by decide)
theorem mixB_lt (n : Nat) : U64 (mixB n) := Nat.mod_lt _ (by decide)
theorem mixC_lt (n : Nat) : U64 (mixC n) := Nat.mod_lt _ (by decide)
theorem mixD_lt (n : Nat) : U64 (mixD n) := Nat.mod_lt _ (by decide)
theorem mixN_lt (n : Nat) : U64 (mixN n) := mixD_lt _

theorem mix_val (n : Nat) :
    IntKind.u64.wrap (bits BinOp.xor IntKind.u64 (IntKind.u64.wrap (bits BinOp.xor IntKind.u64 (IntKind.u64.wrap (bits BinOp.xor IntKind.u64 (IntKind.u64.wrap ((n : Int) + 11400714819323198485)) (IntKind.u64.wrap ((n : Int) + 11400714819323198485) / 1073741824) * 13787848793156543929)) (IntKind.u64.wrap (bits BinOp.xor IntKind.u64 (IntKind.u64.wrap ((n : Int) + 11400714819323198485)) (IntKind.u64.wrap ((n : Int) + 11400714819323198485) / 1073741824) * 13787848793156543929) / 134217728) * 10723151780598845931)) (IntKind.u64.wrap (bits BinOp.xor IntKind.u64 (IntKind.u64.wrap (bits BinOp.xor IntKind.u64 (IntKind.u64.wrap ((n : Int) + 11400714819323198485)) (IntKind.u64.wrap ((n : Int) + 11400714819323198485) / 1073741824) * 13787848793156543929)) (IntKind.u64.wrap (bits BinOp.xor IntKind.u64 (IntKind.u64.wrap ((n : Int) + 11400714819323198485)) (IntKind.u64.wrap ((n : Int) + 11400714819323198485) / 1073741824) * 13787848793156543929) / 134217728) * 10723151780598845931) / 2147483648)) = ((mixN n : Nat) : Int) := by
  have h0 : IntKind.u64.wrap ((n : Int) + 11400714819323198485) = ((mixA n : Nat) : Int) := by
    rw [IntKind.wrap_u64]; unfold mixA; omega
  rw [h0]
  have h1 := mixStep_u64 (mixA n) 1073741824 13787848793156543929 (mixA_lt n)
  rw [show IntKind.u64.wrap (bits BinOp.xor IntKind.u64 ((mixA n : Nat) : Int) (((mixA n : Nat) : Int) / 1073741824) * 13787848793156543929) = ((mixB (mixA n) : Nat) : Int) from h1]
  have h2 := mixStep_u64 (mixB (mixA n)) 134217728 10723151780598845931 (mixB_lt _)
  rw [show IntKind.u64.wrap (bits BinOp.xor IntKind.u64 ((mixB (mixA n) : Nat) : Int) (((mixB (mixA n) : Nat) : Int) / 134217728) * 10723151780598845931) = ((mixC (mixB (mixA n)) : Nat) : Int) from h2]
  rw [show bits BinOp.xor IntKind.u64 ((mixC (mixB (mixA n)) : Nat) : Int) (((mixC (mixB (mixA n)) : Nat) : Int) / 2147483648) = _ from xorShift_u64 _ 2147483648 (mixC_lt _), IntKind.wrap_u64]
  unfold mixN mixD
  omega

theorem mix_any (n : Nat) (w : World) :
    Calls Try.prog 56 #[.int .u64 n] w fun e w' => e = .returned (.int .u64 (mixN n : Nat)) ∧ Below w.heap.size w w' := by
  go_enter Try.func56, Try.ntmps56
  go_wp2
  go_end0
  go_wp2
  go_end0
  go_wp2
  go_end0
  go_wp2
  go_ret
  refine ⟨?_, ?_⟩
  · rw [← mix_val]; rfl
  · exact (Below.refl _ _).alloc (Nat.le_refl _) _

/-- Of the blocks that were there only those in S may have turned. -/
structure Moved (S : Nat → Prop) (w w' : World) : Prop where
  os : w'.os = w.os
  tape : w'.tape = w.tape
  output : w'.output = w.output
  size : w.heap.size ≤ w'.heap.size
  block : ∀ k, k < w.heap.size → ¬ S k → w'.heap[k]? = w.heap[k]?
theorem Moved.refl (S : Nat → Prop) (w : World) : Moved S w w := ⟨rfl, rfl, rfl, Nat.le_refl _, fun _ _ _ => rfl⟩
theorem Moved.trans {S : Nat → Prop} {a b c : World} (h : Moved S a b) (k : Moved S b c) : Moved S a c :=
  ⟨k.os.trans h.os, k.tape.trans h.tape, k.output.trans h.output, Nat.le_trans h.size k.size, fun i hi hs => (k.block i (Nat.lt_of_lt_of_le hi h.size) hs).trans (h.block i hi hs)⟩
theorem Moved.mono {S T : Nat → Prop} {a b : World} (h : Moved S a b) (hst : ∀ k, S k → T k) : Moved T a b :=
  ⟨h.os, h.tape, h.output, h.size, fun i hi hs => h.block i hi (fun q => hs (hst _ q))⟩
theorem Moved.of_below {S : Nat → Prop} {w w' : World} (h : Below w.heap.size w w') : Moved S w w' := ⟨h.os, h.tape, h.output, h.size, fun k hk _ => h.block k hk⟩
theorem Moved.setCell {S : Nat → Prop} (w : World) {a : Addr} (ha : S a.block) (u : Value) : Moved S w (w.setCell a u) :=
  ⟨rfl, rfl, rfl, by simp [World.setCell], fun k _ hs => Below.heap_setCell _ _ _ _ (fun e => hs (by rw [e]; exact ha))⟩
theorem Moved.alloc {S : Nat → Prop} (w : World) (o : Obj) : Moved S w (w.alloc o) :=
  ⟨rfl, rfl, rfl, by simp, fun k hk _ => Below.heap_alloc _ _ _ hk⟩
/-- Whatever has turned lies from B on. -/
theorem Moved.below {S : Nat → Prop} {B : Nat} {a w w' : World} (hb : Below B a w) (h : Moved S w w') (hB : B ≤ w.heap.size) (hs : ∀ k, S k → B ≤ k) : Below B a w' :=
  hb.trans ⟨h.os, h.tape, h.output, h.size, fun k hk => h.block k (by omega) (fun q => by have := hs k q; omega)⟩

/-- A cell of a block that is known whole. -/
theorem cell_of_blk {w : World} {b j : Nat} {c : Array Value} {t : TypeId} {f : Nat × Nat} {v : Value} (h : w.heap[b]? = some (.cells c t f)) (hv : c[j]? = some v) : w.cell? ⟨b, j, none⟩ = some v := by simp [World.cell?, h, hv]
theorem free_of_blk {w : World} {b j : Nat} {c : Array Value} {t : TypeId} (h : w.heap[b]? = some (.cells c t (0, 0))) : w.frozen? ⟨b, j, none⟩ = false := by simp [World.frozen?, h]
theorem blk_setCell {w : World} {b j : Nat} {c : Array Value} {t : TypeId} {f : Nat × Nat} {u : Value} (h : w.heap[b]? = some (.cells c t f)) : (w.setCell ⟨b, j, none⟩ u).heap[b]? = some (.cells (c.setIfInBounds j u) t f) := by
  have hlt := lt_of_block h
  have h' : w.heap[b] = .cells c t f := by simpa [Array.getElem?_eq_getElem hlt] using h
  show (w.heap.modify b _)[b]? = _
  rw [Array.getElem?_eq_getElem (by simpa using hlt), Array.getElem_modify_self, h']
  rfl

theorem seed_val (n : Nat) : IntKind.u64.wrap ((n : Int) + 11400714819323198485) = ((mixA n : Nat) : Int) := by
  rw [IntKind.wrap_u64]; unfold mixA; omega

def SeedAt (w : World) (s n : Nat) : Prop := w.heap[s]? = some (.cells #[.int .u64 n] 22 (0, 0))

theorem next1_any (s n : Nat) (w : World) (hs : SeedAt w s n) :
    Calls Try.prog 80 #[.pointer (some ⟨s, 0, none⟩)] w fun e w' => e = .returned (.int .u64 (mixN n : Nat)) ∧ SeedAt w' s (mixA n) ∧ Moved (· = s) w w' := by
  have hlt := lt_of_block hs
  have hc := cell_of_one hs
  have hf := free_of_one hs
  go_enter Try.func80, Try.ntmps80
  go_wp2_with fail
  refine (mix_any n _).mono ?_
  rintro e w1 ⟨rfl, hb⟩
  have hs1 : SeedAt w1 s n := (hb.block s hlt).trans hs
  have hc1 := cell_of_one hs1
  have hf1 := free_of_one hs1
  have hv := seed_val n
  go_wp2
  go_ret
  refine ⟨rfl, ?_, ?_⟩
  · exact one_setCell hs1
  · exact (Moved.of_below hb).trans (Moved.setCell (S := (· = s)) _ rfl _)

/-- A row of draws: where it lies, where its seed does, which draw is next, how many there were. -/
def DrawsAt (w : World) (d s n m : Nat) : Prop :=
  w.heap[d]? = some (.cells #[.func (.func 80) #[] #[.pointer (some ⟨s, 0, none⟩)], .int .i64 m] 90 (0, 0)) ∧ SeedAt w s n ∧ d ≠ s



theorem new_any (n : Nat) (w : World) :
    Calls Try.prog 57 #[.int .u64 n] w fun e w' => ∃ d s, e = .returned (.pointer (some ⟨d, 0, none⟩)) ∧ DrawsAt w' d s n 0 ∧ Below w.heap.size w w' ∧ w.heap.size ≤ d ∧ d < w'.heap.size ∧ w.heap.size ≤ s ∧ s < w'.heap.size := by
  go_enter Try.func57, Try.ntmps57
  go_wp2
  go_ret
  refine ⟨w.heap.size + 1, w.heap.size, rfl, ⟨?_, ?_, ?_⟩, ?_, ?_, ?_, ?_, ?_⟩
  · have := heap_alloc_new (w.alloc (.cells #[.int .u64 n] 22)) (.cells #[.func (.func 80) #[] #[.pointer (some ⟨w.heap.size, 0, none⟩)], .int .i64 0] 90)
    simpa using this
  · unfold SeedAt
    rw [Below.heap_alloc _ _ _ (by simp)]
    exact heap_alloc_new w _
  · omega
  · exact ((Below.refl _ _).alloc (Nat.le_refl _) _).alloc (by simp) _
  · simp
  · simp
  · simp
  · simp; omega

theorem DrawsAt.moved {w w' : World} {S : Nat → Prop} {d s n m : Nat} (h : DrawsAt w d s n m) (hm : Moved S w w') (hd : ¬ S d) (hs : ¬ S s) : DrawsAt w' d s n m :=
  ⟨(hm.block d (lt_of_block h.1) hd).trans h.1, (hm.block s (lt_of_block h.2.1) hs).trans h.2.1, h.2.2⟩
theorem DrawsAt.below {w w' : World} {d s n m : Nat} (h : DrawsAt w d s n m) (hm : Below w.heap.size w w') : DrawsAt w' d s n m :=
  ⟨(hm.block d (lt_of_block h.1)).trans h.1, (hm.block s (lt_of_block h.2.1)).trans h.2.1, h.2.2⟩

theorem mix0 : mixN 0 = 16294208416658607535 := by decide +kernel

end Go.Proofs.Ytnieihhnchefdaa
