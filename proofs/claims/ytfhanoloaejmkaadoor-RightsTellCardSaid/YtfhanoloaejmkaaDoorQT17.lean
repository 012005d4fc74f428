/- Contracts and laws that the statement of LawRightsTell leans on (packed from this claim's own texts): part 17. -/
import Derived.LoopTactic
import Derived.Test.YtfhanoloaejmkaaDoorQT16
section

namespace Go.Proofs.YtfhanoloaejmkaaDoor
open Go.RowKit Go.Proofs.YtfhanoloaejmkaaDoorW.PrintWords Go.Proofs.YtfhanoloaejmkaaDoorW.PrintLast Go.Proofs.YtfhanoloaejmkaaDoor.Ref
set_option linter.unusedVariables false
set_option linter.unusedSimpArgs false
theorem BoxAt.off {w : World} {b b' : Nat} {r : Rt} {v3 v4 : Value} (h : BoxAt w b r v3 v4) (hp : b ≠ b') (a1 a2 a3 a4 a5 : Value) :
  BoxAt (((((w.setCell ⟨b', 0, none⟩ a1).setCell ⟨b', 1, none⟩ a2).setCell ⟨b', 2, none⟩ a3).setCell ⟨b', 3, none⟩ a4).setCell ⟨b', 4, none⟩ a5) b r v3 v4 :=
 ((((h.far (p := ⟨b', 0, none⟩) hp a1).far (p := ⟨b', 1, none⟩) hp a2).far (p := ⟨b', 2, none⟩) hp a3).far (p := ⟨b', 3, none⟩) hp a4).far (p := ⟨b', 4, none⟩) hp a5
def RowsOff (A A' : Option Addr) (l l' : List ByteArray) (b : Nat) : Prop := (∀ ad, A = some ad → 0 < l.length → ad.block ≠ b) ∧ ∀ ad, A' = some ad → 0 < l'.length → ad.block ≠ b
theorem C_apart {w : World} {A : Option Addr} {l : List ByteArray} (h : Kd.C Kd.string w A l.length l) {p : Addr} (hp : ∀ ad, A = some ad → 0 < l.length → ad.block ≠ p.block) (u : Value) : Kd.C Kd.string (w.setCell p u) A l.length l := by
 refine ⟨h.1, h.2.1, fun hn => ?_⟩
 obtain ⟨ad, rfl, hc⟩ := h.2.2 hn
 refine ⟨ad, rfl, fun j q hj => ?_⟩
 obtain ⟨cs, hl, hK, hz⟩ := hc j q hj
 refine ⟨cs, hl, hK, fun i x hx => ?_⟩
 rw [← hz i x hx]
 refine World.cell?_of_block (Below.heap_setCell w p u _ ?_)
 rw [add_block]
 exact hp ad rfl hn
theorem RowsAt.apart1 {w : World} {B b : Nat} {r : Rt} {A : Option Addr} {c : Nat} {A' : Option Addr} {c' : Nat} (h : RowsAt w B r A c A' c') (hp : RowsOff A A' r.rs r.ws b) (i : Nat) (u : Value) : RowsAt (w.setCell ⟨b, i, none⟩ u) B r A c A' c' :=
 ⟨C_apart h.h1 hp.1 u, h.h2, C_apart h.h3 hp.2 u, h.h4, h.h5, h.h6⟩
theorem RowsAt.apart {w : World} {B b : Nat} {r : Rt} {A : Option Addr} {c : Nat} {A' : Option Addr} {c' : Nat} (h : RowsAt w B r A c A' c') (hp : RowsOff A A' r.rs r.ws b) (a1 a2 a3 a4 a5 : Value) :
  RowsAt (((((w.setCell ⟨b, 0, none⟩ a1).setCell ⟨b, 1, none⟩ a2).setCell ⟨b, 2, none⟩ a3).setCell ⟨b, 3, none⟩ a4).setCell ⟨b, 4, none⟩ a5) B r A c A' c' :=
 ((((h.apart1 hp 0 a1).apart1 hp 1 a2).apart1 hp 2 a3).apart1 hp 3 a4).apart1 hp 4 a5
theorem boxed {w w2 : World} {B : Nat} {R : Rt} {A : Option Addr} {c : Nat} {A' : Option Addr} {c' : Nat} (hb : Below w.heap.size w w2) (h : RowsAt w2 B R A c A' c') :
  Below w.heap.size w (w2.alloc (Obj.cells #[Value.string R.o, Value.string R.f, Value.int IntKind.i64 R.e, .slice A R.rs.length c, .slice A' R.ws.length c'] 26)) ∧
  RowsAt (w2.alloc (Obj.cells #[Value.string R.o, Value.string R.f, Value.int IntKind.i64 R.e, .slice A R.rs.length c, .slice A' R.ws.length c'] 26)) B R A c A' c' :=
 ⟨below_alloc hb _, h.below (below_alloc (Below.refl _ _) _)⟩
end Go.Proofs.YtfhanoloaejmkaaDoor
end
