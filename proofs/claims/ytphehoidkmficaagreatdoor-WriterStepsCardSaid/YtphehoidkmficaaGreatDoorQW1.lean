/- Contracts and laws that the statement of LawWriterOpens,LawWriterReads,LawWriterRenews,LawWriterSteps leans on (packed from this claim's own texts): part 1. -/
import Derived.Test.YtphehoidkmficaaGreatDoorProg
import Derived.WalkKit
import Derived.WalkLawsBesides
import Derived.Below
import Derived.OneCell
import Derived.Laws.Bits64
import Derived.Lib.Hide
import Derived.Shelf.Strings.Builder1
import Derived.Shelf.Strings.Builder2
import Derived.Shelf.Strings.OnBuilder
import Derived.Shelf.Strings.BuilderF
import Derived.Shelf.Strings.BuilderK
import Derived.Shelf.Strings.Builder2Cap
import Derived.Shelf.Strconv.Itoa0
import Derived.Shelf.Strings.Search1
import Derived.Shelf.Strings.Search2
import Derived.Shelf.Strings.Cut
import Derived.Shelf.LaysM
import Derived.Shelf.Strings.Shaped
import Derived.Shelf.Strings.BuilderCap
import Derived.RowKit
import Derived.Shelf.Unicode.ValidAny
section

namespace Go.Proofs.YtphehoidkmficaaGreatDoor
open Go.RowKit
structure Moved (S : Nat → Prop) (w w' : World) : Prop where
 os : w'.os = w.os
 tape : w'.tape = w.tape
 output : w'.output = w.output
 size : w.heap.size ≤ w'.heap.size
 block : ∀ k, k < w.heap.size → ¬ S k → w'.heap[k]? = w.heap[k]?
theorem Moved.refl (S : Nat → Prop) (w : World) : Moved S w w := ⟨rfl, rfl, rfl, Nat.le_refl _, fun _ _ _ => rfl⟩
theorem Moved.trans {S : Nat → Prop} {a b c : World} (h : Moved S a b) (k : Moved S b c) : Moved S a c :=
 ⟨k.os.trans h.os, k.tape.trans h.tape, k.output.trans h.output, Nat.le_trans h.size k.size, fun i hi hs => (k.block i (Nat.lt_of_lt_of_le hi h.size) hs).trans (h.block i hi hs)⟩
theorem Moved.mono {S T : Nat → Prop} {a b : World} (h : Moved S a b) (hst : ∀ k, S k → T k) : Moved T a b :=
 ⟨h.os, h.tape, h.output, h.size, fun i hi hs => h.block i hi (fun q => hs (hst _ q))⟩
theorem Moved.of_below {S : Nat → Prop} {w w' : World} (h : Below w.heap.size w w') : Moved S w w' := ⟨h.os, h.tape, h.output, h.size, fun k hk _ => h.block k hk⟩
theorem Moved.setCell {S : Nat → Prop} (w : World) {a : Addr} (ha : S a.block) (u : Value) : Moved S w (w.setCell a u) :=
 ⟨rfl, rfl, rfl, by simp [World.setCell], fun k _ hs => Below.heap_setCell _ _ _ _ (fun e => hs (by rw [e]; exact ha))⟩
theorem Moved.alloc {S : Nat → Prop} (w : World) (o : Obj) : Moved S w (w.alloc o) :=
 ⟨rfl, rfl, rfl, by simp, fun k hk _ => Below.heap_alloc _ _ _ hk⟩
theorem Moved.below {S : Nat → Prop} {B : Nat} {a w w' : World} (hb : Below B a w) (h : Moved S w w') (hB : B ≤ w.heap.size) (hs : ∀ k, S k → B ≤ k) : Below B a w' :=
 hb.trans ⟨h.os, h.tape, h.output, h.size, fun k hk => h.block k (by omega) (fun q => by have := hs k q; omega)⟩
theorem cell_of_blk {w : World} {b j : Nat} {c : Array Value} {t : TypeId} {f : Nat × Nat} {v : Value} (h : w.heap[b]? = some (.cells c t f)) (hv : c[j]? = some v) : w.cell? ⟨b, j, none⟩ = some v := by simp [World.cell?, h, hv]
theorem free_of_blk {w : World} {b j : Nat} {c : Array Value} {t : TypeId} (h : w.heap[b]? = some (.cells c t (0, 0))) : w.frozen? ⟨b, j, none⟩ = false := by simp [World.frozen?, h]
theorem blk_setCell {w : World} {b j : Nat} {c : Array Value} {t : TypeId} {f : Nat × Nat} {u : Value} (h : w.heap[b]? = some (.cells c t f)) : (w.setCell ⟨b, j, none⟩ u).heap[b]? = some (.cells (c.setIfInBounds j u) t f) := by
 have hlt := lt_of_block h
 have h' : w.heap[b] = .cells c t f := by simpa [Array.getElem?_eq_getElem hlt] using h
 show (w.heap.modify b _)[b]? = _
 rw [Array.getElem?_eq_getElem (by simpa using hlt), Array.getElem_modify_self, h']
 rfl
end Go.Proofs.YtphehoidkmficaaGreatDoor
end
section

namespace Go.Proofs
open Go.Shelf
def Tryz.lays156_ren : Go.Shelf.Ren := ⟨fun | 156 => 116 | 165 => 124 | 166 => 125 | 169 => 126 | 240 => 133 | 241 => 134 | 276 => 140 | 277 => 141 | n => n, fun | 31 => 24 | 9 => 9 | 3 => 3 | 4 => 4 | 0 => 0 | 20 => 20 | 72 => 136 | 76 => 140 | 70 => 134 | 37 => 101 | 75 => 139 | 127 => 154 | 164 => 160 | 5 => 5 | 80 => 129 | n => n, fun | n => n⟩
theorem Tryz.lays156 : Go.Proofs.Lays.n156 Tryz.prog Tryz.lays156_ren := {
 mixed := by kernel_rfl
 f156 := Tryz.func116.trans (congrArg some (by kernel_rfl))
 f165 := Tryz.func124.trans (congrArg some (by kernel_rfl))
 f166 := Tryz.func125.trans (congrArg some (by kernel_rfl))
 f169 := Tryz.func126.trans (congrArg some (by kernel_rfl))
 f240 := Tryz.func133.trans (congrArg some (by kernel_rfl))
 f241 := Tryz.func134.trans (congrArg some (by kernel_rfl))
 f276 := Tryz.func140.trans (congrArg some (by kernel_rfl))
 f277 := Tryz.func141.trans (congrArg some (by kernel_rfl))
 t0 := Tryz.underlying0
 a0 := Tryz.isAgg0
 z0 := Tryz.sizeOf0
 v0 := Tryz.zeroValue0
 t3 := Tryz.underlying3
 a3 := Tryz.isAgg3
 z3 := Tryz.sizeOf3
 v3 := Tryz.zeroValue3
 t4 := Tryz.underlying4
 a4 := Tryz.isAgg4
 z4 := Tryz.sizeOf4
 v4 := Tryz.zeroValue4
 t9 := Tryz.underlying9
 a9 := Tryz.isAgg9
 z9 := Tryz.sizeOf9
 v9 := Tryz.zeroValue9
 t20 := Tryz.underlying20
 a20 := Tryz.isAgg20
 z20 := Tryz.sizeOf20
 v20 := Tryz.zeroValue20
 t31 := Tryz.underlying24
 a31 := Tryz.isAgg24
 z31 := Tryz.sizeOf24
 v31 := Tryz.zeroValue24
 t37 := Tryz.underlying101
 a37 := Tryz.isAgg101
 z37 := Tryz.sizeOf101
 v37 := Tryz.zeroValue101
 t70 := Tryz.underlying134
 a70 := Tryz.isAgg134
 z70 := Tryz.sizeOf134
 v70 := Tryz.zeroValue134
 t72 := Tryz.underlying136
 a72 := Tryz.isAgg136
 z72 := Tryz.sizeOf136
 v72 := Tryz.zeroValue136
 t75 := Tryz.underlying139
 a75 := Tryz.isAgg139
 z75 := Tryz.sizeOf139
 v75 := Tryz.zeroValue139
 t76 := Tryz.underlying140
 a76 := Tryz.isAgg140
 z76 := Tryz.sizeOf140
 v76 := Tryz.zeroValue140
 t127 := Tryz.underlying154
 a127 := Tryz.isAgg154
 z127 := Tryz.sizeOf154
 v127 := Tryz.zeroValue154
 t164 := Tryz.underlying160
 a164 := Tryz.isAgg160
 z164 := Tryz.sizeOf160
 v164 := Tryz.zeroValue160 }
theorem Tryz.Builder_Extra_156 : Builder.Extra Tryz.prog Tryz.lays156_ren := {
 sizeBuilder := by kernel_rfl
 liesBuilder := by kernel_rfl
 t5 := Tryz.underlying5
 a5 := Tryz.isAgg5
 z5 := Tryz.sizeOf5
 v5 := Tryz.zeroValue5
 infoByte := by kernel_rfl
 cellsByte := by kernel_rfl
 sizeByte := by kernel_rfl
 neB5 := by decide }
open Go.RowKit in
theorem Tryz.strings_Join_none (a : Option Addr) (c : Nat) (sep : ByteArray) (w : World) :
  Calls Tryz.prog 116 #[.slice a 0 c, .string sep] w fun e w' => e = .returned (.string ⟨#[]⟩) ∧ w' = w := Any.strings_Join_none Tryz.lays156 Tryz.Builder_Extra_156 a c sep w
open Go.RowKit in
theorem Tryz.strings_Join (bk o c : Nat) (xs : List ByteArray) (sep : ByteArray) (w : World) (hcells : ∀ (j : Nat) x, xs[j]? = some x → w.cell? ⟨bk, o + j, none⟩ = some (.string x)) (hbk : bk < w.heap.size) (hN : xs.length ≤ 140737488355328) (hcap : xs.length ≤ c) (hlen : (Lib.join (xs.map (·.data.toList)) sep.data.toList).length ≤ 140737488355328) :
  Calls Tryz.prog 116 #[.slice (some ⟨bk, o, none⟩) xs.length c, .string sep] w fun e w' => e = .returned (.string ⟨(Lib.join (xs.map (·.data.toList)) sep.data.toList).toArray⟩) ∧ Below w.heap.size w w' := Any.strings_Join Tryz.lays156 Tryz.Builder_Extra_156 bk o c xs sep w hcells hbk hN hcap hlen
def Tryz.lays129_ren : Go.Shelf.Ren := ⟨fun | 129 => 90 | n => n, fun | 53 => 64 | 3 => 3 | 4 => 4 | 46 => 102 | 5 => 5 | 9 => 9 | n => n, fun | n => n⟩
theorem Tryz.lays129 : Go.Proofs.Lays.n129 Tryz.prog Tryz.lays129_ren := {
 mixed := by kernel_rfl
 f129 := Tryz.func90.trans (congrArg some (by kernel_rfl))
 t3 := Tryz.underlying3
 a3 := Tryz.isAgg3
 z3 := Tryz.sizeOf3
 v3 := Tryz.zeroValue3
 t4 := Tryz.underlying4
 a4 := Tryz.isAgg4
 z4 := Tryz.sizeOf4
 v4 := Tryz.zeroValue4
 t5 := Tryz.underlying5
 a5 := Tryz.isAgg5
 z5 := Tryz.sizeOf5
 v5 := Tryz.zeroValue5
 t9 := Tryz.underlying9
 a9 := Tryz.isAgg9
 z9 := Tryz.sizeOf9
 v9 := Tryz.zeroValue9
 t46 := Tryz.underlying102
 a46 := Tryz.isAgg102
 z46 := Tryz.sizeOf102
 v46 := Tryz.zeroValue102
 t53 := Tryz.underlying64
 a53 := Tryz.isAgg64
 z53 := Tryz.sizeOf64
 v53 := Tryz.zeroValue64 }
theorem Tryz.bits_Len64 (x : Int) (w : World) (h0 : 0 ≤ x) (h1 : x ≤ 18446744073709551615) :
  Calls Tryz.prog 90 #[.int .u64 x] w fun e w' => e = .returned (.int .i64 (Lib.bitLen x.toNat)) ∧ w' = w := Any.bits_Len64 Tryz.lays129 x w h0 h1
def Tryz.lays145_ren : Go.Shelf.Ren := ⟨fun | 145 => 95 | 220 => 117 | 219 => 127 | 217 => 135 | 225 => 136 | 224 => 137 | 267 => 138 | 266 => 142 | 314 => 143 | n => n, fun | 9 => 9 | 4 => 4 | 59 => 86 | 3 => 3 | 5 => 5 | 46 => 102 | 146 => 164 | 51 => 163 | n => n, fun | 1 => 2 | n => n⟩
theorem Tryz.lays145 : Go.Proofs.Lays.n145 Tryz.prog Tryz.lays145_ren := {
 mixed := by kernel_rfl
 f145 := Tryz.func95.trans (congrArg some (by kernel_rfl))
 f217 := Tryz.func135.trans (congrArg some (by kernel_rfl))
 f219 := Tryz.func127.trans (congrArg some (by kernel_rfl))
 f220 := Tryz.func117.trans (congrArg some (by kernel_rfl))
 f224 := Tryz.func137.trans (congrArg some (by kernel_rfl))
 f225 := Tryz.func136.trans (congrArg some (by kernel_rfl))
 f266 := Tryz.func142.trans (congrArg some (by kernel_rfl))
 f267 := Tryz.func138.trans (congrArg some (by kernel_rfl))
 f314 := Tryz.func143.trans (congrArg some (by kernel_rfl))
 t3 := Tryz.underlying3
 a3 := Tryz.isAgg3
 z3 := Tryz.sizeOf3
 v3 := Tryz.zeroValue3
 t4 := Tryz.underlying4
 a4 := Tryz.isAgg4
 z4 := Tryz.sizeOf4
 v4 := Tryz.zeroValue4
 t5 := Tryz.underlying5
 a5 := Tryz.isAgg5
 z5 := Tryz.sizeOf5
 v5 := Tryz.zeroValue5
 t9 := Tryz.underlying9
 a9 := Tryz.isAgg9
 z9 := Tryz.sizeOf9
 v9 := Tryz.zeroValue9
 t46 := Tryz.underlying102
 a46 := Tryz.isAgg102
 z46 := Tryz.sizeOf102
 v46 := Tryz.zeroValue102
 t51 := Tryz.underlying163
 a51 := Tryz.isAgg163
 z51 := Tryz.sizeOf163
 v51 := Tryz.zeroValue163
 t59 := Tryz.underlying86
 a59 := Tryz.isAgg86
 z59 := Tryz.sizeOf86
 v59 := Tryz.zeroValue86
 t146 := Tryz.underlying164
 a146 := Tryz.isAgg164
 z146 := Tryz.sizeOf164
 v146 := Tryz.zeroValue164
 g1 := by kernel_rfl }
open Go.RowKit Go.Lib in
theorem Tryz.strings_Cut (s sep : ByteArray) (m : Int) (w : World) (hs : s.size < 4294967281) (hm : w.cell? ⟨2, 0, none⟩ = some (.int .i64 m)) :
  Calls Tryz.prog 95 #[.string s, .string sep] w fun e w' => e = .returned (.tuple #[.string ⟨(Lib.cut s.data.toList sep.data.toList).1.toArray⟩, .string ⟨(Lib.cut s.data.toList sep.data.toList).2.1.toArray⟩, .bool (Lib.cut s.data.toList sep.data.toList).2.2]) ∧ ∃ n, w' = w.drewN n := Any.strings_Cut Tryz.lays145 s sep m w hs hm
end Go.Proofs
end
section

namespace Go.Proofs
open Go.Shelf Go.RowKit
def Tryz.lays196_ren : Go.Shelf.Ren := ⟨fun | 196 => 118 | 259 => 128 | n => n, fun | 12 => 12 | 46 => 102 | 53 => 64 | 119 => 144 | 138 => 146 | 139 => 147 | n => n, fun | 3 => 0 | 4 => 1 | n => n⟩
theorem Tryz.lays196 : Go.Proofs.Lays.n196 Tryz.prog Tryz.lays196_ren := {
 mixed := by kernel_rfl
 f196 := Tryz.func118.trans (congrArg some (by kernel_rfl))
 f259 := Tryz.func128.trans (congrArg some (by kernel_rfl))
 t0 := Tryz.underlying0
 a0 := Tryz.isAgg0
 z0 := Tryz.sizeOf0
 v0 := Tryz.zeroValue0
 t3 := Tryz.underlying3
 a3 := Tryz.isAgg3
 z3 := Tryz.sizeOf3
 v3 := Tryz.zeroValue3
 t4 := Tryz.underlying4
 a4 := Tryz.isAgg4
 z4 := Tryz.sizeOf4
 v4 := Tryz.zeroValue4
 t5 := Tryz.underlying5
 a5 := Tryz.isAgg5
 z5 := Tryz.sizeOf5
 v5 := Tryz.zeroValue5
 t9 := Tryz.underlying9
 a9 := Tryz.isAgg9
 z9 := Tryz.sizeOf9
 v9 := Tryz.zeroValue9
 t12 := Tryz.underlying12
 a12 := Tryz.isAgg12
 z12 := Tryz.sizeOf12
 v12 := Tryz.zeroValue12
 t46 := Tryz.underlying102
 a46 := Tryz.isAgg102
 z46 := Tryz.sizeOf102
 v46 := Tryz.zeroValue102
 t53 := Tryz.underlying64
 a53 := Tryz.isAgg64
 z53 := Tryz.sizeOf64
 v53 := Tryz.zeroValue64
 t119 := Tryz.underlying144
 a119 := Tryz.isAgg144
 z119 := Tryz.sizeOf144
 t138 := Tryz.underlying146
 a138 := Tryz.isAgg146
 z138 := Tryz.sizeOf146
 v138 := Tryz.zeroValue146
 t139 := Tryz.underlying147
 a139 := Tryz.isAgg147
 z139 := Tryz.sizeOf147
 v139 := Tryz.zeroValue147
 g3 := by kernel_rfl
 g4 := by kernel_rfl }
theorem Tryz.ValidString (s : ByteArray) (w : World) (hs : s.size ≤ 9223372036854775807) (hT : Lib.Utf8Tabs 0 1 w) :
  Calls Tryz.prog 118 #[.string s] w fun e w' => e = .returned (.bool (Lib.validD s.data.toList)) ∧ Below w.heap.size w w' := Any.utf8_ValidString Tryz.lays196 s w hs hT
end Go.Proofs
end
