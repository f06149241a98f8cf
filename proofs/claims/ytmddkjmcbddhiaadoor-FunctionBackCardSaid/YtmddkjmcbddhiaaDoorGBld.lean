/-
  The shelf's contracts of strings.Builder's writers, laid at this program by hand (the layer stops at the type interface {}, which no body names). No condition of its own.
-/
import Derived.Shelf.Strings.BuilderRune
import Derived.Shelf.Strings.BuilderK
import Derived.Test.YtmddkjmcbddhiaaDoorProg
namespace Go.Proofs
open Go.Shelf
def Tryd.lays168_ren : Go.Shelf.Ren := ⟨fun | 168 => 42 | 240 => 71 | 242 => 72 | 276 => 89 | 278 => 90 | n => n, fun | 0 => 0 | 3 => 3 | 4 => 4 | 5 => 5 | 9 => 9 | 20 => 20 | 21 => 21 | 37 => 49 | 46 => 86 | 51 => 98 | 70 => 48 | 72 => 51 | 75 => 53 | 164 => 96 | 80 => 58 | n => n, fun | n => n⟩
theorem Tryd.lays168 : Go.Proofs.Lays.n168 Tryd.prog Tryd.lays168_ren := {
  mixed := by kernel_rfl
  f168 := Tryd.func42.trans (congrArg some (by kernel_rfl))
  f240 := Tryd.func71.trans (congrArg some (by kernel_rfl))
  f242 := Tryd.func72.trans (congrArg some (by kernel_rfl))
  f276 := Tryd.func89.trans (congrArg some (by kernel_rfl))
  f278 := Tryd.func90.trans (congrArg some (by kernel_rfl))
  t0 := by first | exact Tryd.underlying0 | kernel_rfl | (intro w; kernel_rfl)
  a0 := by first | exact Tryd.isAgg0 | kernel_rfl | (intro w; kernel_rfl)
  z0 := by first | exact Tryd.sizeOf0 | kernel_rfl | (intro w; kernel_rfl)
  v0 := by first | exact Tryd.zeroValue0 | kernel_rfl | (intro w; kernel_rfl)
  t3 := by first | exact Tryd.underlying3 | kernel_rfl | (intro w; kernel_rfl)
  a3 := by first | exact Tryd.isAgg3 | kernel_rfl | (intro w; kernel_rfl)
  z3 := by first | exact Tryd.sizeOf3 | kernel_rfl | (intro w; kernel_rfl)
  v3 := by first | exact Tryd.zeroValue3 | kernel_rfl | (intro w; kernel_rfl)
  t4 := by first | exact Tryd.underlying4 | kernel_rfl | (intro w; kernel_rfl)
  a4 := by first | exact Tryd.isAgg4 | kernel_rfl | (intro w; kernel_rfl)
  z4 := by first | exact Tryd.sizeOf4 | kernel_rfl | (intro w; kernel_rfl)
  v4 := by first | exact Tryd.zeroValue4 | kernel_rfl | (intro w; kernel_rfl)
  t5 := by first | exact Tryd.underlying5 | kernel_rfl | (intro w; kernel_rfl)
  a5 := by first | exact Tryd.isAgg5 | kernel_rfl | (intro w; kernel_rfl)
  z5 := by first | exact Tryd.sizeOf5 | kernel_rfl | (intro w; kernel_rfl)
  v5 := by first | exact Tryd.zeroValue5 | kernel_rfl | (intro w; kernel_rfl)
  t9 := by first | exact Tryd.underlying9 | kernel_rfl | (intro w; kernel_rfl)
  a9 := by first | exact Tryd.isAgg9 | kernel_rfl | (intro w; kernel_rfl)
  z9 := by first | exact Tryd.sizeOf9 | kernel_rfl | (intro w; kernel_rfl)
  v9 := by first | exact Tryd.zeroValue9 | kernel_rfl | (intro w; kernel_rfl)
  t20 := by first | exact Tryd.underlying20 | kernel_rfl | (intro w; kernel_rfl)
  a20 := by first | exact Tryd.isAgg20 | kernel_rfl | (intro w; kernel_rfl)
  z20 := by first | exact Tryd.sizeOf20 | kernel_rfl | (intro w; kernel_rfl)
  v20 := by first | exact Tryd.zeroValue20 | kernel_rfl | (intro w; kernel_rfl)
  t21 := by first | exact Tryd.underlying21 | kernel_rfl | (intro w; kernel_rfl)
  a21 := by first | exact Tryd.isAgg21 | kernel_rfl | (intro w; kernel_rfl)
  z21 := by first | exact Tryd.sizeOf21 | kernel_rfl | (intro w; kernel_rfl)
  v21 := by first | exact Tryd.zeroValue21 | kernel_rfl | (intro w; kernel_rfl)
  t37 := by first | exact Tryd.underlying49 | kernel_rfl | (intro w; kernel_rfl)
  a37 := by first | exact Tryd.isAgg49 | kernel_rfl | (intro w; kernel_rfl)
  z37 := by first | exact Tryd.sizeOf49 | kernel_rfl | (intro w; kernel_rfl)
  v37 := by first | exact Tryd.zeroValue49 | kernel_rfl | (intro w; kernel_rfl)
  t46 := by first | exact Tryd.underlying86 | kernel_rfl | (intro w; kernel_rfl)
  a46 := by first | exact Tryd.isAgg86 | kernel_rfl | (intro w; kernel_rfl)
  z46 := by first | exact Tryd.sizeOf86 | kernel_rfl | (intro w; kernel_rfl)
  v46 := by first | exact Tryd.zeroValue86 | kernel_rfl | (intro w; kernel_rfl)
  t51 := by first | exact Tryd.underlying98 | kernel_rfl | (intro w; kernel_rfl)
  a51 := by first | exact Tryd.isAgg98 | kernel_rfl | (intro w; kernel_rfl)
  z51 := by first | exact Tryd.sizeOf98 | kernel_rfl | (intro w; kernel_rfl)
  v51 := by first | exact Tryd.zeroValue98 | kernel_rfl | (intro w; kernel_rfl)
  t70 := by first | exact Tryd.underlying48 | kernel_rfl | (intro w; kernel_rfl)
  a70 := by first | exact Tryd.isAgg48 | kernel_rfl | (intro w; kernel_rfl)
  z70 := by first | exact Tryd.sizeOf48 | kernel_rfl | (intro w; kernel_rfl)
  v70 := by first | exact Tryd.zeroValue48 | kernel_rfl | (intro w; kernel_rfl)
  t72 := by first | exact Tryd.underlying51 | kernel_rfl | (intro w; kernel_rfl)
  a72 := by first | exact Tryd.isAgg51 | kernel_rfl | (intro w; kernel_rfl)
  z72 := by first | exact Tryd.sizeOf51 | kernel_rfl | (intro w; kernel_rfl)
  v72 := by first | exact Tryd.zeroValue51 | kernel_rfl | (intro w; kernel_rfl)
  t75 := by first | exact Tryd.underlying53 | kernel_rfl | (intro w; kernel_rfl)
  a75 := by first | exact Tryd.isAgg53 | kernel_rfl | (intro w; kernel_rfl)
  z75 := by first | exact Tryd.sizeOf53 | kernel_rfl | (intro w; kernel_rfl)
  v75 := by first | exact Tryd.zeroValue53 | kernel_rfl | (intro w; kernel_rfl)
  t164 := by first | exact Tryd.underlying96 | kernel_rfl | (intro w; kernel_rfl)
  a164 := by first | exact Tryd.isAgg96 | kernel_rfl | (intro w; kernel_rfl)
  z164 := by first | exact Tryd.sizeOf96 | kernel_rfl | (intro w; kernel_rfl)
  v164 := by first | exact Tryd.zeroValue96 | kernel_rfl | (intro w; kernel_rfl)
}
def Tryd.lays166_ren : Go.Shelf.Ren := ⟨fun | 166 => 40 | 240 => 71 | 276 => 89 | n => n, fun | 0 => 0 | 3 => 3 | 4 => 4 | 9 => 9 | 20 => 20 | 37 => 49 | 70 => 48 | 72 => 51 | 75 => 53 | 164 => 96 | 80 => 58 | 5 => 5 | n => n, fun | n => n⟩
theorem Tryd.lays166 : Go.Proofs.Lays.n166 Tryd.prog Tryd.lays166_ren := {
  mixed := by kernel_rfl
  f166 := Tryd.func40.trans (congrArg some (by kernel_rfl))
  f240 := Tryd.func71.trans (congrArg some (by kernel_rfl))
  f276 := Tryd.func89.trans (congrArg some (by kernel_rfl))
  t0 := by first | exact Tryd.underlying0 | kernel_rfl | (intro w; kernel_rfl)
  a0 := by first | exact Tryd.isAgg0 | kernel_rfl | (intro w; kernel_rfl)
  z0 := by first | exact Tryd.sizeOf0 | kernel_rfl | (intro w; kernel_rfl)
  v0 := by first | exact Tryd.zeroValue0 | kernel_rfl | (intro w; kernel_rfl)
  t3 := by first | exact Tryd.underlying3 | kernel_rfl | (intro w; kernel_rfl)
  a3 := by first | exact Tryd.isAgg3 | kernel_rfl | (intro w; kernel_rfl)
  z3 := by first | exact Tryd.sizeOf3 | kernel_rfl | (intro w; kernel_rfl)
  v3 := by first | exact Tryd.zeroValue3 | kernel_rfl | (intro w; kernel_rfl)
  t4 := by first | exact Tryd.underlying4 | kernel_rfl | (intro w; kernel_rfl)
  a4 := by first | exact Tryd.isAgg4 | kernel_rfl | (intro w; kernel_rfl)
  z4 := by first | exact Tryd.sizeOf4 | kernel_rfl | (intro w; kernel_rfl)
  v4 := by first | exact Tryd.zeroValue4 | kernel_rfl | (intro w; kernel_rfl)
  t9 := by first | exact Tryd.underlying9 | kernel_rfl | (intro w; kernel_rfl)
  a9 := by first | exact Tryd.isAgg9 | kernel_rfl | (intro w; kernel_rfl)
  z9 := by first | exact Tryd.sizeOf9 | kernel_rfl | (intro w; kernel_rfl)
  v9 := by first | exact Tryd.zeroValue9 | kernel_rfl | (intro w; kernel_rfl)
  t20 := by first | exact Tryd.underlying20 | kernel_rfl | (intro w; kernel_rfl)
  a20 := by first | exact Tryd.isAgg20 | kernel_rfl | (intro w; kernel_rfl)
  z20 := by first | exact Tryd.sizeOf20 | kernel_rfl | (intro w; kernel_rfl)
  v20 := by first | exact Tryd.zeroValue20 | kernel_rfl | (intro w; kernel_rfl)
  t37 := by first | exact Tryd.underlying49 | kernel_rfl | (intro w; kernel_rfl)
  a37 := by first | exact Tryd.isAgg49 | kernel_rfl | (intro w; kernel_rfl)
  z37 := by first | exact Tryd.sizeOf49 | kernel_rfl | (intro w; kernel_rfl)
  v37 := by first | exact Tryd.zeroValue49 | kernel_rfl | (intro w; kernel_rfl)
  t70 := by first | exact Tryd.underlying48 | kernel_rfl | (intro w; kernel_rfl)
  a70 := by first | exact Tryd.isAgg48 | kernel_rfl | (intro w; kernel_rfl)
  z70 := by first | exact Tryd.sizeOf48 | kernel_rfl | (intro w; kernel_rfl)
  v70 := by first | exact Tryd.zeroValue48 | kernel_rfl | (intro w; kernel_rfl)
  t72 := by first | exact Tryd.underlying51 | kernel_rfl | (intro w; kernel_rfl)
  a72 := by first | exact Tryd.isAgg51 | kernel_rfl | (intro w; kernel_rfl)
  z72 := by first | exact Tryd.sizeOf51 | kernel_rfl | (intro w; kernel_rfl)
  v72 := by first | exact Tryd.zeroValue51 | kernel_rfl | (intro w; kernel_rfl)
  t75 := by first | exact Tryd.underlying53 | kernel_rfl | (intro w; kernel_rfl)
  a75 := by first | exact Tryd.isAgg53 | kernel_rfl | (intro w; kernel_rfl)
  z75 := by first | exact Tryd.sizeOf53 | kernel_rfl | (intro w; kernel_rfl)
  v75 := by first | exact Tryd.zeroValue53 | kernel_rfl | (intro w; kernel_rfl)
  t164 := by first | exact Tryd.underlying96 | kernel_rfl | (intro w; kernel_rfl)
  a164 := by first | exact Tryd.isAgg96 | kernel_rfl | (intro w; kernel_rfl)
  z164 := by first | exact Tryd.sizeOf96 | kernel_rfl | (intro w; kernel_rfl)
  v164 := by first | exact Tryd.zeroValue96 | kernel_rfl | (intro w; kernel_rfl)
}
theorem Tryd.Builder_Extra_168 : Builder.Extra Tryd.prog Tryd.lays168_ren := {
  sizeBuilder := by kernel_rfl
  liesBuilder := by kernel_rfl
  t5 := Tryd.underlying5
  a5 := Tryd.isAgg5
  z5 := Tryd.sizeOf5
  v5 := Tryd.zeroValue5
  infoByte := by kernel_rfl
  cellsByte := by kernel_rfl
  sizeByte := by kernel_rfl
  neB5 := by decide
}
theorem Tryd.Builder_Extra_166 : Builder.Extra Tryd.prog Tryd.lays166_ren := {
  sizeBuilder := by kernel_rfl
  liesBuilder := by kernel_rfl
  t5 := Tryd.underlying5
  a5 := Tryd.isAgg5
  z5 := Tryd.sizeOf5
  v5 := Tryd.zeroValue5
  infoByte := by kernel_rfl
  cellsByte := by kernel_rfl
  sizeByte := by kernel_rfl
  neB5 := by decide
}
theorem Tryd.Builder_WriteRune_k (B b : Nat) (bs : List Value) (r : Int) (hr0 : -2147483648 ≤ r) (hr1 : r ≤ 2147483647) (w : World) (h : Lib.IsBuilderF 51 5 B b bs w) (hlen : bs.length + 4 ≤ 140737488355328) (hB : B ≤ w.heap.size) :
    Calls Tryd.prog 42 #[.pointer (some ⟨b, 0, none⟩), .int .i32 r] w fun e w' => e = .returned (.tuple #[.int .i64 (Lib.runeCells r).length, .nilIface]) ∧ Lib.BuilderAtF 51 5 B b (.pointer (some ⟨b, 0, none⟩)) (bs ++ Lib.runeCells r) w' ∧ Go.RowKit.Below B w w' ∧ Lib.OthersKept 5 (some b) w w' :=
  Any.Builder_WriteRune_k Tryd.lays168 Tryd.Builder_Extra_168 B b bs r hr0 hr1 w h hlen hB
theorem Tryd.Builder_WriteString_k (B b : Nat) (bs : List Value) (s : ByteArray) (w : World) (h : Lib.IsBuilderF 51 5 B b bs w) (hlen : bs.length + s.size ≤ 140737488355328) (hB : B ≤ w.heap.size) :
    Calls Tryd.prog 40 #[.pointer (some ⟨b, 0, none⟩), .string s] w fun e w' => e = .returned (.tuple #[.int .i64 s.size, .nilIface]) ∧ Lib.BuilderAtF 51 5 B b (.pointer (some ⟨b, 0, none⟩)) (bs ++ Lib.strCells s) w' ∧ Go.RowKit.Below B w w' ∧ Lib.OthersKept 5 (some b) w w' :=
  Any.Builder_WriteString_k Tryd.lays166 Tryd.Builder_Extra_166 B b bs s w h hlen hB
end Go.Proofs
