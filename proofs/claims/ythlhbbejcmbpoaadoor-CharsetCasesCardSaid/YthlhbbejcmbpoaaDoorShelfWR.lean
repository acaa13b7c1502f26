/-
  The contracts of strings.Builder's WriteRune at this program: the shelf's theorem, its types named by hand (the shelf's own tool does not name the empty interface here).
-/
import Derived.Test.YthlhbbejcmbpoaaDoorShelf
import Derived.Shelf.Strings.BuilderRune
import Derived.Shelf.Strings.BuilderK
namespace Go.Proofs
open Go.Shelf
def Tryd.laysWR_ren : Go.Shelf.Ren := ⟨fun | 168 => 43 | 240 => 49 | 242 => 50 | 276 => 51 | 278 => 52 | n => n,
  fun | 0 => 0 | 3 => 3 | 4 => 4 | 5 => 5 | 9 => 9 | 20 => 20 | 21 => 21 | 37 => 55 | 46 => 72 | 51 => 78 | 70 => 58 | 72 => 60 | 75 => 62 | 164 => 76 | 80 => 65 | n => n, fun | n => n⟩
theorem Tryd.laysWR : Go.Proofs.Lays.n168 Tryd.prog Tryd.laysWR_ren := {
  mixed := by kernel_rfl
  f168 := Tryd.func43.trans (congrArg some (by kernel_rfl))
  f240 := Tryd.func49.trans (congrArg some (by kernel_rfl))
  f242 := Tryd.func50.trans (congrArg some (by kernel_rfl))
  f276 := Tryd.func51.trans (congrArg some (by kernel_rfl))
  f278 := Tryd.func52.trans (congrArg some (by kernel_rfl))
  t0 := Tryd.underlying0
  a0 := Tryd.isAgg0
  z0 := Tryd.sizeOf0
  v0 := Tryd.zeroValue0
  t3 := Tryd.underlying3
  a3 := Tryd.isAgg3
  z3 := Tryd.sizeOf3
  v3 := Tryd.zeroValue3
  t4 := Tryd.underlying4
  a4 := Tryd.isAgg4
  z4 := Tryd.sizeOf4
  v4 := Tryd.zeroValue4
  t5 := Tryd.underlying5
  a5 := Tryd.isAgg5
  z5 := Tryd.sizeOf5
  v5 := Tryd.zeroValue5
  t9 := Tryd.underlying9
  a9 := Tryd.isAgg9
  z9 := Tryd.sizeOf9
  v9 := Tryd.zeroValue9
  t20 := Tryd.underlying20
  a20 := Tryd.isAgg20
  z20 := Tryd.sizeOf20
  v20 := Tryd.zeroValue20
  t21 := Tryd.underlying21
  a21 := Tryd.isAgg21
  z21 := Tryd.sizeOf21
  v21 := Tryd.zeroValue21
  t37 := Tryd.underlying55
  a37 := Tryd.isAgg55
  z37 := Tryd.sizeOf55
  v37 := Tryd.zeroValue55
  t46 := Tryd.underlying72
  a46 := Tryd.isAgg72
  z46 := Tryd.sizeOf72
  v46 := Tryd.zeroValue72
  t51 := Tryd.underlying78
  a51 := Tryd.isAgg78
  z51 := Tryd.sizeOf78
  v51 := Tryd.zeroValue78
  t70 := Tryd.underlying58
  a70 := Tryd.isAgg58
  z70 := Tryd.sizeOf58
  v70 := Tryd.zeroValue58
  t72 := Tryd.underlying60
  a72 := Tryd.isAgg60
  z72 := Tryd.sizeOf60
  v72 := Tryd.zeroValue60
  t75 := Tryd.underlying62
  a75 := Tryd.isAgg62
  z75 := Tryd.sizeOf62
  v75 := Tryd.zeroValue62
  t164 := Tryd.underlying76
  a164 := Tryd.isAgg76
  z164 := Tryd.sizeOf76
  v164 := Tryd.zeroValue76 }
theorem Tryd.Builder_Extra_WR : Builder.Extra Tryd.prog Tryd.laysWR_ren := {
  sizeBuilder := by kernel_rfl
  liesBuilder := by kernel_rfl
  t5 := Tryd.underlying5
  a5 := Tryd.isAgg5
  z5 := Tryd.sizeOf5
  v5 := Tryd.zeroValue5
  infoByte := by kernel_rfl
  cellsByte := by kernel_rfl
  sizeByte := by kernel_rfl
  neB5 := by decide }
open Go.RowKit in
theorem Tryd.Builder_WriteRune_k (B b : Nat) (bs : List Value) (r : Int) (hr0 : -2147483648 ≤ r) (hr1 : r ≤ 2147483647) (w : World) (h : Lib.IsBuilderF 60 5 B b bs w) (hlen : bs.length + 4 ≤ 140737488355328) (hBw : B ≤ w.heap.size) :
    Calls Tryd.prog 43 #[.pointer (some ⟨b, 0, none⟩), .int .i32 r] w fun e w' => e = .returned (.tuple #[.int .i64 (Lib.runeCells r).length, .nilIface]) ∧ (Lib.BuilderAtF 60 5 B b (.pointer (some ⟨b, 0, none⟩)) (bs ++ Lib.runeCells r) w' ∧ Below B w w' ∧ Lib.OthersKept 5 (some b) w w') :=
  Any.Builder_WriteRune_k Tryd.laysWR Tryd.Builder_Extra_WR B b bs r hr0 hr1 w h hlen hBw
end Go.Proofs
