/-
  strings.Builder: the shelf's contracts at this dump, in plain words.
-/
import Derived.Shelf.Strings.Builder1
import Derived.Shelf.Strings.BuilderK
import Derived.Test.YtcmmppkmkejniaaGreatDoorProg
import Derived.Below
namespace Go.Proofs.YtcmmppkmkejniaaGreatDoor
open Go.Shelf Go.RowKit
def bldRen : Go.Shelf.Ren := ⟨fun | 166 => 30 | 240 => 59 | 276 => 79 | 169 => 32 | n => n, fun | 0 => 0 | 3 => 3 | 4 => 4 | 5 => 5 | 9 => 9 | 20 => 20 | 37 => 77 | 70 => 76 | 72 => 79 | 75 => 81 | 80 => 85 | 164 => 129 | 127 => 113 | n => n, fun | n => n⟩
theorem bldLays166 : Go.Proofs.Lays.n166 Tryz.prog bldRen := {
  mixed := by kernel_rfl
  f166 := Tryz.func30.trans (congrArg some (by kernel_rfl))
  f240 := Tryz.func59.trans (congrArg some (by kernel_rfl))
  f276 := Tryz.func79.trans (congrArg some (by kernel_rfl))
  t0 := Tryz.underlying0
  a0 := Tryz.isAgg0
  z0 := Tryz.sizeOf0
  v0 := Tryz.zeroValue0
  t3 := Tryz.underlying3
  a3 := Tryz.isAgg3
  z3 := Tryz.sizeOf3
  v3 := Tryz.zeroValue3
  t4 := Tryz.underlying4
  a4 := Tryz.isAgg4
  z4 := Tryz.sizeOf4
  v4 := Tryz.zeroValue4
  t9 := Tryz.underlying9
  a9 := Tryz.isAgg9
  z9 := Tryz.sizeOf9
  v9 := Tryz.zeroValue9
  t20 := Tryz.underlying20
  a20 := Tryz.isAgg20
  z20 := Tryz.sizeOf20
  v20 := Tryz.zeroValue20
  t37 := Tryz.underlying77
  a37 := Tryz.isAgg77
  z37 := Tryz.sizeOf77
  v37 := Tryz.zeroValue77
  t70 := Tryz.underlying76
  a70 := Tryz.isAgg76
  z70 := Tryz.sizeOf76
  v70 := Tryz.zeroValue76
  t72 := Tryz.underlying79
  a72 := Tryz.isAgg79
  z72 := Tryz.sizeOf79
  v72 := Tryz.zeroValue79
  t75 := Tryz.underlying81
  a75 := Tryz.isAgg81
  z75 := Tryz.sizeOf81
  v75 := Tryz.zeroValue81
  t164 := Tryz.underlying129
  a164 := Tryz.isAgg129
  z164 := Tryz.sizeOf129
  v164 := Tryz.zeroValue129 }
theorem bldLays169 : Go.Proofs.Lays.n169 Tryz.prog bldRen := {
  mixed := by kernel_rfl
  f169 := Tryz.func32.trans (congrArg some (by kernel_rfl))
  t0 := Tryz.underlying0
  a0 := Tryz.isAgg0
  z0 := Tryz.sizeOf0
  v0 := Tryz.zeroValue0
  t3 := Tryz.underlying3
  a3 := Tryz.isAgg3
  z3 := Tryz.sizeOf3
  v3 := Tryz.zeroValue3
  t9 := Tryz.underlying9
  a9 := Tryz.isAgg9
  z9 := Tryz.sizeOf9
  v9 := Tryz.zeroValue9
  t37 := Tryz.underlying77
  a37 := Tryz.isAgg77
  z37 := Tryz.sizeOf77
  v37 := Tryz.zeroValue77
  t70 := Tryz.underlying76
  a70 := Tryz.isAgg76
  z70 := Tryz.sizeOf76
  v70 := Tryz.zeroValue76
  t72 := Tryz.underlying79
  a72 := Tryz.isAgg79
  z72 := Tryz.sizeOf79
  v72 := Tryz.zeroValue79
  t127 := Tryz.underlying113
  a127 := Tryz.isAgg113
  z127 := Tryz.sizeOf113
  v127 := Tryz.zeroValue113 }
theorem bldExtra : Builder.Extra Tryz.prog bldRen := {
  sizeBuilder := by kernel_rfl
  liesBuilder := by kernel_rfl
  t5 := Tryz.underlying5
  a5 := Tryz.isAgg5
  z5 := Tryz.sizeOf5
  v5 := Tryz.zeroValue5
  infoByte := by kernel_rfl
  cellsByte := by kernel_rfl
  sizeByte := by kernel_rfl
  neB5 := by decide }
theorem bldWrite (B b : Nat) (bs : List Value) (s : ByteArray) (w : World) (h : Lib.IsBuilder 79 5 B b bs w) (hlen : bs.length + s.size ≤ 140737488355328) (hBw : B ≤ w.heap.size) :
    Calls Tryz.prog 30 #[.pointer (some ⟨b, 0, none⟩), .string s] w fun e w' => e = .returned (.tuple #[.int .i64 s.size, .nilIface]) ∧ (Lib.BuilderAt 79 5 B b (.pointer (some ⟨b, 0, none⟩)) (bs ++ Lib.strCells s) w' ∧ Below B w w') := Any.Builder_WriteString bldLays166 bldExtra B b bs s w h hlen hBw
end Go.Proofs.YtcmmppkmkejniaaGreatDoor
