/-
  THE SHELF's CONTRACTS AT THIS DUMP, IN PLAIN WORDS (the kit's own tools wrote them): those that the walks of this seat use.
-/
import Derived.Test.YtfnlddloalineaaGreatDoorShelf
import Derived.Shelf.Strings.Builder1
import Derived.Shelf.Strings.Builder2
import Derived.Shelf.Strings.OnBuilder
import Derived.Shelf.Strings.Trim
import Derived.Shelf.Small.Utf8
import Derived.Shelf.Small.Bits
import Derived.Shelf.Small.Strs
import Derived.Shelf.Small.Wraps
import Derived.Shelf.Strings.BuilderF
import Derived.Shelf.Strings.BuilderK
import Derived.Shelf.Utf8.RuneCount
import Derived.Shelf.Strings.Builder2Cap
import Derived.Shelf.Strconv.Atoi
import Derived.Shelf.Strconv.Itoa0
import Derived.Shelf.Strconv.Itoa1
import Derived.Shelf.LaysM
import Derived.Shelf.Strconv.Itoa2
import Derived.Shelf.Strconv.Itoa3
import Derived.Shelf.Strconv.AtoiErrFast
import Derived.Shelf.Strconv.ParseIntEmpty
import Derived.Shelf.Strconv.AtoiFail
import Derived.Shelf.Strconv.Clone
import Derived.Shelf.Strconv.SyntaxError
import Derived.Shelf.LaysC
import Derived.Shelf.Strconv.ToError
import Derived.Shelf.Strconv.AtoiErr
import Derived.Shelf.Strconv.ErrVar
import Derived.Shelf.Strconv.Lower
import Derived.Shelf.Strconv.ParseUint10
import Derived.Shelf.Strconv.ParseUint10Empty
import Derived.Shelf.Strconv.ParseUint10Any
import Derived.Shelf.Strconv.ParseInt10
import Derived.Shelf.Strconv.AtoiLong
import Derived.Shelf.Strconv.AtoiInnerAll
import Derived.Shelf.Strconv.RangeError
import Derived.Shelf.Strconv.ToErrorRange
import Derived.Shelf.Strconv.AtoiAll
import Derived.Shelf.Strconv.ErrVarAll
import Derived.Shelf.Strconv.ParseUintEmpty
import Derived.Shelf.Strconv.ParseUint10b64
import Derived.Shelf.Strconv.ParseUint10b32
import Derived.Shelf.Strconv.ParseUint10b16
import Derived.Shelf.Strconv.ParseUint10b8
import Derived.Shelf.Strconv.ParseUint10At
import Derived.Shelf.Strconv.ParseInt10At64
import Derived.Shelf.Strconv.ParseInt10At32
import Derived.Shelf.Strconv.ParseInt10At16
import Derived.Shelf.Strconv.ParseInt10At8
import Derived.Shelf.Strconv.ParseInt10All
import Derived.Shelf.Strings.Search1
import Derived.Shelf.Strings.Search2
import Derived.Shelf.Strings.Search3
import Derived.Shelf.Strings.Count
import Derived.Shelf.Strings.Shaped
import Derived.Shelf.Strings.Prefix
import Derived.Shelf.Strings.Split
import Derived.Shelf.Strings.SplitShaped
import Derived.Shelf.Unicode.Decode
import Derived.Shelf.Strings.Runes
import Derived.Shelf.Strings.RuneCount
import Derived.Shelf.Strings.AsciiSet
import Derived.Shelf.Strings.Explode
import Derived.Shelf.Unicode.DecodeSlow
import Derived.Shelf.Unicode.DecodeAny
import Derived.Shelf.Unicode.DecodeLast
import Derived.Shelf.Strings.BuilderCap
import Derived.Shelf.Slices.Turned
import Derived.Ground.Names2Prog
import Derived.Shelf.Slices.Clone
import Derived.Shelf.Slices.SearchI
import Derived.Ground.SlgnProg
import Derived.Shelf.SlicesE.Clone
import Derived.Ground.SlsfProg
import Derived.Shelf.SlSortCmp.InsertionK
import Derived.Shelf.SlSortCmp.SiftDownK
import Derived.Shelf.SlSortCmp.HeapSortK
import Derived.Shelf.SlSortCmp.MedianK
import Derived.Shelf.SlSortCmp.PivotK
import Derived.Shelf.SlSortCmp.ReverseRangeK
import Derived.Shelf.SlSortCmp.PartialInsertionK
import Derived.Shelf.SlSortCmp.PartitionEqualK
import Derived.Shelf.SlSortCmp.PartitionK
import Derived.Shelf.SlSortCmp.PdqK
import Derived.Shelf.SlSortCmp.WholeK
import Derived.Shelf.SlSortCmp.NoneTotal
import Derived.Test.YtfnlddloalineaaGreatDoorProg
namespace Go.Proofs
open Go.Shelf
def Tryz.laysSlF06_f92_ren : Go.Shelf.Ren := ⟨fun | 6 => 92 | 15 => 121 | 14 => 120 | 28 => 146 | 29 => 147 | 20 => 138 | 21 => 139 | 22 => 140 | 23 => 141 | 24 => 142 | 25 => 143 | 26 => 144 | 27 => 145 | 46 => 163 | 47 => 164 | 48 => 165 | 49 => 166 | 50 => 167 | 57 => 187 | n => n, fun | 22 => 119 | 24 => 117 | 25 => 125 | 3 => 3 | 39 => 174 | 0 => 0 | 53 => 192 | 55 => 194 | 4 => 4 | 46 => 186 | 45 => 185 | 50 => 73 | 5 => 5 | 9 => 9 | 66 => 205 | 70 => 209 | 76 => 222 | 77 => 223 | n => n, fun | n => n⟩
theorem Tryz.laysSlF06_f92 : Go.Proofs.SlLaysF0.n6 Tryz.prog Tryz.laysSlF06_f92_ren := {
  mixed := by kernel_rfl
  f6 := ⟨Tryz.f92.name, by decide, Tryz.func92.trans (congrArg some (by kernel_rfl))⟩
  f14 := ⟨Tryz.f120.name, by decide, Tryz.func120.trans (congrArg some (by kernel_rfl))⟩
  f15 := Tryz.func121.trans (congrArg some (by kernel_rfl))
  f20 := ⟨Tryz.f138.name, by decide, Tryz.func138.trans (congrArg some (by kernel_rfl))⟩
  f21 := ⟨Tryz.f139.name, by decide, Tryz.func139.trans (congrArg some (by kernel_rfl))⟩
  f22 := ⟨Tryz.f140.name, by decide, Tryz.func140.trans (congrArg some (by kernel_rfl))⟩
  f23 := ⟨Tryz.f141.name, by decide, Tryz.func141.trans (congrArg some (by kernel_rfl))⟩
  f24 := ⟨Tryz.f142.name, by decide, Tryz.func142.trans (congrArg some (by kernel_rfl))⟩
  f25 := ⟨Tryz.f143.name, by decide, Tryz.func143.trans (congrArg some (by kernel_rfl))⟩
  f26 := ⟨Tryz.f144.name, by decide, Tryz.func144.trans (congrArg some (by kernel_rfl))⟩
  f27 := ⟨Tryz.f145.name, by decide, Tryz.func145.trans (congrArg some (by kernel_rfl))⟩
  f28 := Tryz.func146.trans (congrArg some (by kernel_rfl))
  f29 := Tryz.func147.trans (congrArg some (by kernel_rfl))
  f46 := ⟨Tryz.f163.name, by decide, Tryz.func163.trans (congrArg some (by kernel_rfl))⟩
  f47 := Tryz.func164.trans (congrArg some (by kernel_rfl))
  f48 := Tryz.func165.trans (congrArg some (by kernel_rfl))
  f49 := ⟨Tryz.f166.name, by decide, Tryz.func166.trans (congrArg some (by kernel_rfl))⟩
  f50 := ⟨Tryz.f167.name, by decide, Tryz.func167.trans (congrArg some (by kernel_rfl))⟩
  f57 := ⟨Tryz.f187.name, by decide, Tryz.func187.trans (congrArg some (by kernel_rfl))⟩
  t0 := Tryz.underlying0
  a0 := Tryz.isAgg0
  z0 := Tryz.sizeOf0
  v0 := Tryz.zeroValue0
  t3 := Tryz.underlying3
  a3 := Tryz.isAgg3
  z3 := Tryz.sizeOf3
  v3 := Tryz.zeroValue3
  t4 := Tryz.underlying4
  a4 := Tryz.isAgg4
  z4 := Tryz.sizeOf4
  v4 := Tryz.zeroValue4
  t5 := Tryz.underlying5
  a5 := Tryz.isAgg5
  z5 := Tryz.sizeOf5
  v5 := Tryz.zeroValue5
  t9 := Tryz.underlying9
  a9 := Tryz.isAgg9
  z9 := Tryz.sizeOf9
  v9 := Tryz.zeroValue9
  t22 := Tryz.underlying119
  a22 := Tryz.isAgg119
  z22 := Tryz.sizeOf119
  v22 := Tryz.zeroValue119
  t25 := Tryz.underlying125
  a25 := Tryz.isAgg125
  z25 := Tryz.sizeOf125
  v25 := Tryz.zeroValue125
  t39 := Tryz.underlying174
  a39 := Tryz.isAgg174
  z39 := Tryz.sizeOf174
  v39 := Tryz.zeroValue174
  t45 := Tryz.underlying185
  a45 := Tryz.isAgg185
  z45 := Tryz.sizeOf185
  v45 := Tryz.zeroValue185
  t46 := Tryz.underlying186
  a46 := Tryz.isAgg186
  z46 := Tryz.sizeOf186
  v46 := Tryz.zeroValue186
  t50 := Tryz.underlying73
  a50 := Tryz.isAgg73
  z50 := Tryz.sizeOf73
  v50 := Tryz.zeroValue73
  t53 := Tryz.underlying192
  a53 := Tryz.isAgg192
  z53 := Tryz.sizeOf192
  v53 := Tryz.zeroValue192
  t55 := Tryz.underlying194
  a55 := Tryz.isAgg194
  z55 := Tryz.sizeOf194
  v55 := Tryz.zeroValue194
  t66 := Tryz.underlying205
  a66 := Tryz.isAgg205
  z66 := Tryz.sizeOf205
  v66 := Tryz.zeroValue205
  t70 := Tryz.underlying209
  a70 := Tryz.isAgg209
  z70 := Tryz.sizeOf209
  v70 := Tryz.zeroValue209
  t76 := Tryz.underlying222
  a76 := Tryz.isAgg222
  z76 := Tryz.sizeOf222
  v76 := Tryz.zeroValue222
  t77 := Tryz.underlying223
  a77 := Tryz.isAgg223
  z77 := Tryz.sizeOf223
  v77 := Tryz.zeroValue223 }
open Go.RowKit Go.Lib Go.Sort in
/-- **slices.SortFunc AT NO ELEMENT, A nil SLICE TOO: nothing turns.** (LAID AT THE INSTANCE 'slices.SortFunc[[][5]int,[5]int]': no walk: one application.) -/
theorem Tryz.slices_SortFunc_none {α : Type} [Inhabited α] (p : Option Addr) (cap : Nat) (fv : Value) (w : World) :
    Calls Tryz.prog 92 #[.slice p 0 cap, fv] w fun e w' => e = .returned (.tuple #[]) ∧ w' = w := AnyF.slices_SortFunc_none Tryz.laysSlF06_f92 p cap fv w
open Go.RowKit Go.Lib Go.Sort in
/-- .. at structs. (LAID AT THE INSTANCE 'slices.SortFunc[[][5]int,[5]int]': no walk: one application.) -/
theorem Tryz.slices_SortFunc_total {α : Type} [Inhabited α] (k : Nat) (aE : ∀ w, (isAgg 117).run Tryz.prog w = .ok true w) (zE : ∀ w, (Go.sizeOf 117).run Tryz.prog w = .ok k w) (enc : α → List Value) (hk : ∀ x, (enc x).length = k) (h1 : ∀ x, ∀ v ∈ enc x, v.oneCell' = true) (cf : α → α → Int) (hO : SWO (ltOf cf)) (g : Nat) (cb : Array Value) (blk off cap : Nat) (d : Array α) (w : World) (eg : ∀ args w, (callFunc g args).run Tryz.prog w = .ok (.enter g args) w) (hcmp : CmpLays Tryz.prog g cb enc k cf blk off d.size w) (hH : HoldsK enc k w blk off d) (hblk : blk < w.heap.size) (hsz : d.size < 4611686018427387904) (hT : ∀ x y, (ltOf cf) x y = false → (ltOf cf) y x = false → x = y) :
    Calls Tryz.prog 92 #[.slice (some ⟨blk, off, none⟩) d.size cap, .func (.func g) #[] cb] w fun e w' =>
      e = .returned (.tuple #[]) ∧ ∃ n os, w' = sortWorldK enc k w blk off n (d.toList.mergeSort fun x y => !(ltOf cf) y x).toArray os := AnyQ.slices_SortFunc_total Tryz.laysSlF06_f92 k aE zE enc hk h1 cf hO g cb blk off cap d w eg hcmp hH hblk hsz hT

end Go.Proofs
