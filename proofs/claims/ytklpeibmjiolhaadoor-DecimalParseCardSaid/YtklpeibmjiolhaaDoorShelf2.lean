/-
  THE SHELF's CONTRACTS AT THIS DUMP, IN PLAIN WORDS (the kit's own tools wrote them): those that the walks of this seat use.
-/
import Derived.Test.YtklpeibmjiolhaaDoorShelf
import Derived.Shelf.Strings.SlTrimAscii
import Derived.Shelf.Strings.Builder1
import Derived.Shelf.Strings.Builder2
import Derived.Shelf.Strings.Trim
import Derived.Shelf.Small.Utf8
import Derived.Shelf.Small.Strs
import Derived.Shelf.Small.Wraps
import Derived.Shelf.Strings.BuilderF
import Derived.Shelf.Strconv.Itoa0
import Derived.Shelf.Strconv.Itoa1
import Derived.Shelf.LaysM
import Derived.Shelf.Strconv.Itoa2
import Derived.Shelf.Strconv.Itoa3
import Derived.Shelf.Strings.Search1
import Derived.Shelf.Strings.Search2
import Derived.Shelf.Strings.Cut
import Derived.Shelf.Strings.Shaped
import Derived.Shelf.Strings.Prefix
import Derived.Shelf.Strings.Runes
import Derived.Shelf.Strings.AsciiSet
import Derived.Shelf.Bits.Mul64
import Derived.Shelf.Strings.Repeat
import Derived.Shelf.Unicode.DecodeSlow
import Derived.Test.YtklpeibmjiolhaaDoorProg
namespace Go.Proofs
open Go.Shelf
def Tryd.lays105_ren : Go.Shelf.Ren := ⟨fun | 105 => 44 | 212 => 59 | 99 => 60 | 165 => 61 | 166 => 62 | 170 => 63 | 169 => 64 | 263 => 80 | 264 => 81 | 206 => 74 | 240 => 82 | 241 => 83 | 276 => 95 | 277 => 96 | n => n, fun | 9 => 9 | 3 => 3 | 4 => 4 | 20 => 20 | 0 => 0 | 46 => 74 | 109 => 75 | 5 => 5 | 72 => 80 | 76 => 84 | 51 => 95 | 146 => 96 | 53 => 98 | 148 => 99 | 70 => 78 | 37 => 66 | 75 => 83 | 127 => 101 | 164 => 109 | 80 => 87 | n => n, fun | n => n⟩
theorem Tryd.lays105 : Go.Proofs.Lays.n105 Tryd.prog Tryd.lays105_ren := {
  mixed := by kernel_rfl
  f99 := Tryd.func60.trans (congrArg some (by kernel_rfl))
  f105 := Tryd.func44.trans (congrArg some (by kernel_rfl))
  f165 := Tryd.func61.trans (congrArg some (by kernel_rfl))
  f166 := Tryd.func62.trans (congrArg some (by kernel_rfl))
  f169 := Tryd.func64.trans (congrArg some (by kernel_rfl))
  f170 := Tryd.func63.trans (congrArg some (by kernel_rfl))
  f206 := Tryd.func74.trans (congrArg some (by kernel_rfl))
  f212 := Tryd.func59.trans (congrArg some (by kernel_rfl))
  f240 := Tryd.func82.trans (congrArg some (by kernel_rfl))
  f241 := Tryd.func83.trans (congrArg some (by kernel_rfl))
  f263 := Tryd.func80.trans (congrArg some (by kernel_rfl))
  f264 := Tryd.func81.trans (congrArg some (by kernel_rfl))
  f276 := Tryd.func95.trans (congrArg some (by kernel_rfl))
  f277 := Tryd.func96.trans (congrArg some (by kernel_rfl))
  t0 := Tryd.underlying0
  a0 := Tryd.isAgg0
  z0 := Tryd.sizeOf0
  v0 := Tryd.zeroValue0
  t3 := Tryd.underlying3
  a3 := Tryd.isAgg3
  z3 := Tryd.sizeOf3
  v3 := Tryd.zeroValue3
  t4 := Tryd.underlying4
  a4 := Tryd.isAgg4
  z4 := Tryd.sizeOf4
  v4 := Tryd.zeroValue4
  t5 := Tryd.underlying5
  a5 := Tryd.isAgg5
  z5 := Tryd.sizeOf5
  v5 := Tryd.zeroValue5
  t9 := Tryd.underlying9
  a9 := Tryd.isAgg9
  z9 := Tryd.sizeOf9
  v9 := Tryd.zeroValue9
  t20 := Tryd.underlying20
  a20 := Tryd.isAgg20
  z20 := Tryd.sizeOf20
  v20 := Tryd.zeroValue20
  t37 := Tryd.underlying66
  a37 := Tryd.isAgg66
  z37 := Tryd.sizeOf66
  v37 := Tryd.zeroValue66
  t46 := Tryd.underlying74
  a46 := Tryd.isAgg74
  z46 := Tryd.sizeOf74
  v46 := Tryd.zeroValue74
  t51 := Tryd.underlying95
  a51 := Tryd.isAgg95
  z51 := Tryd.sizeOf95
  v51 := Tryd.zeroValue95
  t53 := Tryd.underlying98
  a53 := Tryd.isAgg98
  z53 := Tryd.sizeOf98
  v53 := Tryd.zeroValue98
  t70 := Tryd.underlying78
  a70 := Tryd.isAgg78
  z70 := Tryd.sizeOf78
  v70 := Tryd.zeroValue78
  t72 := Tryd.underlying80
  a72 := Tryd.isAgg80
  z72 := Tryd.sizeOf80
  v72 := Tryd.zeroValue80
  t75 := Tryd.underlying83
  a75 := Tryd.isAgg83
  z75 := Tryd.sizeOf83
  v75 := Tryd.zeroValue83
  t76 := Tryd.underlying84
  a76 := Tryd.isAgg84
  z76 := Tryd.sizeOf84
  v76 := Tryd.zeroValue84
  t109 := Tryd.underlying75
  a109 := Tryd.isAgg75
  z109 := Tryd.sizeOf75
  v109 := Tryd.zeroValue75
  t127 := Tryd.underlying101
  a127 := Tryd.isAgg101
  z127 := Tryd.sizeOf101
  v127 := Tryd.zeroValue101
  t146 := Tryd.underlying96
  a146 := Tryd.isAgg96
  z146 := Tryd.sizeOf96
  v146 := Tryd.zeroValue96
  t148 := Tryd.underlying99
  a148 := Tryd.isAgg99
  z148 := Tryd.sizeOf99
  v148 := Tryd.zeroValue99
  t164 := Tryd.underlying109
  a164 := Tryd.isAgg109
  z164 := Tryd.sizeOf109
  v164 := Tryd.zeroValue109 }
theorem Tryd.Builder_Extra_105 : Builder.Extra Tryd.prog Tryd.lays105_ren := {
  sizeBuilder := by kernel_rfl
  liesBuilder := by kernel_rfl
  t5 := Tryd.underlying5
  a5 := Tryd.isAgg5
  z5 := Tryd.sizeOf5
  v5 := Tryd.zeroValue5
  infoByte := by kernel_rfl
  cellsByte := by kernel_rfl
  sizeByte := by kernel_rfl
  neB5 := by decide }
open Go.RowKit Go.Lib in
/-- **strings.Repeat: count ≥ 0, the result within one allocation: count copies of s.** (LAID: no walk: one application.) -/
theorem Tryd.strings_Repeat (s : ByteArray) (c : Nat) (w : World) (hc : c ≤ 9223372036854775807) (hlen : s.size * c ≤ 140737488355328) :
    Calls Tryd.prog 44 #[.string s, .int .i64 c] w fun e w' => e = .returned (.string ⟨(Lib.repeatL s.data.toList c).toArray⟩) ∧ Below w.heap.size w w' := Any.strings_Repeat Tryd.lays105 Tryd.Builder_Extra_105 s c w hc hlen
def Tryd.l_ren : Go.Shelf.Ren := ⟨fun | 160 => 43 | 232 => 53 | 231 => 52 | 227 => 54 | 234 => 56 | 233 => 55 | 236 => 58 | 235 => 57 | 228 => 76 | 271 => 79 | 151 => 78 | 197 => 77 | 120 => 94 | 152 => 93 | 260 => 92 | 137 => 104 | 119 => 105 | 224 => 90 | 225 => 89 | 217 => 88 | 266 => 102 | n => n, fun | 9 => 9 | 4 => 4 | 3 => 3 | 5 => 5 | 117 => 70 | 116 => 69 | 0 => 0 | 124 => 73 | 21 => 21 | 105 => 92 | 46 => 74 | 119 => 116 | 139 => 119 | 138 => 118 | n => n, fun | 3 => 2 | 4 => 3 | n => n⟩
theorem Tryd.l : Go.Proofs.Lays.n160 Tryd.prog Tryd.l_ren := {
  mixed := by kernel_rfl
  f119 := Tryd.func105.trans (congrArg some (by kernel_rfl))
  f120 := Tryd.func94.trans (congrArg some (by kernel_rfl))
  f137 := Tryd.func104.trans (congrArg some (by kernel_rfl))
  f151 := Tryd.func78.trans (congrArg some (by kernel_rfl))
  f152 := Tryd.func93.trans (congrArg some (by kernel_rfl))
  f160 := Tryd.func43.trans (congrArg some (by kernel_rfl))
  f197 := Tryd.func77.trans (congrArg some (by kernel_rfl))
  f217 := Tryd.func88.trans (congrArg some (by kernel_rfl))
  f224 := Tryd.func90.trans (congrArg some (by kernel_rfl))
  f225 := Tryd.func89.trans (congrArg some (by kernel_rfl))
  f227 := Tryd.func54.trans (congrArg some (by kernel_rfl))
  f228 := Tryd.func76.trans (congrArg some (by kernel_rfl))
  f231 := Tryd.func52.trans (congrArg some (by kernel_rfl))
  f232 := Tryd.func53.trans (congrArg some (by kernel_rfl))
  f233 := Tryd.func55.trans (congrArg some (by kernel_rfl))
  f234 := Tryd.func56.trans (congrArg some (by kernel_rfl))
  f235 := Tryd.func57.trans (congrArg some (by kernel_rfl))
  f236 := Tryd.func58.trans (congrArg some (by kernel_rfl))
  f260 := Tryd.func92.trans (congrArg some (by kernel_rfl))
  f266 := Tryd.func102.trans (congrArg some (by kernel_rfl))
  f271 := Tryd.func79.trans (congrArg some (by kernel_rfl))
  t0 := Tryd.underlying0
  a0 := Tryd.isAgg0
  z0 := Tryd.sizeOf0
  v0 := Tryd.zeroValue0
  t3 := Tryd.underlying3
  a3 := Tryd.isAgg3
  z3 := Tryd.sizeOf3
  v3 := Tryd.zeroValue3
  t4 := Tryd.underlying4
  a4 := Tryd.isAgg4
  z4 := Tryd.sizeOf4
  v4 := Tryd.zeroValue4
  t5 := Tryd.underlying5
  a5 := Tryd.isAgg5
  z5 := Tryd.sizeOf5
  v5 := Tryd.zeroValue5
  t9 := Tryd.underlying9
  a9 := Tryd.isAgg9
  z9 := Tryd.sizeOf9
  v9 := Tryd.zeroValue9
  t21 := Tryd.underlying21
  a21 := Tryd.isAgg21
  z21 := Tryd.sizeOf21
  v21 := Tryd.zeroValue21
  t46 := Tryd.underlying74
  a46 := Tryd.isAgg74
  z46 := Tryd.sizeOf74
  v46 := Tryd.zeroValue74
  t105 := Tryd.underlying92
  a105 := Tryd.isAgg92
  z105 := Tryd.sizeOf92
  v105 := Tryd.zeroValue92
  t116 := Tryd.underlying69
  a116 := Tryd.isAgg69
  z116 := Tryd.sizeOf69
  t117 := Tryd.underlying70
  a117 := Tryd.isAgg70
  z117 := Tryd.sizeOf70
  v117 := Tryd.zeroValue70
  t119 := Tryd.underlying116
  a119 := Tryd.isAgg116
  z119 := Tryd.sizeOf116
  t124 := Tryd.underlying73
  a124 := Tryd.isAgg73
  z124 := Tryd.sizeOf73
  v124 := Tryd.zeroValue73
  t138 := Tryd.underlying118
  a138 := Tryd.isAgg118
  z138 := Tryd.sizeOf118
  v138 := Tryd.zeroValue118
  t139 := Tryd.underlying119
  a139 := Tryd.isAgg119
  z139 := Tryd.sizeOf119
  v139 := Tryd.zeroValue119
  g3 := by kernel_rfl
  g4 := by kernel_rfl }

end Go.Proofs
