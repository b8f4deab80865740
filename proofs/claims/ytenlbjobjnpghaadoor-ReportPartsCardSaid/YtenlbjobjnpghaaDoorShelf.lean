/-
  THE SHELF's CONTRACTS AT THIS DUMP, IN PLAIN WORDS (the kit's own tools wrote them): those that the walks of this seat use.
-/
import Derived.Shelf.Strings.Builder1
import Derived.Shelf.Strings.Builder2
import Derived.Shelf.Strings.Trim
import Derived.Shelf.Small.Utf8
import Derived.Shelf.Small.Strs
import Derived.Shelf.Strings.BuilderF
import Derived.Shelf.Strings.BuilderK
import Derived.Shelf.Strconv.Itoa0
import Derived.Shelf.Strconv.Itoa1
import Derived.Shelf.LaysM
import Derived.Shelf.Strconv.Itoa2
import Derived.Shelf.Strconv.Itoa3
import Derived.Shelf.Strings.Search1
import Derived.Shelf.Strings.Prefix
import Derived.Shelf.Bits.Mul64
import Derived.Shelf.Unicode.DecodeSlow
import Derived.Test.YtenlbjobjnpghaaDoorProg
namespace Go.Proofs
open Go.Shelf
def Tryd.lays160_ren : Go.Shelf.Ren := ⟨fun | 160 => 69 | 232 => 73 | 231 => 72 | 227 => 74 | 234 => 76 | 233 => 75 | 236 => 78 | 235 => 77 | 228 => 83 | 271 => 86 | 151 => 85 | 197 => 84 | 120 => 94 | 152 => 93 | 260 => 92 | 137 => 97 | 119 => 98 | 224 => 99 | 225 => 100 | 217 => 101 | 266 => 102 | n => n, fun | 9 => 9 | 4 => 4 | 3 => 3 | 5 => 5 | 117 => 113 | 116 => 112 | 0 => 0 | 124 => 116 | 21 => 21 | 105 => 123 | 46 => 90 | 119 => 133 | 139 => 136 | 138 => 135 | n => n, fun | 3 => 2 | 4 => 3 | n => n⟩
theorem Tryd.lays160 : Go.Proofs.Lays.n160 Tryd.prog Tryd.lays160_ren := {
  mixed := by kernel_rfl
  f119 := Tryd.func98.trans (congrArg some (by kernel_rfl))
  f120 := Tryd.func94.trans (congrArg some (by kernel_rfl))
  f137 := Tryd.func97.trans (congrArg some (by kernel_rfl))
  f151 := Tryd.func85.trans (congrArg some (by kernel_rfl))
  f152 := Tryd.func93.trans (congrArg some (by kernel_rfl))
  f160 := Tryd.func69.trans (congrArg some (by kernel_rfl))
  f197 := Tryd.func84.trans (congrArg some (by kernel_rfl))
  f217 := Tryd.func101.trans (congrArg some (by kernel_rfl))
  f224 := Tryd.func99.trans (congrArg some (by kernel_rfl))
  f225 := Tryd.func100.trans (congrArg some (by kernel_rfl))
  f227 := Tryd.func74.trans (congrArg some (by kernel_rfl))
  f228 := Tryd.func83.trans (congrArg some (by kernel_rfl))
  f231 := Tryd.func72.trans (congrArg some (by kernel_rfl))
  f232 := Tryd.func73.trans (congrArg some (by kernel_rfl))
  f233 := Tryd.func75.trans (congrArg some (by kernel_rfl))
  f234 := Tryd.func76.trans (congrArg some (by kernel_rfl))
  f235 := Tryd.func77.trans (congrArg some (by kernel_rfl))
  f236 := Tryd.func78.trans (congrArg some (by kernel_rfl))
  f260 := Tryd.func92.trans (congrArg some (by kernel_rfl))
  f266 := Tryd.func102.trans (congrArg some (by kernel_rfl))
  f271 := Tryd.func86.trans (congrArg some (by kernel_rfl))
  t0 := Tryd.underlying0
  a0 := Tryd.isAgg0
  z0 := Tryd.sizeOf0
  v0 := Tryd.zeroValue0
  t3 := Tryd.underlying3
  a3 := Tryd.isAgg3
  z3 := Tryd.sizeOf3
  v3 := Tryd.zeroValue3
  t4 := Tryd.underlying4
  a4 := Tryd.isAgg4
  z4 := Tryd.sizeOf4
  v4 := Tryd.zeroValue4
  t5 := Tryd.underlying5
  a5 := Tryd.isAgg5
  z5 := Tryd.sizeOf5
  v5 := Tryd.zeroValue5
  t9 := Tryd.underlying9
  a9 := Tryd.isAgg9
  z9 := Tryd.sizeOf9
  v9 := Tryd.zeroValue9
  t21 := Tryd.underlying21
  a21 := Tryd.isAgg21
  z21 := Tryd.sizeOf21
  v21 := Tryd.zeroValue21
  t46 := Tryd.underlying90
  a46 := Tryd.isAgg90
  z46 := Tryd.sizeOf90
  v46 := Tryd.zeroValue90
  t105 := Tryd.underlying123
  a105 := Tryd.isAgg123
  z105 := Tryd.sizeOf123
  v105 := Tryd.zeroValue123
  t116 := Tryd.underlying112
  a116 := Tryd.isAgg112
  z116 := Tryd.sizeOf112
  t117 := Tryd.underlying113
  a117 := Tryd.isAgg113
  z117 := Tryd.sizeOf113
  v117 := Tryd.zeroValue113
  t119 := Tryd.underlying133
  a119 := Tryd.isAgg133
  z119 := Tryd.sizeOf133
  t124 := Tryd.underlying116
  a124 := Tryd.isAgg116
  z124 := Tryd.sizeOf116
  v124 := Tryd.zeroValue116
  t138 := Tryd.underlying135
  a138 := Tryd.isAgg135
  z138 := Tryd.sizeOf135
  v138 := Tryd.zeroValue135
  t139 := Tryd.underlying136
  a139 := Tryd.isAgg136
  z139 := Tryd.sizeOf136
  v139 := Tryd.zeroValue136
  g3 := by kernel_rfl
  g4 := by kernel_rfl }
open Go.RowKit in
/-- strings.Trim: "Trim returns a slice of the string s with all leading and trailing Unicode code points contained in cutset removed.": AT A cutset OF ONE ASCII BYTE. THE WORLD BEHIND IT: as it was, or (where s is not empty) with ONE DRAW MORE off the tape: the statement 'return trimLeftByte(trimRightByte(s, c), c)' draws its order of evaluation. (LAID: no walk: one application.) -/
theorem Tryd.strings_Trim_one (s : ByteArray) (c : UInt8) (hc : c.toNat < 128) (w : World) (hs : s.size ≤ 9223372036854775807) :
    Calls Tryd.prog 69 #[.string s, .string ⟨#[c]⟩] w fun e w' => e = .returned (.string ⟨(Lib.trimB s.data.toList c).toArray⟩) ∧ (w' = w ∨ w' = w.drew) := Any.strings_Trim_one Tryd.lays160 s c hc w hs
def Tryd.laysM171_ren : Go.Shelf.Ren := ⟨fun | 171 => 58 | 243 => 68 | 246 => 71 | 283 => 79 | 284 => 80 | 285 => 81 | 286 => 82 | 129 => 88 | 317 => 87 | 318 => 89 | 319 => 90 | 320 => 91 | 337 => 95 | 338 => 96 | n => n, fun | 3 => 3 | 9 => 9 | 2 => 2 | 4 => 4 | 171 => 117 | 0 => 0 | 53 => 104 | 37 => 72 | 5 => 5 | 173 => 120 | 212 => 128 | 51 => 101 | 20 => 20 | 213 => 129 | 46 => 90 | 232 => 140 | 233 => 141 | n => n, fun | 17 => 1 | 18 => 4 | 19 => 5 | n => n⟩
theorem Tryd.laysM171 : Go.Proofs.LaysM.n171 Tryd.prog Tryd.laysM171_ren := {
  mixed := by kernel_rfl
  f129 := Tryd.func88.trans (congrArg some (by kernel_rfl))
  f171 := Tryd.func58.trans (congrArg some (by kernel_rfl))
  f243 := Tryd.func68.trans (congrArg some (by kernel_rfl))
  f246 := Tryd.func71.trans (congrArg some (by kernel_rfl))
  f283 := Tryd.func79.trans (congrArg some (by kernel_rfl))
  f284 := Tryd.func80.trans (congrArg some (by kernel_rfl))
  f285 := Tryd.func81.trans (congrArg some (by kernel_rfl))
  f286 := Tryd.func82.trans (congrArg some (by kernel_rfl))
  f317 := Tryd.func87.trans (congrArg some (by kernel_rfl))
  f318 := Tryd.func89.trans (congrArg some (by kernel_rfl))
  f319 := Tryd.func90.trans (congrArg some (by kernel_rfl))
  f320 := Tryd.func91.trans (congrArg some (by kernel_rfl))
  f337 := Tryd.func95.trans (congrArg some (by kernel_rfl))
  f338 := Tryd.func96.trans (congrArg some (by kernel_rfl))
  t0 := Tryd.underlying0
  a0 := Tryd.isAgg0
  z0 := Tryd.sizeOf0
  v0 := Tryd.zeroValue0
  t2 := Tryd.underlying2
  a2 := Tryd.isAgg2
  z2 := Tryd.sizeOf2
  v2 := Tryd.zeroValue2
  t3 := Tryd.underlying3
  a3 := Tryd.isAgg3
  z3 := Tryd.sizeOf3
  v3 := Tryd.zeroValue3
  t4 := Tryd.underlying4
  a4 := Tryd.isAgg4
  z4 := Tryd.sizeOf4
  v4 := Tryd.zeroValue4
  t5 := Tryd.underlying5
  a5 := Tryd.isAgg5
  z5 := Tryd.sizeOf5
  v5 := Tryd.zeroValue5
  t9 := Tryd.underlying9
  a9 := Tryd.isAgg9
  z9 := Tryd.sizeOf9
  v9 := Tryd.zeroValue9
  t20 := Tryd.underlying20
  a20 := Tryd.isAgg20
  z20 := Tryd.sizeOf20
  v20 := Tryd.zeroValue20
  t37 := Tryd.underlying72
  a37 := Tryd.isAgg72
  z37 := Tryd.sizeOf72
  v37 := Tryd.zeroValue72
  t46 := Tryd.underlying90
  a46 := Tryd.isAgg90
  z46 := Tryd.sizeOf90
  v46 := Tryd.zeroValue90
  t51 := Tryd.underlying101
  a51 := Tryd.isAgg101
  z51 := Tryd.sizeOf101
  v51 := Tryd.zeroValue101
  t53 := Tryd.underlying104
  a53 := Tryd.isAgg104
  z53 := Tryd.sizeOf104
  v53 := Tryd.zeroValue104
  t171 := Tryd.underlying117
  a171 := Tryd.isAgg117
  z171 := Tryd.sizeOf117
  v171 := Tryd.zeroValue117
  t173 := Tryd.underlying120
  a173 := Tryd.isAgg120
  z173 := Tryd.sizeOf120
  v173 := Tryd.zeroValue120
  t212 := Tryd.underlying128
  a212 := Tryd.isAgg128
  z212 := Tryd.sizeOf128
  v212 := Tryd.zeroValue128
  t213 := Tryd.underlying129
  a213 := Tryd.isAgg129
  z213 := Tryd.sizeOf129
  t232 := Tryd.underlying140
  a232 := Tryd.isAgg140
  z232 := Tryd.sizeOf140
  v232 := Tryd.zeroValue140
  t233 := Tryd.underlying141
  a233 := Tryd.isAgg141
  z233 := Tryd.sizeOf141
  v233 := Tryd.zeroValue141
  g17 := by kernel_rfl
  g18 := by kernel_rfl
  g19 := by kernel_rfl
  i0 := by kernel_rfl
  i2 := by kernel_rfl
  i3 := by kernel_rfl
  i4 := by kernel_rfl
  i5 := by kernel_rfl
  i9 := by kernel_rfl
  i20 := by kernel_rfl
  i37 := by kernel_rfl
  i46 := by kernel_rfl
  i51 := by kernel_rfl
  i53 := by kernel_rfl
  i171 := by kernel_rfl
  i173 := by kernel_rfl
  i212 := by kernel_rfl
  i232 := by kernel_rfl
  i233 := by kernel_rfl
  m17 := by kernel_rfl
  m18 := by kernel_rfl
  m19 := by kernel_rfl }
open Go.RowKit Go.Sort Go.Lib in
/-- strconv.Itoa: "Itoa is equivalent to FormatInt(int64(i), 10).": i's DECIMAL NUMERAL ('Lib.itoa': a '-' where i is negative, then the digits), FOR EVERY int. The world behind the call: the world before it, new blocks behind the heap (the library's 'var a [24]byte'), draws. (LAID: no walk: one application.) -/
theorem Tryd.strconv_Itoa (n : Int) (h0 : -9223372036854775808 ≤ n) (h1 : n ≤ 9223372036854775807) (w : World) (htab : Lib.TabIs Tryd.prog w "internal/strconv.uint64pow10" .u64 Lib.pow10Tab) :
    Calls Tryd.prog 58 #[.int .i64 n] w fun e w' => e = .returned (.string ⟨(Lib.itoa n).toArray⟩) ∧ ∃ k os, w' = grow (w.drewN k) os := Any.strconv_Itoa Tryd.laysM171 n h0 h1 w htab
end Go.Proofs
