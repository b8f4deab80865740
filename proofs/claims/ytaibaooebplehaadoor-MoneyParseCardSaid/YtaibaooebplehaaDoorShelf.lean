/-
  THE SHELF's CONTRACTS AT THIS DUMP, IN PLAIN WORDS (the kit's own tools wrote them): those that the walks of this seat use.
-/
import Derived.Shelf.Small.Wraps
import Derived.Shelf.Strconv.Atoi
import Derived.Shelf.Strconv.Itoa0
import Derived.Shelf.Strconv.Itoa1
import Derived.Shelf.LaysM
import Derived.Shelf.Strconv.Itoa2
import Derived.Shelf.Strconv.Itoa3
import Derived.Shelf.Strconv.AtoiErrFast
import Derived.Shelf.Strconv.ParseIntEmpty
import Derived.Shelf.Strconv.AtoiFail
import Derived.Shelf.Strconv.Clone
import Derived.Shelf.Strconv.SyntaxError
import Derived.Shelf.LaysC
import Derived.Shelf.Strconv.ToError
import Derived.Shelf.Strconv.Lower
import Derived.Shelf.Strconv.ParseUint10
import Derived.Shelf.Strconv.ParseUint10Empty
import Derived.Shelf.Strconv.ParseUint10Any
import Derived.Shelf.Strconv.ParseInt10
import Derived.Shelf.Strconv.AtoiLong
import Derived.Shelf.Strconv.AtoiInnerAll
import Derived.Shelf.Strconv.RangeError
import Derived.Shelf.Strconv.ToErrorRange
import Derived.Shelf.Strconv.AtoiAll
import Derived.Shelf.Strconv.ErrVarAll
import Derived.Shelf.Strings.Search1
import Derived.Shelf.Strings.Search2
import Derived.Shelf.Strings.Cut
import Derived.Shelf.Strings.Shaped
import Derived.Shelf.Strings.Prefix
import Derived.Test.YtaibaooebplehaaDoorProg
namespace Go.Proofs
open Go.Shelf
def Tryd.lays103_ren : Go.Shelf.Ren := ⟨fun | 103 => 34 | 210 => 40 | 206 => 45 | n => n, fun | 9 => 9 | 4 => 4 | 24 => 42 | 3 => 3 | n => n, fun | n => n⟩
theorem Tryd.lays103 : Go.Proofs.Lays.n103 Tryd.prog Tryd.lays103_ren := {
  mixed := by kernel_rfl
  f103 := Tryd.func34.trans (congrArg some (by kernel_rfl))
  f206 := Tryd.func45.trans (congrArg some (by kernel_rfl))
  f210 := Tryd.func40.trans (congrArg some (by kernel_rfl))
  t3 := Tryd.underlying3
  a3 := Tryd.isAgg3
  z3 := Tryd.sizeOf3
  v3 := Tryd.zeroValue3
  t4 := Tryd.underlying4
  a4 := Tryd.isAgg4
  z4 := Tryd.sizeOf4
  v4 := Tryd.zeroValue4
  t9 := Tryd.underlying9
  a9 := Tryd.isAgg9
  z9 := Tryd.sizeOf9
  v9 := Tryd.zeroValue9
  t24 := Tryd.underlying42
  a24 := Tryd.isAgg42
  z24 := Tryd.sizeOf42
  v24 := Tryd.zeroValue42 }
open Go.RowKit in
/-- strings.CutPrefix: "CutPrefix returns s without the provided leading prefix string and reports whether it found the prefix. If s doesn't start with prefix, CutPrefix returns s, false. If prefix is the empty string, CutPrefix returns s, true.": IT RETURNS '(Lib.trimPrefix s p, Lib.hasPrefix s p)'; the world is as it was. (LAID: no walk: one application.) -/
theorem Tryd.strings_CutPrefix (s p : ByteArray) (w : World) :
    Calls Tryd.prog 34 #[.string s, .string p] w fun e w' => e = .returned (.tuple #[.string ⟨(Lib.trimPrefix s.data.toList p.data.toList).toArray⟩, .bool (Lib.hasPrefix s.data.toList p.data.toList)]) ∧ w' = w := Any.strings_CutPrefix Tryd.lays103 s p w
def Tryd.lays172_ren : Go.Shelf.Ren := ⟨fun | 172 => 37 | 244 => 42 | 245 => 43 | 247 => 47 | 279 => 48 | 280 => 49 | 281 => 50 | 282 => 51 | 287 => 60 | 316 => 61 | 171 => 32 | 205 => 62 | 321 => 70 | 322 => 71 | 243 => 39 | 246 => 44 | 283 => 52 | 284 => 53 | 285 => 54 | 286 => 55 | 129 => 64 | 317 => 63 | 318 => 65 | 319 => 66 | 320 => 67 | 337 => 72 | 338 => 73 | n => n, fun | 9 => 9 | 3 => 3 | 75 => 47 | 76 => 48 | 4 => 4 | 5 => 5 | 167 => 55 | 37 => 50 | 0 => 0 | 85 => 56 | 2 => 2 | 168 => 58 | 53 => 62 | 175 => 70 | 46 => 69 | 210 => 74 | 127 => 83 | 145 => 86 | 143 => 84 | 21 => 21 | 171 => 61 | 173 => 65 | 212 => 77 | 51 => 27 | 20 => 20 | 213 => 78 | 232 => 88 | 233 => 89 | 80 => 90 | n => n, fun | 15 => 1 | 16 => 2 | 17 => 3 | 18 => 4 | 19 => 5 | n => n⟩
theorem Tryd.lays172 : Go.Proofs.Lays.n172 Tryd.prog Tryd.lays172_ren := {
  mixed := by kernel_rfl
  f129 := Tryd.func64.trans (congrArg some (by kernel_rfl))
  f171 := Tryd.func32.trans (congrArg some (by kernel_rfl))
  f172 := Tryd.func37.trans (congrArg some (by kernel_rfl))
  f205 := Tryd.func62.trans (congrArg some (by kernel_rfl))
  f243 := Tryd.func39.trans (congrArg some (by kernel_rfl))
  f244 := Tryd.func42.trans (congrArg some (by kernel_rfl))
  f245 := Tryd.func43.trans (congrArg some (by kernel_rfl))
  f246 := Tryd.func44.trans (congrArg some (by kernel_rfl))
  f247 := Tryd.func47.trans (congrArg some (by kernel_rfl))
  f279 := Tryd.func48.trans (congrArg some (by kernel_rfl))
  f280 := Tryd.func49.trans (congrArg some (by kernel_rfl))
  f281 := Tryd.func50.trans (congrArg some (by kernel_rfl))
  f282 := Tryd.func51.trans (congrArg some (by kernel_rfl))
  f283 := Tryd.func52.trans (congrArg some (by kernel_rfl))
  f284 := Tryd.func53.trans (congrArg some (by kernel_rfl))
  f285 := Tryd.func54.trans (congrArg some (by kernel_rfl))
  f286 := Tryd.func55.trans (congrArg some (by kernel_rfl))
  f287 := Tryd.func60.trans (congrArg some (by kernel_rfl))
  f316 := Tryd.func61.trans (congrArg some (by kernel_rfl))
  f317 := Tryd.func63.trans (congrArg some (by kernel_rfl))
  f318 := Tryd.func65.trans (congrArg some (by kernel_rfl))
  f319 := Tryd.func66.trans (congrArg some (by kernel_rfl))
  f320 := Tryd.func67.trans (congrArg some (by kernel_rfl))
  f321 := Tryd.func70.trans (congrArg some (by kernel_rfl))
  f322 := Tryd.func71.trans (congrArg some (by kernel_rfl))
  f337 := Tryd.func72.trans (congrArg some (by kernel_rfl))
  f338 := Tryd.func73.trans (congrArg some (by kernel_rfl))
  t0 := Tryd.underlying0
  a0 := Tryd.isAgg0
  z0 := Tryd.sizeOf0
  v0 := Tryd.zeroValue0
  t2 := Tryd.underlying2
  a2 := Tryd.isAgg2
  z2 := Tryd.sizeOf2
  v2 := Tryd.zeroValue2
  t3 := Tryd.underlying3
  a3 := Tryd.isAgg3
  z3 := Tryd.sizeOf3
  v3 := Tryd.zeroValue3
  t4 := Tryd.underlying4
  a4 := Tryd.isAgg4
  z4 := Tryd.sizeOf4
  v4 := Tryd.zeroValue4
  t5 := Tryd.underlying5
  a5 := Tryd.isAgg5
  z5 := Tryd.sizeOf5
  v5 := Tryd.zeroValue5
  t9 := Tryd.underlying9
  a9 := Tryd.isAgg9
  z9 := Tryd.sizeOf9
  v9 := Tryd.zeroValue9
  t20 := Tryd.underlying20
  a20 := Tryd.isAgg20
  z20 := Tryd.sizeOf20
  v20 := Tryd.zeroValue20
  t21 := Tryd.underlying21
  a21 := Tryd.isAgg21
  z21 := Tryd.sizeOf21
  v21 := Tryd.zeroValue21
  t37 := Tryd.underlying50
  a37 := Tryd.isAgg50
  z37 := Tryd.sizeOf50
  v37 := Tryd.zeroValue50
  t46 := Tryd.underlying69
  a46 := Tryd.isAgg69
  z46 := Tryd.sizeOf69
  v46 := Tryd.zeroValue69
  t51 := Tryd.underlying27
  a51 := Tryd.isAgg27
  z51 := Tryd.sizeOf27
  v51 := Tryd.zeroValue27
  t53 := Tryd.underlying62
  a53 := Tryd.isAgg62
  z53 := Tryd.sizeOf62
  v53 := Tryd.zeroValue62
  t75 := Tryd.underlying47
  a75 := Tryd.isAgg47
  z75 := Tryd.sizeOf47
  v75 := Tryd.zeroValue47
  t76 := Tryd.underlying48
  a76 := Tryd.isAgg48
  z76 := Tryd.sizeOf48
  v76 := Tryd.zeroValue48
  t85 := Tryd.underlying56
  a85 := Tryd.isAgg56
  z85 := Tryd.sizeOf56
  v85 := Tryd.zeroValue56
  t127 := Tryd.underlying83
  a127 := Tryd.isAgg83
  z127 := Tryd.sizeOf83
  v127 := Tryd.zeroValue83
  t143 := Tryd.underlying84
  a143 := Tryd.isAgg84
  z143 := Tryd.sizeOf84
  v143 := Tryd.zeroValue84
  t145 := Tryd.underlying86
  a145 := Tryd.isAgg86
  z145 := Tryd.sizeOf86
  v145 := Tryd.zeroValue86
  t167 := Tryd.underlying55
  a167 := Tryd.isAgg55
  z167 := Tryd.sizeOf55
  v167 := Tryd.zeroValue55
  t168 := Tryd.underlying58
  a168 := Tryd.isAgg58
  z168 := Tryd.sizeOf58
  v168 := Tryd.zeroValue58
  t171 := Tryd.underlying61
  a171 := Tryd.isAgg61
  z171 := Tryd.sizeOf61
  v171 := Tryd.zeroValue61
  t173 := Tryd.underlying65
  a173 := Tryd.isAgg65
  z173 := Tryd.sizeOf65
  v173 := Tryd.zeroValue65
  t175 := Tryd.underlying70
  a175 := Tryd.isAgg70
  z175 := Tryd.sizeOf70
  v175 := Tryd.zeroValue70
  t210 := Tryd.underlying74
  a210 := Tryd.isAgg74
  z210 := Tryd.sizeOf74
  v210 := Tryd.zeroValue74
  t212 := Tryd.underlying77
  a212 := Tryd.isAgg77
  z212 := Tryd.sizeOf77
  v212 := Tryd.zeroValue77
  t213 := Tryd.underlying78
  a213 := Tryd.isAgg78
  z213 := Tryd.sizeOf78
  t232 := Tryd.underlying88
  a232 := Tryd.isAgg88
  z232 := Tryd.sizeOf88
  v232 := Tryd.zeroValue88
  t233 := Tryd.underlying89
  a233 := Tryd.isAgg89
  z233 := Tryd.sizeOf89
  v233 := Tryd.zeroValue89
  g15 := by kernel_rfl
  g16 := by kernel_rfl
  g17 := by kernel_rfl
  g18 := by kernel_rfl
  g19 := by kernel_rfl }
open Go.RowKit in
/-- strconv.Atoi: "Atoi is equivalent to ParseInt(s, 10, 0), converted to type int.": AT A DECIMAL NUMERAL OF AT MOST 18 BYTES: its value, and a nil error. The world behind the call: the one new row that the library's '[]byte(s)' lays. (LAID: no walk: one application.) -/
theorem Tryd.strconv_Atoi (s : ByteArray) (n : Int) (hl : s.size ≤ 18) (h : Lib.atoi s.data.toList = some n) (w : World) :
    Calls Tryd.prog 37 #[.string s] w fun e w' => e = .returned (.tuple #[.int .i64 n, .nilIface]) ∧ ∃ t, w' = Lib.bytesWorld w 5 t := Any.strconv_Atoi Tryd.lays172 s n hl h w
def Tryd.laysM171_ren : Go.Shelf.Ren := ⟨fun | 171 => 32 | 243 => 39 | 246 => 44 | 283 => 52 | 284 => 53 | 285 => 54 | 286 => 55 | 129 => 64 | 317 => 63 | 318 => 65 | 319 => 66 | 320 => 67 | 337 => 72 | 338 => 73 | n => n, fun | 3 => 3 | 9 => 9 | 2 => 2 | 4 => 4 | 171 => 61 | 0 => 0 | 53 => 62 | 37 => 50 | 5 => 5 | 173 => 65 | 212 => 77 | 51 => 27 | 20 => 20 | 213 => 78 | 46 => 69 | 232 => 88 | 233 => 89 | n => n, fun | 17 => 3 | 18 => 4 | 19 => 5 | n => n⟩
theorem Tryd.laysM171 : Go.Proofs.LaysM.n171 Tryd.prog Tryd.laysM171_ren := {
  mixed := by kernel_rfl
  f129 := Tryd.func64.trans (congrArg some (by kernel_rfl))
  f171 := Tryd.func32.trans (congrArg some (by kernel_rfl))
  f243 := Tryd.func39.trans (congrArg some (by kernel_rfl))
  f246 := Tryd.func44.trans (congrArg some (by kernel_rfl))
  f283 := Tryd.func52.trans (congrArg some (by kernel_rfl))
  f284 := Tryd.func53.trans (congrArg some (by kernel_rfl))
  f285 := Tryd.func54.trans (congrArg some (by kernel_rfl))
  f286 := Tryd.func55.trans (congrArg some (by kernel_rfl))
  f317 := Tryd.func63.trans (congrArg some (by kernel_rfl))
  f318 := Tryd.func65.trans (congrArg some (by kernel_rfl))
  f319 := Tryd.func66.trans (congrArg some (by kernel_rfl))
  f320 := Tryd.func67.trans (congrArg some (by kernel_rfl))
  f337 := Tryd.func72.trans (congrArg some (by kernel_rfl))
  f338 := Tryd.func73.trans (congrArg some (by kernel_rfl))
  t0 := Tryd.underlying0
  a0 := Tryd.isAgg0
  z0 := Tryd.sizeOf0
  v0 := Tryd.zeroValue0
  t2 := Tryd.underlying2
  a2 := Tryd.isAgg2
  z2 := Tryd.sizeOf2
  v2 := Tryd.zeroValue2
  t3 := Tryd.underlying3
  a3 := Tryd.isAgg3
  z3 := Tryd.sizeOf3
  v3 := Tryd.zeroValue3
  t4 := Tryd.underlying4
  a4 := Tryd.isAgg4
  z4 := Tryd.sizeOf4
  v4 := Tryd.zeroValue4
  t5 := Tryd.underlying5
  a5 := Tryd.isAgg5
  z5 := Tryd.sizeOf5
  v5 := Tryd.zeroValue5
  t9 := Tryd.underlying9
  a9 := Tryd.isAgg9
  z9 := Tryd.sizeOf9
  v9 := Tryd.zeroValue9
  t20 := Tryd.underlying20
  a20 := Tryd.isAgg20
  z20 := Tryd.sizeOf20
  v20 := Tryd.zeroValue20
  t37 := Tryd.underlying50
  a37 := Tryd.isAgg50
  z37 := Tryd.sizeOf50
  v37 := Tryd.zeroValue50
  t46 := Tryd.underlying69
  a46 := Tryd.isAgg69
  z46 := Tryd.sizeOf69
  v46 := Tryd.zeroValue69
  t51 := Tryd.underlying27
  a51 := Tryd.isAgg27
  z51 := Tryd.sizeOf27
  v51 := Tryd.zeroValue27
  t53 := Tryd.underlying62
  a53 := Tryd.isAgg62
  z53 := Tryd.sizeOf62
  v53 := Tryd.zeroValue62
  t171 := Tryd.underlying61
  a171 := Tryd.isAgg61
  z171 := Tryd.sizeOf61
  v171 := Tryd.zeroValue61
  t173 := Tryd.underlying65
  a173 := Tryd.isAgg65
  z173 := Tryd.sizeOf65
  v173 := Tryd.zeroValue65
  t212 := Tryd.underlying77
  a212 := Tryd.isAgg77
  z212 := Tryd.sizeOf77
  v212 := Tryd.zeroValue77
  t213 := Tryd.underlying78
  a213 := Tryd.isAgg78
  z213 := Tryd.sizeOf78
  t232 := Tryd.underlying88
  a232 := Tryd.isAgg88
  z232 := Tryd.sizeOf88
  v232 := Tryd.zeroValue88
  t233 := Tryd.underlying89
  a233 := Tryd.isAgg89
  z233 := Tryd.sizeOf89
  v233 := Tryd.zeroValue89
  g17 := by kernel_rfl
  g18 := by kernel_rfl
  g19 := by kernel_rfl
  i0 := by kernel_rfl
  i2 := by kernel_rfl
  i3 := by kernel_rfl
  i4 := by kernel_rfl
  i5 := by kernel_rfl
  i9 := by kernel_rfl
  i20 := by kernel_rfl
  i37 := by kernel_rfl
  i46 := by kernel_rfl
  i51 := by kernel_rfl
  i53 := by kernel_rfl
  i171 := by kernel_rfl
  i173 := by kernel_rfl
  i212 := by kernel_rfl
  i232 := by kernel_rfl
  i233 := by kernel_rfl
  m17 := by kernel_rfl
  m18 := by kernel_rfl
  m19 := by kernel_rfl }
open Go.RowKit Go.Sort Go.Lib in
/-- strconv.Itoa: "Itoa is equivalent to FormatInt(int64(i), 10).": i's DECIMAL NUMERAL ('Lib.itoa': a '-' where i is negative, then the digits), FOR EVERY int. The world behind the call: the world before it, new blocks behind the heap (the library's 'var a [24]byte'), draws. (LAID: no walk: one application.) -/
theorem Tryd.strconv_Itoa (n : Int) (h0 : -9223372036854775808 ≤ n) (h1 : n ≤ 9223372036854775807) (w : World) (htab : Lib.TabIs Tryd.prog w "internal/strconv.uint64pow10" .u64 Lib.pow10Tab) :
    Calls Tryd.prog 32 #[.int .i64 n] w fun e w' => e = .returned (.string ⟨(Lib.itoa n).toArray⟩) ∧ ∃ k os, w' = grow (w.drewN k) os := Any.strconv_Itoa Tryd.laysM171 n h0 h1 w htab
def Tryd.lays145_ren : Go.Shelf.Ren := ⟨fun | 145 => 35 | 220 => 41 | 219 => 46 | 217 => 56 | 225 => 57 | 224 => 58 | 267 => 59 | 266 => 68 | 314 => 69 | n => n, fun | 9 => 9 | 4 => 4 | 59 => 44 | 3 => 3 | 5 => 5 | 46 => 69 | 146 => 80 | 51 => 27 | n => n, fun | 1 => 0 | n => n⟩
theorem Tryd.lays145 : Go.Proofs.Lays.n145 Tryd.prog Tryd.lays145_ren := {
  mixed := by kernel_rfl
  f145 := Tryd.func35.trans (congrArg some (by kernel_rfl))
  f217 := Tryd.func56.trans (congrArg some (by kernel_rfl))
  f219 := Tryd.func46.trans (congrArg some (by kernel_rfl))
  f220 := Tryd.func41.trans (congrArg some (by kernel_rfl))
  f224 := Tryd.func58.trans (congrArg some (by kernel_rfl))
  f225 := Tryd.func57.trans (congrArg some (by kernel_rfl))
  f266 := Tryd.func68.trans (congrArg some (by kernel_rfl))
  f267 := Tryd.func59.trans (congrArg some (by kernel_rfl))
  f314 := Tryd.func69.trans (congrArg some (by kernel_rfl))
  t3 := Tryd.underlying3
  a3 := Tryd.isAgg3
  z3 := Tryd.sizeOf3
  v3 := Tryd.zeroValue3
  t4 := Tryd.underlying4
  a4 := Tryd.isAgg4
  z4 := Tryd.sizeOf4
  v4 := Tryd.zeroValue4
  t5 := Tryd.underlying5
  a5 := Tryd.isAgg5
  z5 := Tryd.sizeOf5
  v5 := Tryd.zeroValue5
  t9 := Tryd.underlying9
  a9 := Tryd.isAgg9
  z9 := Tryd.sizeOf9
  v9 := Tryd.zeroValue9
  t46 := Tryd.underlying69
  a46 := Tryd.isAgg69
  z46 := Tryd.sizeOf69
  v46 := Tryd.zeroValue69
  t51 := Tryd.underlying27
  a51 := Tryd.isAgg27
  z51 := Tryd.sizeOf27
  v51 := Tryd.zeroValue27
  t59 := Tryd.underlying44
  a59 := Tryd.isAgg44
  z59 := Tryd.sizeOf44
  v59 := Tryd.zeroValue44
  t146 := Tryd.underlying80
  a146 := Tryd.isAgg80
  z146 := Tryd.sizeOf80
  v146 := Tryd.zeroValue80
  g1 := by kernel_rfl }
open Go.RowKit Go.Lib in
/-- strings.Cut: "Cut slices s around the first instance of sep, returning the text before and after sep. The found result reports whether sep appears in s. If sep does not appear in s, cut returns s, "", false.": IT RETURNS 'Lib.cut s sep'; the world is as it was but for the count of draws. (LAID: no walk: one application.) -/
theorem Tryd.strings_Cut (s sep : ByteArray) (m : Int) (w : World) (hs : s.size < 4294967281) (hm : w.cell? ⟨0, 0, none⟩ = some (.int .i64 m)) :
    Calls Tryd.prog 35 #[.string s, .string sep] w fun e w' => e = .returned (.tuple #[.string ⟨(Lib.cut s.data.toList sep.data.toList).1.toArray⟩, .string ⟨(Lib.cut s.data.toList sep.data.toList).2.1.toArray⟩, .bool (Lib.cut s.data.toList sep.data.toList).2.2]) ∧ ∃ n, w' = w.drewN n := Any.strings_Cut Tryd.lays145 s sep m w hs hm
end Go.Proofs
