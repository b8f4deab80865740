/-
  NARROWER THAN 'FOR EVERY INPUT', by the rows' own cells (each row's printed sentence says how): DecimalRound: laid · DecimalModes: laid · DecimalOrder: laid · DecimalQuantize: laid · DecimalSums: laid · DecimalCompare: laid · DecimalRescale: laid · DecimalText: laid · DecimalParse: laid.
  DERIVED. THE GIVEN ROWS OF THIS SEAT. 9 by the template 'for every input the law returns true; each argument reads behind the call as it read before'; 0 by the template 'total and deterministic' (their statements: YtklpeibmjiolhaaDoorTotals.lean).
  GIVEN WITH THE SEED: the statements are not yours to turn. If you find one false, say at which input.
  Laid BY PROGRAM, IN A SANDBOX (cutbox-rows.mjs): the forced cells as the released guide's own fill.sh prints them over the translation 8e70f9258249d200… (all of the seat's roots in one cut). By AI agents, Wed Nov 11 2026. No macro, syntax, notation, axiom, sorry.
-/
import Derived.Test.YtklpeibmjiolhaaDoorChecked
import GoSem.PinnedTables
import GoSem.Claim
import GoSem.ClaimJoined
import GoSem.ClaimMapViews
import Derived.JoinedTies
import Derived.KernelRfl
namespace Go.Proofs.YtklpeibmjiolhaaDoor
/- THE CELL 'sum', in the pinned program and in every row, IS THE sha256 OF THE DUMP (.gsa) THAT YtklpeibmjiolhaaDoorProg.lean LOADS. Nothing in Lean hashes anything: it is a label: what it is worth is what the hold of that sum in a sandbox is worth. -/
noncomputable def Tryd.pinned : Pinned := { name := "ytklpeibmjiolhaadoor", sum := "8e70f9258249d200e63db82bcbc0ef2eac3fe7aed3b4694a50dd4727907e97df", checked := Tryd.checked }
namespace Rows
def none {H : Type} : Left H := { results := [], args := [] }

/- WHAT THE LISTED PACKAGE-LEVEL VARIABLES READ AS WHEN THE CALL BEGINS. Each datum BY PROGRAM (the guide's laid-datum.mjs) off the statement by which the dump's own 'gosem.cut.vars' lays the variable. In a bare row this is a premise. The card (YtklpeibmjiolhaaDoorCards.lean) ties it to the program's text. -/
def laid_math_bits_deBruijn32tab {H : Type} : DataW H := .agg [.lit (.int .u8 0), .lit (.int .u8 1), .lit (.int .u8 28), .lit (.int .u8 2), .lit (.int .u8 29), .lit (.int .u8 14), .lit (.int .u8 24), .lit (.int .u8 3), .lit (.int .u8 30), .lit (.int .u8 22), .lit (.int .u8 20), .lit (.int .u8 15), .lit (.int .u8 25), .lit (.int .u8 17), .lit (.int .u8 4), .lit (.int .u8 8), .lit (.int .u8 31), .lit (.int .u8 27), .lit (.int .u8 13), .lit (.int .u8 23), .lit (.int .u8 21), .lit (.int .u8 19), .lit (.int .u8 16), .lit (.int .u8 7), .lit (.int .u8 26), .lit (.int .u8 12), .lit (.int .u8 18), .lit (.int .u8 6), .lit (.int .u8 11), .lit (.int .u8 5), .lit (.int .u8 10), .lit (.int .u8 9)]
def laid_math_bits_deBruijn64tab {H : Type} : DataW H := .agg [.lit (.int .u8 0), .lit (.int .u8 1), .lit (.int .u8 56), .lit (.int .u8 2), .lit (.int .u8 57), .lit (.int .u8 49), .lit (.int .u8 28), .lit (.int .u8 3), .lit (.int .u8 61), .lit (.int .u8 58), .lit (.int .u8 42), .lit (.int .u8 50), .lit (.int .u8 38), .lit (.int .u8 29), .lit (.int .u8 17), .lit (.int .u8 4), .lit (.int .u8 62), .lit (.int .u8 47), .lit (.int .u8 59), .lit (.int .u8 36), .lit (.int .u8 45), .lit (.int .u8 43), .lit (.int .u8 51), .lit (.int .u8 22), .lit (.int .u8 53), .lit (.int .u8 39), .lit (.int .u8 33), .lit (.int .u8 30), .lit (.int .u8 24), .lit (.int .u8 18), .lit (.int .u8 12), .lit (.int .u8 5), .lit (.int .u8 63), .lit (.int .u8 55), .lit (.int .u8 48), .lit (.int .u8 27), .lit (.int .u8 60), .lit (.int .u8 41), .lit (.int .u8 37), .lit (.int .u8 16), .lit (.int .u8 46), .lit (.int .u8 35), .lit (.int .u8 44), .lit (.int .u8 21), .lit (.int .u8 52), .lit (.int .u8 32), .lit (.int .u8 23), .lit (.int .u8 11), .lit (.int .u8 54), .lit (.int .u8 26), .lit (.int .u8 40), .lit (.int .u8 15), .lit (.int .u8 34), .lit (.int .u8 20), .lit (.int .u8 31), .lit (.int .u8 10), .lit (.int .u8 25), .lit (.int .u8 14), .lit (.int .u8 19), .lit (.int .u8 9), .lit (.int .u8 13), .lit (.int .u8 8), .lit (.int .u8 7), .lit (.int .u8 6)]
def laid_internal_strconv_uint64pow10 {H : Type} : DataW H := .agg [.lit (.int .u64 1), .lit (.int .u64 10), .lit (.int .u64 100), .lit (.int .u64 1000), .lit (.int .u64 10000), .lit (.int .u64 100000), .lit (.int .u64 1000000), .lit (.int .u64 10000000), .lit (.int .u64 100000000), .lit (.int .u64 1000000000), .lit (.int .u64 10000000000), .lit (.int .u64 100000000000), .lit (.int .u64 1000000000000), .lit (.int .u64 10000000000000), .lit (.int .u64 100000000000000), .lit (.int .u64 1000000000000000), .lit (.int .u64 10000000000000000), .lit (.int .u64 100000000000000000), .lit (.int .u64 1000000000000000000), .lit (.int .u64 10000000000000000000)]
def laid_unicode_utf8_acceptRanges {H : Type} : DataW H := .agg [.agg [.lit (.int .u8 128), .lit (.int .u8 191)], .agg [.lit (.int .u8 160), .lit (.int .u8 191)], .agg [.lit (.int .u8 128), .lit (.int .u8 159)], .agg [.lit (.int .u8 144), .lit (.int .u8 191)], .agg [.lit (.int .u8 128), .lit (.int .u8 143)], .agg [.lit (.int .u8 0), .lit (.int .u8 0)], .agg [.lit (.int .u8 0), .lit (.int .u8 0)], .agg [.lit (.int .u8 0), .lit (.int .u8 0)], .agg [.lit (.int .u8 0), .lit (.int .u8 0)], .agg [.lit (.int .u8 0), .lit (.int .u8 0)], .agg [.lit (.int .u8 0), .lit (.int .u8 0)], .agg [.lit (.int .u8 0), .lit (.int .u8 0)], .agg [.lit (.int .u8 0), .lit (.int .u8 0)], .agg [.lit (.int .u8 0), .lit (.int .u8 0)], .agg [.lit (.int .u8 0), .lit (.int .u8 0)], .agg [.lit (.int .u8 0), .lit (.int .u8 0)]]
/-- One of Go's own tables, pinned by name: the form's constant. -/
def laid_unicode_utf8_first : DataW Unit := Go.Pinned.utf8First

/-- 'tallystonelaw03.DecimalRound': WHATEVER THE INPUT: true; the input reads as it did. -/
def decimalRoundSpec : ChangeSpec := { name := "decimalRound", fn := fun _ => fun
  | [d1, d2, d3] => { results := [.lit (.bool true)], args := [d1, d2, d3] }
  | _ => none }
def decimalRoundRow : OpenClaim := { program := "ytklpeibmjiolhaadoor", sum := "8e70f9258249d200e63db82bcbc0ef2eac3fe7aed3b4694a50dd4727907e97df", func := "tallystone/tallystonelaw03.DecimalRound", spec := "decimalRound", unfollowed := true, recurses := true, named := ["internal/strconv.uint64pow10", "math/bits.deBruijn32tab", "math/bits.deBruijn64tab"], apart := false, laid := [("math/bits.deBruijn32tab", laid_math_bits_deBruijn32tab), ("math/bits.deBruijn64tab", laid_math_bits_deBruijn64tab), ("internal/strconv.uint64pow10", laid_internal_strconv_uint64pow10)] }
def DecimalRoundSaid : Prop := decimalRoundRow.holds Tryd.pinned (OpenSpec.ofChange decimalRoundSpec)

/-- ITS FALSE NEIGHBOUR: 'it returns false'. Refute it at one input. -/
def decimalRoundWrong : ChangeSpec := { name := "decimalRound", fn := fun _ => fun
  | [d1, d2, d3] => { results := [.lit (.bool false)], args := [d1, d2, d3] }
  | _ => none }
def DecimalRoundWrongFalsely : Prop := decimalRoundRow.holds Tryd.pinned (OpenSpec.ofChange decimalRoundWrong)

/-- 'tallystonelaw03.DecimalModes': WHATEVER THE INPUT: true; the input reads as it did. -/
def decimalModesSpec : ChangeSpec := { name := "decimalModes", fn := fun _ => fun
  | [d1, d2] => { results := [.lit (.bool true)], args := [d1, d2] }
  | _ => none }
def decimalModesRow : OpenClaim := { program := "ytklpeibmjiolhaadoor", sum := "8e70f9258249d200e63db82bcbc0ef2eac3fe7aed3b4694a50dd4727907e97df", func := "tallystone/tallystonelaw03.DecimalModes", spec := "decimalModes", unfollowed := true, recurses := true, named := ["internal/strconv.uint64pow10", "math/bits.deBruijn32tab", "math/bits.deBruijn64tab"], apart := false, laid := [("math/bits.deBruijn32tab", laid_math_bits_deBruijn32tab), ("math/bits.deBruijn64tab", laid_math_bits_deBruijn64tab), ("internal/strconv.uint64pow10", laid_internal_strconv_uint64pow10)] }
def DecimalModesSaid : Prop := decimalModesRow.holds Tryd.pinned (OpenSpec.ofChange decimalModesSpec)

/-- ITS FALSE NEIGHBOUR: 'it returns false'. Refute it at one input. -/
def decimalModesWrong : ChangeSpec := { name := "decimalModes", fn := fun _ => fun
  | [d1, d2] => { results := [.lit (.bool false)], args := [d1, d2] }
  | _ => none }
def DecimalModesWrongFalsely : Prop := decimalModesRow.holds Tryd.pinned (OpenSpec.ofChange decimalModesWrong)

/-- 'tallystonelaw03.DecimalOrder': WHATEVER THE INPUT: true; the input reads as it did. -/
def decimalOrderSpec : ChangeSpec := { name := "decimalOrder", fn := fun _ => fun
  | [d1, d2, d3] => { results := [.lit (.bool true)], args := [d1, d2, d3] }
  | _ => none }
def decimalOrderRow : OpenClaim := { program := "ytklpeibmjiolhaadoor", sum := "8e70f9258249d200e63db82bcbc0ef2eac3fe7aed3b4694a50dd4727907e97df", func := "tallystone/tallystonelaw03.DecimalOrder", spec := "decimalOrder", unfollowed := true, recurses := true, named := ["internal/strconv.uint64pow10", "math/bits.deBruijn32tab", "math/bits.deBruijn64tab"], apart := false, laid := [("math/bits.deBruijn32tab", laid_math_bits_deBruijn32tab), ("math/bits.deBruijn64tab", laid_math_bits_deBruijn64tab), ("internal/strconv.uint64pow10", laid_internal_strconv_uint64pow10)] }
def DecimalOrderSaid : Prop := decimalOrderRow.holds Tryd.pinned (OpenSpec.ofChange decimalOrderSpec)

/-- ITS FALSE NEIGHBOUR: 'it returns false'. Refute it at one input. -/
def decimalOrderWrong : ChangeSpec := { name := "decimalOrder", fn := fun _ => fun
  | [d1, d2, d3] => { results := [.lit (.bool false)], args := [d1, d2, d3] }
  | _ => none }
def DecimalOrderWrongFalsely : Prop := decimalOrderRow.holds Tryd.pinned (OpenSpec.ofChange decimalOrderWrong)

/-- 'tallystonelaw03.DecimalQuantize': WHATEVER THE INPUT: true; the input reads as it did. -/
def decimalQuantizeSpec : ChangeSpec := { name := "decimalQuantize", fn := fun _ => fun
  | [d1, d2, d3] => { results := [.lit (.bool true)], args := [d1, d2, d3] }
  | _ => none }
def decimalQuantizeRow : OpenClaim := { program := "ytklpeibmjiolhaadoor", sum := "8e70f9258249d200e63db82bcbc0ef2eac3fe7aed3b4694a50dd4727907e97df", func := "tallystone/tallystonelaw03.DecimalQuantize", spec := "decimalQuantize", unfollowed := true, recurses := true, named := ["internal/strconv.uint64pow10", "math/bits.deBruijn32tab", "math/bits.deBruijn64tab"], apart := false, laid := [("math/bits.deBruijn32tab", laid_math_bits_deBruijn32tab), ("math/bits.deBruijn64tab", laid_math_bits_deBruijn64tab), ("internal/strconv.uint64pow10", laid_internal_strconv_uint64pow10)] }
def DecimalQuantizeSaid : Prop := decimalQuantizeRow.holds Tryd.pinned (OpenSpec.ofChange decimalQuantizeSpec)

/-- ITS FALSE NEIGHBOUR: 'it returns false'. Refute it at one input. -/
def decimalQuantizeWrong : ChangeSpec := { name := "decimalQuantize", fn := fun _ => fun
  | [d1, d2, d3] => { results := [.lit (.bool false)], args := [d1, d2, d3] }
  | _ => none }
def DecimalQuantizeWrongFalsely : Prop := decimalQuantizeRow.holds Tryd.pinned (OpenSpec.ofChange decimalQuantizeWrong)

/-- 'tallystonelaw03.DecimalSums': WHATEVER THE INPUT: true; the input reads as it did. -/
def decimalSumsSpec : ChangeSpec := { name := "decimalSums", fn := fun _ => fun
  | [d1, d2, d3] => { results := [.lit (.bool true)], args := [d1, d2, d3] }
  | _ => none }
def decimalSumsRow : OpenClaim := { program := "ytklpeibmjiolhaadoor", sum := "8e70f9258249d200e63db82bcbc0ef2eac3fe7aed3b4694a50dd4727907e97df", func := "tallystone/tallystonelaw03.DecimalSums", spec := "decimalSums", unfollowed := true, recurses := true, named := ["internal/strconv.uint64pow10", "math/bits.deBruijn32tab", "math/bits.deBruijn64tab"], apart := false, laid := [("math/bits.deBruijn32tab", laid_math_bits_deBruijn32tab), ("math/bits.deBruijn64tab", laid_math_bits_deBruijn64tab), ("internal/strconv.uint64pow10", laid_internal_strconv_uint64pow10)] }
def DecimalSumsSaid : Prop := decimalSumsRow.holds Tryd.pinned (OpenSpec.ofChange decimalSumsSpec)

/-- ITS FALSE NEIGHBOUR: 'it returns false'. Refute it at one input. -/
def decimalSumsWrong : ChangeSpec := { name := "decimalSums", fn := fun _ => fun
  | [d1, d2, d3] => { results := [.lit (.bool false)], args := [d1, d2, d3] }
  | _ => none }
def DecimalSumsWrongFalsely : Prop := decimalSumsRow.holds Tryd.pinned (OpenSpec.ofChange decimalSumsWrong)

/-- 'tallystonelaw03.DecimalCompare': WHATEVER THE INPUT: true; the input reads as it did. -/
def decimalCompareSpec : ChangeSpec := { name := "decimalCompare", fn := fun _ => fun
  | [d1, d2] => { results := [.lit (.bool true)], args := [d1, d2] }
  | _ => none }
def decimalCompareRow : OpenClaim := { program := "ytklpeibmjiolhaadoor", sum := "8e70f9258249d200e63db82bcbc0ef2eac3fe7aed3b4694a50dd4727907e97df", func := "tallystone/tallystonelaw03.DecimalCompare", spec := "decimalCompare", unfollowed := true, recurses := true, named := ["internal/strconv.uint64pow10", "math/bits.deBruijn32tab", "math/bits.deBruijn64tab"], apart := false, laid := [("math/bits.deBruijn32tab", laid_math_bits_deBruijn32tab), ("math/bits.deBruijn64tab", laid_math_bits_deBruijn64tab), ("internal/strconv.uint64pow10", laid_internal_strconv_uint64pow10)] }
def DecimalCompareSaid : Prop := decimalCompareRow.holds Tryd.pinned (OpenSpec.ofChange decimalCompareSpec)

/-- ITS FALSE NEIGHBOUR: 'it returns false'. Refute it at one input. -/
def decimalCompareWrong : ChangeSpec := { name := "decimalCompare", fn := fun _ => fun
  | [d1, d2] => { results := [.lit (.bool false)], args := [d1, d2] }
  | _ => none }
def DecimalCompareWrongFalsely : Prop := decimalCompareRow.holds Tryd.pinned (OpenSpec.ofChange decimalCompareWrong)

/-- 'tallystonelaw03.DecimalRescale': WHATEVER THE INPUT: true; the input reads as it did. -/
def decimalRescaleSpec : ChangeSpec := { name := "decimalRescale", fn := fun _ => fun
  | [d1, d2, d3] => { results := [.lit (.bool true)], args := [d1, d2, d3] }
  | _ => none }
def decimalRescaleRow : OpenClaim := { program := "ytklpeibmjiolhaadoor", sum := "8e70f9258249d200e63db82bcbc0ef2eac3fe7aed3b4694a50dd4727907e97df", func := "tallystone/tallystonelaw03.DecimalRescale", spec := "decimalRescale", unfollowed := true, recurses := true, named := ["internal/strconv.uint64pow10", "math/bits.deBruijn32tab", "math/bits.deBruijn64tab"], apart := false, laid := [("math/bits.deBruijn32tab", laid_math_bits_deBruijn32tab), ("math/bits.deBruijn64tab", laid_math_bits_deBruijn64tab), ("internal/strconv.uint64pow10", laid_internal_strconv_uint64pow10)] }
def DecimalRescaleSaid : Prop := decimalRescaleRow.holds Tryd.pinned (OpenSpec.ofChange decimalRescaleSpec)

/-- ITS FALSE NEIGHBOUR: 'it returns false'. Refute it at one input. -/
def decimalRescaleWrong : ChangeSpec := { name := "decimalRescale", fn := fun _ => fun
  | [d1, d2, d3] => { results := [.lit (.bool false)], args := [d1, d2, d3] }
  | _ => none }
def DecimalRescaleWrongFalsely : Prop := decimalRescaleRow.holds Tryd.pinned (OpenSpec.ofChange decimalRescaleWrong)

/-- 'tallystonelaw03.DecimalText': WHATEVER THE INPUT: true; the input reads as it did. -/
def decimalTextSpec : ChangeSpec := { name := "decimalText", fn := fun _ => fun
  | [d1, d2, d3] => { results := [.lit (.bool true)], args := [d1, d2, d3] }
  | _ => none }
def decimalTextRow : OpenClaim := { program := "ytklpeibmjiolhaadoor", sum := "8e70f9258249d200e63db82bcbc0ef2eac3fe7aed3b4694a50dd4727907e97df", func := "tallystone/tallystonelaw03.DecimalText", spec := "decimalText", inPlace := ["internal/bytealg.IndexByteString", "internal/bytealg.IndexString", "internal/abi.NoEscape", "internal/bytealg.MakeNoZero"], unfollowed := true, recurses := true, named := ["internal/strconv.uint64pow10", "math/bits.deBruijn32tab", "math/bits.deBruijn64tab", "internal/bytealg.MaxLen", "unicode/utf8.first", "unicode/utf8.acceptRanges"], apart := false, laid := [("math/bits.deBruijn32tab", laid_math_bits_deBruijn32tab), ("math/bits.deBruijn64tab", laid_math_bits_deBruijn64tab), ("internal/strconv.uint64pow10", laid_internal_strconv_uint64pow10), ("unicode/utf8.acceptRanges", laid_unicode_utf8_acceptRanges), ("unicode/utf8.first", laid_unicode_utf8_first)] }
def DecimalTextSaid : Prop := decimalTextRow.holds Tryd.pinned (OpenSpec.ofChange decimalTextSpec)

/-- ITS FALSE NEIGHBOUR: 'it returns false'. Refute it at one input. -/
def decimalTextWrong : ChangeSpec := { name := "decimalText", fn := fun _ => fun
  | [d1, d2, d3] => { results := [.lit (.bool false)], args := [d1, d2, d3] }
  | _ => none }
def DecimalTextWrongFalsely : Prop := decimalTextRow.holds Tryd.pinned (OpenSpec.ofChange decimalTextWrong)

/-- 'tallystonelaw03.DecimalParse': WHATEVER THE INPUT: true; the input reads as it did. -/
def decimalParseSpec : ChangeSpec := { name := "decimalParse", fn := fun _ => fun
  | [d1, d2] => { results := [.lit (.bool true)], args := [d1, d2] }
  | _ => none }
def decimalParseRow : OpenClaim := { program := "ytklpeibmjiolhaadoor", sum := "8e70f9258249d200e63db82bcbc0ef2eac3fe7aed3b4694a50dd4727907e97df", func := "tallystone/tallystonelaw03.DecimalParse", spec := "decimalParse", inPlace := ["internal/bytealg.IndexByteString", "internal/bytealg.IndexString", "internal/abi.NoEscape", "internal/bytealg.MakeNoZero"], unfollowed := true, recurses := true, named := ["internal/strconv.uint64pow10", "math/bits.deBruijn32tab", "math/bits.deBruijn64tab", "internal/bytealg.MaxLen", "unicode/utf8.first", "unicode/utf8.acceptRanges"], apart := false, laid := [("math/bits.deBruijn32tab", laid_math_bits_deBruijn32tab), ("math/bits.deBruijn64tab", laid_math_bits_deBruijn64tab), ("internal/strconv.uint64pow10", laid_internal_strconv_uint64pow10), ("unicode/utf8.acceptRanges", laid_unicode_utf8_acceptRanges), ("unicode/utf8.first", laid_unicode_utf8_first)] }
def DecimalParseSaid : Prop := decimalParseRow.holds Tryd.pinned (OpenSpec.ofChange decimalParseSpec)

/-- ITS FALSE NEIGHBOUR: 'it returns false'. Refute it at one input. -/
def decimalParseWrong : ChangeSpec := { name := "decimalParse", fn := fun _ => fun
  | [d1, d2] => { results := [.lit (.bool false)], args := [d1, d2] }
  | _ => none }
def DecimalParseWrongFalsely : Prop := decimalParseRow.holds Tryd.pinned (OpenSpec.ofChange decimalParseWrong)

/- THE SECOND FORM. 'bulk': how many values and letters a reading holds, each counted each time it is reached (what is shared counts as often as it is met; a slice's spare places count too). A statement '..UptoSaid' is the law's where the arguments, and the package variables that the reading takes, are together of bulk at most 1048576: NARROWER than '..Said'. Prove '..Said' where nothing that the law and all that it calls make is longer than what came in: it says more and counts as full. Else prove '..UptoSaid'. A law counts once. -/
mutual
def uptoBulk {H : Type} : DataW H → Nat
  | .lit (.string bytes) => bytes.length + 1
  | .lit _ => 1
  | .nil => 1
  | .ptr d => uptoBulk d + 1
  | .slice elems spare => uptoBulkAll elems + uptoBulkAll spare + 1
  | .agg parts => uptoBulkAll parts + 1
  | .iface _ d => uptoBulk d + 1
  | .map entries => uptoBulkEntries entries + 1
  | .held _ => 1
def uptoBulkAll {H : Type} : List (DataW H) → Nat
  | [] => 0
  | d :: r => uptoBulk d + uptoBulkAll r
def uptoBulkEntries {H : Type} : List (Lit × DataW H) → Nat
  | [] => 0
  | x :: r => uptoBulkEntry x + uptoBulkEntries r
def uptoBulkEntry {H : Type} : Lit × DataW H → Nat
  | (.string bytes, d) => bytes.length + uptoBulk d + 1
  | (_, d) => uptoBulk d + 1
 end
def uptoSmall : (H : Type) → List (DataW H) → Bool := fun _ ds => decide (uptoBulkAll ds ≤ 1048576)
def OpenSpec.upto (s : _root_.Go.ChangeSpec) : _root_.Go.OpenSpec := { _root_.Go.OpenSpec.ofChange s with cond := some uptoSmall }

/-- 'tallystonelaw03.DecimalRound', WHERE WHAT IT READS IS OF BULK AT MOST 1048576: true; the input reads as it did. -/
def decimalRoundUptoRow : OpenClaim := { program := "ytklpeibmjiolhaadoor", sum := "8e70f9258249d200e63db82bcbc0ef2eac3fe7aed3b4694a50dd4727907e97df", func := "tallystone/tallystonelaw03.DecimalRound", spec := "decimalRound", unfollowed := true, recurses := true, named := ["internal/strconv.uint64pow10", "math/bits.deBruijn32tab", "math/bits.deBruijn64tab"], apart := false, laid := [("math/bits.deBruijn32tab", laid_math_bits_deBruijn32tab), ("math/bits.deBruijn64tab", laid_math_bits_deBruijn64tab), ("internal/strconv.uint64pow10", laid_internal_strconv_uint64pow10)], narrowed := true }
def DecimalRoundUptoSaid : Prop := decimalRoundUptoRow.holds Tryd.pinned (OpenSpec.upto decimalRoundSpec)

/-- 'tallystonelaw03.DecimalModes', WHERE WHAT IT READS IS OF BULK AT MOST 1048576: true; the input reads as it did. -/
def decimalModesUptoRow : OpenClaim := { program := "ytklpeibmjiolhaadoor", sum := "8e70f9258249d200e63db82bcbc0ef2eac3fe7aed3b4694a50dd4727907e97df", func := "tallystone/tallystonelaw03.DecimalModes", spec := "decimalModes", unfollowed := true, recurses := true, named := ["internal/strconv.uint64pow10", "math/bits.deBruijn32tab", "math/bits.deBruijn64tab"], apart := false, laid := [("math/bits.deBruijn32tab", laid_math_bits_deBruijn32tab), ("math/bits.deBruijn64tab", laid_math_bits_deBruijn64tab), ("internal/strconv.uint64pow10", laid_internal_strconv_uint64pow10)], narrowed := true }
def DecimalModesUptoSaid : Prop := decimalModesUptoRow.holds Tryd.pinned (OpenSpec.upto decimalModesSpec)

/-- 'tallystonelaw03.DecimalOrder', WHERE WHAT IT READS IS OF BULK AT MOST 1048576: true; the input reads as it did. -/
def decimalOrderUptoRow : OpenClaim := { program := "ytklpeibmjiolhaadoor", sum := "8e70f9258249d200e63db82bcbc0ef2eac3fe7aed3b4694a50dd4727907e97df", func := "tallystone/tallystonelaw03.DecimalOrder", spec := "decimalOrder", unfollowed := true, recurses := true, named := ["internal/strconv.uint64pow10", "math/bits.deBruijn32tab", "math/bits.deBruijn64tab"], apart := false, laid := [("math/bits.deBruijn32tab", laid_math_bits_deBruijn32tab), ("math/bits.deBruijn64tab", laid_math_bits_deBruijn64tab), ("internal/strconv.uint64pow10", laid_internal_strconv_uint64pow10)], narrowed := true }
def DecimalOrderUptoSaid : Prop := decimalOrderUptoRow.holds Tryd.pinned (OpenSpec.upto decimalOrderSpec)

/-- 'tallystonelaw03.DecimalQuantize', WHERE WHAT IT READS IS OF BULK AT MOST 1048576: true; the input reads as it did. -/
def decimalQuantizeUptoRow : OpenClaim := { program := "ytklpeibmjiolhaadoor", sum := "8e70f9258249d200e63db82bcbc0ef2eac3fe7aed3b4694a50dd4727907e97df", func := "tallystone/tallystonelaw03.DecimalQuantize", spec := "decimalQuantize", unfollowed := true, recurses := true, named := ["internal/strconv.uint64pow10", "math/bits.deBruijn32tab", "math/bits.deBruijn64tab"], apart := false, laid := [("math/bits.deBruijn32tab", laid_math_bits_deBruijn32tab), ("math/bits.deBruijn64tab", laid_math_bits_deBruijn64tab), ("internal/strconv.uint64pow10", laid_internal_strconv_uint64pow10)], narrowed := true }
def DecimalQuantizeUptoSaid : Prop := decimalQuantizeUptoRow.holds Tryd.pinned (OpenSpec.upto decimalQuantizeSpec)

/-- 'tallystonelaw03.DecimalSums', WHERE WHAT IT READS IS OF BULK AT MOST 1048576: true; the input reads as it did. -/
def decimalSumsUptoRow : OpenClaim := { program := "ytklpeibmjiolhaadoor", sum := "8e70f9258249d200e63db82bcbc0ef2eac3fe7aed3b4694a50dd4727907e97df", func := "tallystone/tallystonelaw03.DecimalSums", spec := "decimalSums", unfollowed := true, recurses := true, named := ["internal/strconv.uint64pow10", "math/bits.deBruijn32tab", "math/bits.deBruijn64tab"], apart := false, laid := [("math/bits.deBruijn32tab", laid_math_bits_deBruijn32tab), ("math/bits.deBruijn64tab", laid_math_bits_deBruijn64tab), ("internal/strconv.uint64pow10", laid_internal_strconv_uint64pow10)], narrowed := true }
def DecimalSumsUptoSaid : Prop := decimalSumsUptoRow.holds Tryd.pinned (OpenSpec.upto decimalSumsSpec)

/-- 'tallystonelaw03.DecimalCompare', WHERE WHAT IT READS IS OF BULK AT MOST 1048576: true; the input reads as it did. -/
def decimalCompareUptoRow : OpenClaim := { program := "ytklpeibmjiolhaadoor", sum := "8e70f9258249d200e63db82bcbc0ef2eac3fe7aed3b4694a50dd4727907e97df", func := "tallystone/tallystonelaw03.DecimalCompare", spec := "decimalCompare", unfollowed := true, recurses := true, named := ["internal/strconv.uint64pow10", "math/bits.deBruijn32tab", "math/bits.deBruijn64tab"], apart := false, laid := [("math/bits.deBruijn32tab", laid_math_bits_deBruijn32tab), ("math/bits.deBruijn64tab", laid_math_bits_deBruijn64tab), ("internal/strconv.uint64pow10", laid_internal_strconv_uint64pow10)], narrowed := true }
def DecimalCompareUptoSaid : Prop := decimalCompareUptoRow.holds Tryd.pinned (OpenSpec.upto decimalCompareSpec)

/-- 'tallystonelaw03.DecimalRescale', WHERE WHAT IT READS IS OF BULK AT MOST 1048576: true; the input reads as it did. -/
def decimalRescaleUptoRow : OpenClaim := { program := "ytklpeibmjiolhaadoor", sum := "8e70f9258249d200e63db82bcbc0ef2eac3fe7aed3b4694a50dd4727907e97df", func := "tallystone/tallystonelaw03.DecimalRescale", spec := "decimalRescale", unfollowed := true, recurses := true, named := ["internal/strconv.uint64pow10", "math/bits.deBruijn32tab", "math/bits.deBruijn64tab"], apart := false, laid := [("math/bits.deBruijn32tab", laid_math_bits_deBruijn32tab), ("math/bits.deBruijn64tab", laid_math_bits_deBruijn64tab), ("internal/strconv.uint64pow10", laid_internal_strconv_uint64pow10)], narrowed := true }
def DecimalRescaleUptoSaid : Prop := decimalRescaleUptoRow.holds Tryd.pinned (OpenSpec.upto decimalRescaleSpec)

/-- 'tallystonelaw03.DecimalText', WHERE WHAT IT READS IS OF BULK AT MOST 1048576: true; the input reads as it did. -/
def decimalTextUptoRow : OpenClaim := { program := "ytklpeibmjiolhaadoor", sum := "8e70f9258249d200e63db82bcbc0ef2eac3fe7aed3b4694a50dd4727907e97df", func := "tallystone/tallystonelaw03.DecimalText", spec := "decimalText", inPlace := ["internal/bytealg.IndexByteString", "internal/bytealg.IndexString", "internal/abi.NoEscape", "internal/bytealg.MakeNoZero"], unfollowed := true, recurses := true, named := ["internal/strconv.uint64pow10", "math/bits.deBruijn32tab", "math/bits.deBruijn64tab", "internal/bytealg.MaxLen", "unicode/utf8.first", "unicode/utf8.acceptRanges"], apart := false, laid := [("math/bits.deBruijn32tab", laid_math_bits_deBruijn32tab), ("math/bits.deBruijn64tab", laid_math_bits_deBruijn64tab), ("internal/strconv.uint64pow10", laid_internal_strconv_uint64pow10), ("unicode/utf8.acceptRanges", laid_unicode_utf8_acceptRanges), ("unicode/utf8.first", laid_unicode_utf8_first)], narrowed := true }
def DecimalTextUptoSaid : Prop := decimalTextUptoRow.holds Tryd.pinned (OpenSpec.upto decimalTextSpec)

/-- 'tallystonelaw03.DecimalParse', WHERE WHAT IT READS IS OF BULK AT MOST 1048576: true; the input reads as it did. -/
def decimalParseUptoRow : OpenClaim := { program := "ytklpeibmjiolhaadoor", sum := "8e70f9258249d200e63db82bcbc0ef2eac3fe7aed3b4694a50dd4727907e97df", func := "tallystone/tallystonelaw03.DecimalParse", spec := "decimalParse", inPlace := ["internal/bytealg.IndexByteString", "internal/bytealg.IndexString", "internal/abi.NoEscape", "internal/bytealg.MakeNoZero"], unfollowed := true, recurses := true, named := ["internal/strconv.uint64pow10", "math/bits.deBruijn32tab", "math/bits.deBruijn64tab", "internal/bytealg.MaxLen", "unicode/utf8.first", "unicode/utf8.acceptRanges"], apart := false, laid := [("math/bits.deBruijn32tab", laid_math_bits_deBruijn32tab), ("math/bits.deBruijn64tab", laid_math_bits_deBruijn64tab), ("internal/strconv.uint64pow10", laid_internal_strconv_uint64pow10), ("unicode/utf8.acceptRanges", laid_unicode_utf8_acceptRanges), ("unicode/utf8.first", laid_unicode_utf8_first)], narrowed := true }
def DecimalParseUptoSaid : Prop := decimalParseUptoRow.holds Tryd.pinned (OpenSpec.upto decimalParseSpec)

end Rows
end Go.Proofs.YtklpeibmjiolhaaDoor
