/-
  Strings in a walk: the walk's spellings, strconv.Itoa, one byte as a string.
-/
import Derived.Test.YtcmmppkmkejniaaGreatDoorKit
import Derived.Test.YtcmmppkmkejniaaGreatDoorDig
import Derived.Test.YtcmmppkmkejniaaGreatDoorShelf
import Derived.WalkKit
import Derived.WalkSpells
import Derived.WalkLawsBesides
import Derived.Deep.QuietTactic
import Derived.BigQuiet
import Derived.LoopTactic
import Derived.Laws.BytesString
import Derived.Outline
import Derived.Lib.Hide
namespace Go.Proofs.YtcmmppkmkejniaaGreatDoor
open Go.RowKit
set_option linter.unusedVariables false
theorem ret_int {a b : Int} (h : a = b) : Ending.returned (.int .i64 a) = .returned (.int .i64 b) := by rw [h]
theorem pair_int {a b c d : Int} (h : a = b) (h' : c = d) : Ending.returned (.tuple #[.int .i64 a, .int .i64 c]) = .returned (.tuple #[.int .i64 b, .int .i64 d]) := by rw [h, h']
theorem ret_bool {a b : Bool} (h : a = b) : Ending.returned (.bool a) = .returned (.bool b) := by rw [h]
theorem ret_str {a b : List UInt8} (h : a = b) : Ending.returned (.string ⟨a.toArray⟩) = .returned (.string ⟨b.toArray⟩) := by rw [h]
theorem cat_mk (a b : List UInt8) : (⟨a.toArray⟩ ++ ⟨b.toArray⟩ : ByteArray) = ⟨(a ++ b).toArray⟩ := by
  apply ByteArray.ext
  simp
theorem ret_str' {a b : ByteArray} (h : a = b) : Ending.returned (.string a) = .returned (.string b) := by rw [h]
theorem mk_congr {a b : List UInt8} (h : a = b) : (⟨a.toArray⟩ : ByteArray) = ⟨b.toArray⟩ := by rw [h]
theorem ex_mk (l : List UInt8) (a b : Nat) : (⟨l.toArray⟩ : ByteArray).extract a b = ⟨((l.take b).drop a).toArray⟩ := by
  apply ByteArray.ext
  rw [ByteArray.data_extract]
  simp [List.extract_eq_drop_take']
theorem cat3_mk (a b c : List UInt8) : (⟨a.toArray⟩ ++ ⟨b.toArray⟩ ++ ⟨c.toArray⟩ : ByteArray) = ⟨(a ++ b ++ c).toArray⟩ := by rw [cat_mk, cat_mk]
theorem itoa_nat (x : Int) (m : Nat) (w : World) (hx : x = m) (hm : m ≤ 9223372036854775807) (hE : Env w) :
    Calls Tryz.prog 34 #[.int .i64 x] w fun e w' => e = .returned (.string ⟨(Lib.decDigits m).toArray⟩) ∧ Below w.heap.size w w' := by
  subst hx
  refine (Tryz.strconv_Itoa _ (by omega) (by omega) _ hE.tab).mono ?_
  rintro e w1 ⟨rfl, hw1⟩
  exact ⟨by rw [Lib.itoa_nonneg], below_itoa hw1⟩
theorem run_byte_string (w : World) (n : Int) : (convert 77 9 (.slice (some ⟨w.heap.size, 0, none⟩) 1 1)).run Tryz.prog (w.alloc (.cells #[.int .u8 n] 5)) = .ok (.string ⟨[UInt8.ofNat n.toNat].toArray⟩) (w.alloc (.cells #[.int .u8 n] 5)) := by
  rw [run_convert_bytes_string _ _ _ _ _ _ _ Tryz.underlying77 Tryz.underlying5 Tryz.underlying9]
  rw [run_bytesToString _ _ _ _ [n] (by simp [go_sem, loadCells])]
  rfl
def strLen : Value → Nat | .string s => s.size | _ => 0
theorem strLen_mk (l : List UInt8) : strLen (.string ⟨l.toArray⟩) = l.length := by simp [strLen, ByteArray.size]
theorem strLen_cat (a b : ByteArray) : strLen (.string (a ++ b)) = a.size + b.size := ByteArray.size_append
end Go.Proofs.YtcmmppkmkejniaaGreatDoor
