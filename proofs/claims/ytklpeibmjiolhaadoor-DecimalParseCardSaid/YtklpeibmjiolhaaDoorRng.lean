/-
  A range over a string of digits.
-/
import Derived.Test.YtklpeibmjiolhaaDoorStr
import Derived.Laws.RangeAny
import Derived.Laws.RangeString
import Derived.StillTactics
namespace Go.Proofs.YtklpeibmjiolhaaDoor
open Go.RowKit
set_option linter.unusedVariables false
theorem next_ascii (w : World) (l : List UInt8) (pos : Nat) (h : pos < l.length) (hb : (l.getD pos 0).toNat < 128) :
    ∀ ty, (Instr.next (.pointer (some ⟨w.heap.size, 0, none⟩)) true ty).run Tryd.prog (w.iter ⟨l.toArray⟩ pos) = .ok (.tuple #[.bool true, .int .i64 pos, .int .i32 (l.getD pos 0).toNat]) (w.iter ⟨l.toArray⟩ (pos + 1)) := by
  intro ty
  have hp : pos < (⟨l.toArray⟩ : ByteArray).size := by rw [mk_size]; exact h
  have e := decode_ascii ⟨l.toArray⟩ pos hp (by rw [mk_getD]; exact hb)
  have := run_next_any (P := Tryd.prog) w ⟨l.toArray⟩ pos ty hp
  rw [e, mk_getD] at this
  exact this
end Go.Proofs.YtklpeibmjiolhaaDoor
