/-
  The program's read: the ways of a row with numbers.
-/
import Derived.Test.YtfiindecponeoaaDoorStW13
namespace Go.Proofs.YtfiindecponeoaaDoor
open Go.RowKit
set_option linter.unusedVariables false
theorem cutSuffix_mk (l p : List UInt8) (w : World) (hl : l.length ≤ 3000) : Calls Tryd.prog 37 #[.string ⟨l.toArray⟩, .string ⟨p.toArray⟩] w fun e w' => e = .returned (.tuple #[.string ⟨(Lib.trimSuffix l p).toArray⟩, .bool (Lib.hasSuffix l p)]) ∧ w = w' :=
  (Tryd.strings_CutSuffix ⟨l.toArray⟩ ⟨p.toArray⟩ w (by rw [mk_size]; omega)).mono (by rintro e w' ⟨rfl, rfl⟩; exact ⟨rfl, rfl⟩)
theorem trimPrefix_mk (l p : List UInt8) (w : World) : Calls Tryd.prog 38 #[.string ⟨l.toArray⟩, .string ⟨p.toArray⟩] w fun e w' => e = .returned (.string ⟨(Lib.trimPrefix l p).toArray⟩) ∧ w = w' :=
  (Tryd.strings_TrimPrefix ⟨l.toArray⟩ ⟨p.toArray⟩ w).mono (by rintro e w' ⟨rfl, rfl⟩; exact ⟨rfl, rfl⟩)
theorem trim_len (l a b : List UInt8) : (Lib.trimPrefix (Lib.trimSuffix l a) b).length ≤ l.length := by
  have h1 : (Lib.trimSuffix l a).length ≤ l.length := by
    unfold Lib.trimSuffix
    split
    · rw [List.length_take]; omega
    · omega
  unfold Lib.trimPrefix
  split
  · rw [List.length_drop]; omega
  · exact h1
theorem atoi_gen (l : List UInt8) (w : World) (hEE : EnvE w) (hl : l.length ≤ 3000) :
    Calls Tryd.prog 36 #[.string ⟨l.toArray⟩] w fun e w' => ∃ n ev, e = .returned (.tuple #[.int .i64 n, ev]) ∧ Below w.heap.size w w' := by
  by_cases h : ∃ v, Lib.atoiAll l = .ok v
  · obtain ⟨v, hv⟩ := h
    exact (atoi_yes l v w hv hl).mono (by rintro e w' ⟨rfl, hb⟩; exact ⟨_, _, rfl, hb⟩)
  · exact (atoi_no l w hEE (fun v hv => h ⟨v, hv⟩) hl).mono (by rintro e w' ⟨n, N, rfl, hb⟩; exact ⟨_, _, rfl, hb⟩)
end Go.Proofs.YtfiindecponeoaaDoor
