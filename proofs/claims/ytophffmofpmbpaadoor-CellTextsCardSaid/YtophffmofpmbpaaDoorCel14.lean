/-
  The law CellTexts: plain part.
-/
import Derived.Test.YtophffmofpmbpaaDoorCel13
namespace Go.Proofs.YtophffmofpmbpaaDoor
open Go.RowKit
set_option linter.unusedVariables false
theorem text_inj {x y : SCell} (hx : validC x = true) (hy : validC y = true) (h : textC x = textC y) : x = y := by
  have h1 : pcD (textC x) = some x := pcD_iff.2 ⟨hx, rfl⟩
  have h2 : pcD (textC y) = some y := pcD_iff.2 ⟨hy, rfl⟩
  rw [h, h2] at h1
  injection h1 with h1
  exact h1.symm
theorem pcR_text {x : SCell} (hx : validC x = true) : pcR (textC x) = .tuple #[cellV x, .int .i64 0] := pcR_yes (pcD_iff.2 ⟨hx, rfl⟩)
theorem text_empty {x : SCell} (h : validC x = false) : textC x = [] := by
  unfold textC
  rw [h]; rfl
theorem text_len (x : SCell) : (textC x).length ≤ 100 := by
  unfold textC
  split
  · rename_i hv
    have hb := validC_bd hv
    have n0 := nmS_len x.st
    have num : ∀ n : Int, n ≤ 1000 → (numT n).length ≤ 22 := by
      intro n hn
      unfold numT
      split
      · have := dec_len_le (m := n.toNat) (by omega)
        simp; omega
      · simp
    have n1 := num x.en (by omega)
    have n2 := num x.ot (by omega)
    have n3 := num x.pe (by omega)
    simp only [List.length_append]
    omega
  · simp
theorem text_some {x : SCell} (h : validC x = true) : (textC x).isEmpty = false := by
  have h0 : textC x ≠ [] := by
    intro h2
    have h1 : pcD (textC x) = some x := pcD_iff.2 ⟨h, rfl⟩
    rw [h2] at h1
    have : pcD [] = none := by kernel_rfl
    rw [this] at h1
    cases h1
  cases ht : textC x
  · exact absurd ht h0
  · rfl
end Go.Proofs.YtophffmofpmbpaaDoor
