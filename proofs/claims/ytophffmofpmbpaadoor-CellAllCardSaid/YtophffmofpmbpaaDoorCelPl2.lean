/-
  Cells: plain data and laws.
-/
import Derived.Test.YtophffmofpmbpaaDoorCelPl
namespace Go.Proofs.YtophffmofpmbpaaDoor
set_option linter.unusedVariables false
structure SCell where
  st : Int
  en : Int
  ot : Int
  pe : Int
deriving DecidableEq
instance : Inhabited SCell := ⟨⟨0, 0, 0, 0⟩⟩
def inB (u : Bool) (n most : Int) : Bool := if u then decide (0 ≤ n) && decide (n < most) else n == -1
def validC (c : SCell) : Bool := known c.st && (inB (uE c.st) c.en 12 && (inB (uO c.st) c.ot 12 && (inB (uP c.st) c.pe 120 && (!uO c.st || c.en != c.ot))))
def ofC (s e o p : Int) : SCell := ⟨s, if uE s then e else -1, if uO s then o else -1, if uP s then p else -1⟩
def numT (n : Int) : List UInt8 := if 0 ≤ n then 32 :: Lib.decDigits n.toNat else []
def textC (c : SCell) : List UInt8 := if validC c then nmS c.st ++ numT c.en ++ numT c.ot ++ numT c.pe else []
theorem inB_iff {u : Bool} {n most : Int} : inB u n most = true ↔ (u = true → 0 ≤ n ∧ n < most) ∧ (u = false → n = -1) := by
  unfold inB
  cases u
  · simp
  · simp
theorem validC_iff {c : SCell} : validC c = true ↔ known c.st = true ∧ inB (uE c.st) c.en 12 = true ∧ inB (uO c.st) c.ot 12 = true ∧ inB (uP c.st) c.pe 120 = true ∧ (uO c.st = true → c.en ≠ c.ot) := by
  unfold validC
  simp only [Bool.and_eq_true, Bool.or_eq_true, Bool.not_eq_true', bne_iff_ne, ne_eq]
  constructor
  · rintro ⟨h1, h2, h3, h4, h5⟩
    refine ⟨h1, h2, h3, h4, fun h => ?_⟩
    rcases h5 with h5 | h5
    · rw [h5] at h; cases h
    · exact h5
  · rintro ⟨h1, h2, h3, h4, h5⟩
    refine ⟨h1, h2, h3, h4, ?_⟩
    cases h : uO c.st
    · exact .inl rfl
    · exact .inr (h5 h)
theorem inB_bd {u : Bool} {n most : Int} (h : inB u n most = true) (hm : 0 ≤ most) : -1 ≤ n ∧ n ≤ most := by
  cases u
  · have := (inB_iff.1 h).2 rfl; omega
  · have := (inB_iff.1 h).1 rfl; omega
theorem inB_used {u : Bool} {n most : Int} (h : inB u n most = true) : u = decide (0 ≤ n) := by
  cases u
  · have := (inB_iff.1 h).2 rfl
    subst this; rfl
  · have := (inB_iff.1 h).1 rfl
    rw [decide_eq_true this.1]
theorem validC_bd {c : SCell} (h : validC c = true) : (1 ≤ c.st ∧ c.st ≤ 22) ∧ (-1 ≤ c.en ∧ c.en ≤ 12) ∧ (-1 ≤ c.ot ∧ c.ot ≤ 12) ∧ (-1 ≤ c.pe ∧ c.pe ≤ 120) := by
  obtain ⟨h1, h2, h3, h4, _⟩ := validC_iff.1 h
  exact ⟨known_iff.1 h1, inB_bd h2 (by omega), inB_bd h3 (by omega), inB_bd h4 (by omega)⟩
theorem uses_flags {s : Int} (h : known s = true) : ∃ k : Nat, s = k ∧ 1 ≤ k ∧ k ≤ 22 ∧ uE s = eL.getD k false ∧ uO s = oL.getD k false ∧ uP s = pL.getD k false ∧ nmS s = nmL.getD k [] := by
  obtain ⟨k, rfl, h1, h2⟩ := known_nat h
  refine ⟨k, rfl, h1, h2, ?_, ?_, ?_, ?_⟩
  · unfold uE; rw [h]; rfl
  · unfold uO; rw [h]; rfl
  · unfold uP; rw [h]; rfl
  · unfold nmS; rw [h]; rfl
theorem uses_no {s : Int} (h : known s = false) : uE s = false ∧ uO s = false ∧ uP s = false ∧ nmS s = [] := by
  refine ⟨?_, ?_, ?_, ?_⟩
  · unfold uE; rw [h]; rfl
  · unfold uO; rw [h]; rfl
  · unfold uP; rw [h]; rfl
  · unfold nmS; rw [h]; rfl
theorem nmS_len (s : Int) : (nmS s).length ≤ 12 := by
  cases h : known s
  · rw [(uses_no h).2.2.2]; simp
  · obtain ⟨k, _, h1, h2, _, _, _, e⟩ := uses_flags h
    rw [e]; exact nm_len ⟨k, by omega⟩
end Go.Proofs.YtophffmofpmbpaaDoor
