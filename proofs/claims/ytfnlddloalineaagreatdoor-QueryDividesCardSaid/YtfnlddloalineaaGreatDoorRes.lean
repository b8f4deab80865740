/-
  What Run answers, as a plain value.
-/
import Derived.Test.YtfnlddloalineaaGreatDoorRunG
namespace Go.Proofs.YtfnlddloalineaaGreatDoor
open Go.RowKit
set_option linter.unusedVariables false
set_option linter.unusedSimpArgs false
set_option maxRecDepth 100000
/-- what Run answers: the error, and the rows -/
def resV (okb : Bool) (nb : Nat) (l : List (K5 × Int)) : Int × List (List Int × Int) := if okb = false then (1, []) else if l.all (fun p => moneyB p.2) = true then (0, l.map fun p => (p.1.l.take nb, p.2)) else (2, [])
theorem run_res {okb : Bool} {nb : Nat} {l : List (K5 × Int)} {e : Ending} {x : World} (h : RunSays okb nb l e x) : ∃ (A : Option Addr) (n c : Nat) (E : Int) (rs : List RRow), e = .returned (.tuple #[.slice A n c, .int .i64 E]) ∧ Reads x x.heap.size 2 A n (rrowsC rs) ∧ rs.length = n ∧ n ≤ l.length ∧ (∀ j, j < n → RowIn x x.heap.size (rs.getD j default) ∧ (rs.getD j default).n ≤ (rs.getD j default).c) ∧ (E, rs.map fun r => (r.ks, r.val)) = resV okb nb l := by
  rcases h with ⟨rfl, rfl⟩ | ⟨rfl, ⟨p, hp, hm⟩, rfl⟩ | ⟨rfl, hm, A, n, c, rfl, hn, rs, he, hr, hi⟩
  · exact ⟨none, 0, 0, 1, [], rfl, reads_nil _ _ _ _ rfl, rfl, Nat.zero_le _, fun j h => absurd h (Nat.not_lt_zero _), rfl⟩
  · refine ⟨none, 0, 0, 2, [], rfl, reads_nil _ _ _ _ rfl, rfl, Nat.zero_le _, fun j h => absurd h (Nat.not_lt_zero _), ?_⟩
    unfold resV
    have h1 : ¬ (l.all (fun p => moneyB p.2) = true) := fun h => by
      rw [List.all_eq_true] at h
      have h2 := h p hp
      rw [hm] at h2; cases h2
    rw [if_neg (by decide), if_neg h1]
    rfl
  · have hl : rs.length = n := by
      have h1 := congrArg List.length he
      simp only [List.length_map] at h1
      omega
    refine ⟨A, n, c, 0, rs, rfl, hr, hl, by omega, hi, ?_⟩
    unfold resV
    rw [if_neg (by decide), if_pos (List.all_eq_true.2 hm), he]
theorem rows_eq {rs rs' : List RRow} (h : (rs.map fun r => (r.ks, r.val)) = rs'.map fun r => (r.ks, r.val)) : rs.length = rs'.length ∧ ∀ k, k < rs.length → (rs.getD k default).ks = (rs'.getD k default).ks ∧ (rs.getD k default).val = (rs'.getD k default).val := by
  have hl : rs.length = rs'.length := by
    have h1 := congrArg List.length h
    simpa using h1
  refine ⟨hl, fun k hk => ?_⟩
  have h1 : (rs.map fun r => (r.ks, r.val))[k]? = (rs'.map fun r => (r.ks, r.val))[k]? := by rw [h]
  rw [List.getElem?_map, List.getElem?_map, List.getElem?_eq_getElem hk, List.getElem?_eq_getElem (by omega)] at h1
  simp only [Option.map_some, Option.some.injEq, Prod.mk.injEq] at h1
  have e1 : rs.getD k default = rs[k] := by simp [List.getD, hk]
  have e2 : rs'.getD k default = rs'[k] := by simp [List.getD, show k < rs'.length by omega]
  rw [e1, e2]
  exact h1
theorem RowIn.keep {x y : World} {B : Nat} {r : RRow} (h : RowIn x B r) (hB : B ≤ x.heap.size) (hb : Below x.heap.size x y) : RowIn y B r := ⟨h.1.low hB (Nat.le_refl _) hb, h.2⟩
theorem RowIn.more {x : World} {B B' : Nat} {r : RRow} (h : RowIn x B r) (hB : B ≤ B') : RowIn x B' r := ⟨h.1.more hB, h.2⟩
end Go.Proofs.YtfnlddloalineaaGreatDoor
