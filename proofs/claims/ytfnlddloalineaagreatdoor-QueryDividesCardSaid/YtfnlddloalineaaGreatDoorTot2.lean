/-
  Totals of answers: they are the sums of the amounts of the facts that are asked for (plain).
-/
import Derived.Test.YtfnlddloalineaaGreatDoorTot1
namespace Go.Proofs.YtfnlddloalineaaGreatDoor
set_option linter.unusedVariables false
set_option linter.unusedSimpArgs false
theorem sumV_putS : ∀ (l : List (K5 × Int)) (k : K5) (n : Int), sumV ((putS l k n).map (·.2)) = sumV (l.map (·.2)) + n := by
  intro l
  induction l with
  | nil => intro k n; show n + 0 = 0 + n; omega
  | cons p r ih =>
    intro k n
    rw [putS]
    split
    · show p.2 + sumV ((putS r k n).map (·.2)) = p.2 + sumV (r.map (·.2)) + n
      rw [ih]; omega
    · split
      · show n + (p.2 + sumV (r.map (·.2))) = p.2 + sumV (r.map (·.2)) + n
        omega
      · show p.2 + n + sumV (r.map (·.2)) = p.2 + sumV (r.map (·.2)) + n
        omega
/-- the amounts of the facts that are asked for -/
def amtQ (verb : Int) (p : SFact → Bool) (F : List SFact) : Int := sumV ((F.filter p).map (addF verb))
theorem amtQ_cons (verb : Int) (p : SFact → Bool) (f : SFact) (F : List SFact) : amtQ verb p (f :: F) = (if p f = true then addF verb f else 0) + amtQ verb p F := by
  unfold amtQ
  by_cases h : p f = true
  · rw [List.filter_cons_of_pos h, if_pos h]; rfl
  · rw [List.filter_cons_of_neg h, if_neg h]; omega
theorem amtQ_cong2 {verb : Int} {p p' : SFact → Bool} (h : ∀ f, p f = p' f) (F : List SFact) : amtQ verb p F = amtQ verb p' F := by
  have : p = p' := funext h
  rw [this]
theorem sum_fold (verb : Int) (byl : List Int) (p : SFact → Bool) : ∀ (F : List SFact) (l : List (K5 × Int)), sumV ((F.foldl (fun l f => if p f = true then putS l (keyF byl f) (addF verb f) else l) l).map (·.2)) = sumV (l.map (·.2)) + amtQ verb p F := by
  intro F
  induction F with
  | nil => intro l; show _ = _ + sumV []; show _ = _ + (0 : Int); rw [List.foldl_nil]; omega
  | cons f r ih =>
    intro l
    rw [List.foldl_cons, ih, amtQ_cons]
    by_cases h : p f = true
    · rw [if_pos h, if_pos h, sumV_putS]; omega
    · rw [if_neg h, if_neg h]; omega
theorem start_sum (byl : List Int) : sumV ((startR byl).map (·.2)) = 0 := by
  unfold startR
  split <;> rfl
theorem sum_sums (verb : Int) (byl : List Int) (p : SFact → Bool) (F : List SFact) : sumV ((sumsI verb byl p F).map (·.2)) = amtQ verb p F := by
  unfold sumsI
  rw [sum_fold, start_sum]; omega
theorem tot_ok {okb : Bool} {nb : Nat} {l : List (K5 × Int)} (h : okV okb nb l = true) : okb = true ∧ totV okb nb l = sumV (l.map (·.2)) := by
  unfold okV at h
  unfold totV
  unfold resV at h ⊢
  cases okb with
  | false => rw [if_pos rfl] at h; exact absurd h (by decide)
  | true =>
    rw [if_neg (by decide)] at h ⊢
    by_cases h2 : l.all (fun p => moneyB p.2) = true
    · rw [if_pos h2]
      refine ⟨rfl, ?_⟩
      rw [List.map_map]; rfl
    · rw [if_neg h2] at h; exact absurd h (by decide)
/-- the total of an answer without an error -/
theorem tot_amt {okb : Bool} {nb : Nat} {q : SQry} {F : List SFact} (h : okV okb nb (sumsQ q F) = true) : okb = true ∧ totV okb nb (sumsQ q F) = amtQ q.verb (predQ q.wh) F := by
  obtain ⟨h1, h2⟩ := tot_ok h
  refine ⟨h1, ?_⟩
  rw [h2]
  exact sum_sums _ _ _ _
/-- the amounts of all facts -/
def sumA (F : List SFact) : Int := sumV (F.map (·.amt))
theorem amt_all (verb : Int) (hv : verb = 0) (F : List SFact) : amtQ verb (predQ []) F = sumA F := by
  subst hv
  unfold amtQ sumA
  have e : List.filter (predQ []) F = F := List.filter_eq_self.2 (fun f _ => rfl)
  rw [e]
  rfl
theorem sumA_take {F : List SFact} {k : Nat} (hk : k < F.length) : sumA (F.take (k + 1)) = sumA (F.take k) + (F.getD k default).amt := by
  unfold sumA
  rw [List.take_succ_eq_append_getElem hk, List.map_append, sumV_app]
  simp [List.getD, hk, sumV]
theorem sumA_small {F : List SFact} (h : ∀ f ∈ F, okFct f) : ∀ k, k ≤ F.length → sumA (F.take k) ≤ k * 1125899906842624 ∧ -((k : Int) * 1125899906842624) ≤ sumA (F.take k) := by
  intro k
  induction k with
  | zero => intro _; rw [List.take_zero]; exact ⟨by show (0 : Int) ≤ _; simp, by show _ ≤ (0 : Int); simp⟩
  | succ k ih =>
    intro hk
    have h1 := ih (by omega)
    have hm : F.getD k default ∈ F := by
      have e : F.getD k default = F[k] := by simp [List.getD, show k < F.length by omega]
      rw [e]; exact List.getElem_mem _
    have h2 := (h _ hm).2.2.2.2.2
    unfold smallA at h2
    rw [sumA_take (by omega)]
    push_cast
    omega
end Go.Proofs.YtfnlddloalineaaGreatDoor
