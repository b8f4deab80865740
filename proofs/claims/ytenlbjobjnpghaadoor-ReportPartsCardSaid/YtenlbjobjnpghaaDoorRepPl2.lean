/-
  Figures of parts of a range; what has changed; sums under a row: plain laws.
-/
import Derived.Test.YtenlbjobjnpghaaDoorRepPl
import Derived.Test.YtenlbjobjnpghaaDoorStUn
namespace Go.Proofs.YtenlbjobjnpghaaDoor
set_option linter.unusedVariables false
theorem figL_cons (b : SBal) (bs : List SBal) (f t : Int) : figL (b :: bs) f t = (if f ≤ b.acct ∧ b.acct ≤ t then b.amt else 0) + figL bs f t := by simp [figL]
theorem figL_split {f m t : Int} (h1 : f ≤ m) (h2 : m < t) : ∀ bs : List SBal, figL bs f t = figL bs f m + figL bs (m + 1) t := by
  intro bs
  induction bs with
  | nil => simp [figL]
  | cons b bs ih =>
    rw [figL_cons, figL_cons, figL_cons, ih]
    by_cases a1 : f ≤ b.acct ∧ b.acct ≤ t
    · by_cases a2 : b.acct ≤ m
      · rw [if_pos a1, if_pos ⟨a1.1, a2⟩, if_neg (by omega)]; omega
      · rw [if_pos a1, if_neg (by omega), if_pos ⟨by omega, a1.2⟩]; omega
    · rw [if_neg a1, if_neg (by omega), if_neg (by omega)]; omega
theorem figL_zero {f t : Int} : ∀ {bs : List SBal}, (∀ b ∈ bs, ¬ (f ≤ b.acct ∧ b.acct ≤ t)) → figL bs f t = 0 := by
  intro bs
  induction bs with
  | nil => intro _; simp [figL]
  | cons b bs ih =>
    intro h
    rw [figL_cons, if_neg (h b (by simp)), ih (fun x hx => h x (by simp [hx]))]; rfl
/-- a total lies in the range of a row -/
def inR (r : SRow) (b : SBal) : Bool := decide (r.from_ ≤ b.acct) && decide (b.acct ≤ r.to_)
theorem amtR_zero {bs : List SBal} {r : SRow} (h : bs.any (inR r) = false) : amtR bs r = 0 := by
  have h0 : figL bs r.from_ r.to_ = 0 := figL_zero (by
    intro b hb hc
    have := List.any_eq_false.1 h b hb
    unfold inR at this
    rw [decide_eq_true hc.1, decide_eq_true hc.2] at this
    simp at this)
  unfold amtR
  rw [h0]
  split
  · rfl
  · split <;> rfl
/-- where the amounts of a row differ, one of the totals lies in its range -/
theorem changed_in {qs bs : List SBal} {r : SRow} (h : amtR qs r ≠ amtR bs r) : (qs ++ bs).any (inR r) = true := by
  cases h1 : (qs ++ bs).any (inR r)
  · exfalso
    rw [List.any_append, Bool.or_eq_false_iff] at h1
    exact h (by rw [amtR_zero h1.1, amtR_zero h1.2])
  · rfl
def chL (qs bs : List SBal) (rs : List SRow) : List Nat := (List.range rs.length).filter fun k => !(amtR qs (rs.getD k default) == amtR bs (rs.getD k default))
def chUp (qs bs : List SBal) (rs : List SRow) (m : Nat) : List Nat := (List.range m).filter fun k => !(amtR qs (rs.getD k default) == amtR bs (rs.getD k default))
theorem chUp_all (qs bs : List SBal) (rs : List SRow) : chUp qs bs rs rs.length = chL qs bs rs := rfl
theorem chUp_step (qs bs : List SBal) (rs : List SRow) (m : Nat) : chUp qs bs rs (m + 1) = chUp qs bs rs m ++ (if amtR qs (rs.getD m default) = amtR bs (rs.getD m default) then [] else [m]) := by
  unfold chUp
  rw [List.range_succ, List.filter_append]
  congr 1
  by_cases h : amtR qs (rs.getD m default) = amtR bs (rs.getD m default)
  · rw [if_pos h, List.filter_cons, if_neg (by rw [h]; simp)]; rfl
  · rw [if_neg h, List.filter_cons, if_pos (by rw [Bool.not_eq_true', beq_eq_false_iff_ne]; exact h)]; rfl
theorem chUp_le (qs bs : List SBal) (rs : List SRow) (m : Nat) : (chUp qs bs rs m).length ≤ m := by
  have := List.length_filter_le (fun k => !(amtR qs (rs.getD k default) == amtR bs (rs.getD k default))) (List.range m)
  rw [List.length_range] at this
  exact this
theorem chL_self (qs : List SBal) (rs : List SRow) : chL qs qs rs = [] := by
  unfold chL; rw [List.filter_eq_nil_iff]; intro k _; simp
theorem chL_at {qs bs : List SBal} {rs : List SRow} {k : Nat} (h : k < (chL qs bs rs).length) : (chL qs bs rs).getD k 0 < rs.length ∧ amtR qs (rs.getD ((chL qs bs rs).getD k 0) default) ≠ amtR bs (rs.getD ((chL qs bs rs).getD k 0) default) := by
  have hm : (chL qs bs rs).getD k 0 ∈ chL qs bs rs := by
    have : (chL qs bs rs).getD k 0 = (chL qs bs rs)[k] := by simp [List.getD, h]
    rw [this]; exact List.getElem_mem h
  generalize (chL qs bs rs).getD k 0 = q at hm ⊢
  unfold chL at hm
  obtain ⟨h1, h2⟩ := List.mem_filter.1 hm
  exact ⟨List.mem_range.1 h1, by simpa using h2⟩
def chE (qs bs : List SBal) (rs : List SRow) : Int := if mkE qs rs = 0 then mkE bs rs else mkE qs rs
def chO (qs bs : List SBal) (rs : List SRow) : List Nat := if chE qs bs rs = 0 then chL qs bs rs else []
theorem ch_a {qs bs : List SBal} {rs : List SRow} (h : (mkE qs rs == 0) = false) : chE qs bs rs = mkE qs rs ∧ chO qs bs rs = [] := by
  have h' : ¬ mkE qs rs = 0 := by simpa using h
  have : chE qs bs rs = mkE qs rs := by unfold chE; rw [if_neg h']
  exact ⟨this, by unfold chO; rw [this, if_neg h']⟩
theorem ch_b {qs bs : List SBal} {rs : List SRow} (h : (mkE qs rs == 0) = true) (h2 : (mkE bs rs == 0) = false) : chE qs bs rs = mkE bs rs ∧ chO qs bs rs = [] := by
  have h' : mkE qs rs = 0 := by simpa using h
  have h2' : ¬ mkE bs rs = 0 := by simpa using h2
  have : chE qs bs rs = mkE bs rs := by unfold chE; rw [if_pos h']
  exact ⟨this, by unfold chO; rw [this, if_neg h2']⟩
theorem ch_c {qs bs : List SBal} {rs : List SRow} (h : (mkE qs rs == 0) = true) (h2 : (mkE bs rs == 0) = true) : chE qs bs rs = 0 ∧ chO qs bs rs = chL qs bs rs := by
  have h' : mkE qs rs = 0 := by simpa using h
  have h2' : mkE bs rs = 0 := by simpa using h2
  have : chE qs bs rs = 0 := by unfold chE; rw [if_pos h', h2']
  exact ⟨this, by unfold chO; rw [this, if_pos rfl]⟩
theorem mkE_cases (bs : List SBal) (rs : List SRow) : mkE bs rs = 0 ∨ mkE bs rs = 1 ∨ mkE bs rs = 2 := by
  unfold mkE
  split
  · split
    · exact .inl rfl
    · exact .inr (.inr rfl)
  · exact .inr (.inl rfl)
theorem mk_ok {bs : List SBal} {rs : List SRow} (h : mkE bs rs = 0) : validR rs = true ∧ mkOk bs rs = true ∧ mkL bs rs = rs.map (lnR bs) := by
  unfold mkE at h
  cases h1 : validR rs
  · rw [h1] at h; simp at h
  · cases h2 : mkOk bs rs
    · rw [h1, h2] at h; simp at h
    · refine ⟨rfl, rfl, ?_⟩
      unfold mkL mkE
      rw [h1, h2]; rfl
theorem mkL_getD {bs : List SBal} {rs : List SRow} {k : Nat} (hk : k < rs.length) : ((rs.map (lnR bs)).getD k default).amt = amtR bs (rs.getD k default) := by
  simp [List.getD, hk, lnR]
/-! sums -/
def sumU (xs : List SLine) (q m : Nat) : Int := ((List.range m).map fun j => (xs.getD (q + 1 + j) default).amt).sum
theorem sumU_step (xs : List SLine) (q m : Nat) : sumU xs q (m + 1) = sumU xs q m + (xs.getD (q + 1 + m) default).amt := by
  unfold sumU; rw [List.range_succ, List.map_append, List.sum_append]; simp
theorem okAmts {xs : List SLine} (h : validL xs = true) {k : Nat} (hk : k < xs.length) : -1000000000000 ≤ (xs.getD k default).amt ∧ (xs.getD k default).amt ≤ 1000000000000 :=
  okAmt_iff.1 (okLn_iff.1 (validL_at h hk).2.2).1
theorem sumU_bd {xs : List SLine} (h : validL xs = true) (q : Nat) : ∀ m, q + 1 + m ≤ xs.length → -(1000000000000 * (m : Int)) ≤ sumU xs q m ∧ sumU xs q m ≤ 1000000000000 * (m : Int) := by
  intro m
  induction m with
  | zero => intro _; simp [sumU]
  | succ m ih =>
    intro hm
    have h1 := ih (by omega)
    have h2 := okAmts h (show q + 1 + m < xs.length by omega)
    rw [sumU_step]
    omega
def suE (xs : List SLine) (i : Int) : Int := if validL xs then (if unE (rowsOf xs) i = 0 then (if okAmt (sumU xs i.toNat (unN (rowsOf xs) i.toNat)) then 0 else 2) else unE (rowsOf xs) i) else 1
def suN (xs : List SLine) (i : Int) : Int := if suE xs i = 0 then sumU xs i.toNat (unN (rowsOf xs) i.toNat) else 0
theorem su_bad {xs : List SLine} {i : Int} (h : validL xs = false) : suE xs i = 1 ∧ suN xs i = 0 := by
  have : suE xs i = 1 := by unfold suE; rw [h]; rfl
  exact ⟨this, by unfold suN; rw [this]; rfl⟩
theorem su_out {xs : List SLine} {i : Int} (h : validL xs = true) (h2 : (unE (rowsOf xs) i == 0) = false) : suE xs i = unE (rowsOf xs) i ∧ suN xs i = 0 := by
  have h' : ¬ unE (rowsOf xs) i = 0 := by simpa using h2
  have : suE xs i = unE (rowsOf xs) i := by unfold suE; rw [if_pos h, if_neg h']
  exact ⟨this, by unfold suN; rw [this, if_neg h']⟩
theorem su_sum {xs : List SLine} {i : Int} (h : validL xs = true) (h2 : unE (rowsOf xs) i = 0) (b : Bool) (h3 : okAmt (sumU xs i.toNat (unN (rowsOf xs) i.toNat)) = b) : (b = false → suE xs i = 2 ∧ suN xs i = 0) ∧ (b = true → suE xs i = 0 ∧ suN xs i = sumU xs i.toNat (unN (rowsOf xs) i.toNat)) := by
  constructor
  · rintro rfl
    have : suE xs i = 2 := by unfold suE; rw [if_pos h, if_pos h2, h3]; rfl
    exact ⟨this, by unfold suN; rw [this]; rfl⟩
  · rintro rfl
    have : suE xs i = 0 := by unfold suE; rw [if_pos h, if_pos h2, h3]; rfl
    exact ⟨this, by unfold suN; rw [this, if_pos rfl]⟩
end Go.Proofs.YtenlbjobjnpghaaDoor
