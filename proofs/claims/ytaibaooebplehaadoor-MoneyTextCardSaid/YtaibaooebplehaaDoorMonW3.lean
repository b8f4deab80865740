/-
  Walks of money.Convert, money.Portion, the references, and awake.
-/
import Derived.Test.YtaibaooebplehaaDoorMonW1
import Derived.Test.YtaibaooebplehaaDoorMonW2
namespace Go.Proofs.YtaibaooebplehaaDoor
open Go.RowKit
set_option linter.unusedVariables false
def prtOk (n num den : Int) : Bool := okAmt n && decide (0 ≤ num) && decide (num ≤ 1000000000000) && decide (1 ≤ den) && decide (den ≤ 1000000)
def prt1 (n num den : Int) : Int := if prtOk n num den then chk1 (rnd n num den) else 0
def prt2 (n num den : Int) : Int := if prtOk n num den then chk2 (rnd n num den) else 1
def cvtOk (n rate : Int) : Bool := okAmt n && decide (1 ≤ rate) && decide (rate ≤ 1000000000000)
def cvt1 (n rate : Int) : Int := if cvtOk n rate then chk1 (rnd n rate 1000000) else 0
def cvt2 (n rate : Int) : Int := if cvtOk n rate then chk2 (rnd n rate 1000000) else 1
theorem cvt_bad {n rate : Int} (h : okAmt n = false ∨ rate < 1 ∨ 1000000000000 < rate) : cvt1 n rate = 0 ∧ cvt2 n rate = 1 := by
  have : cvtOk n rate = false := by
    unfold cvtOk
    rcases h with h | h | h
    · simp [h]
    · rw [show decide (1 ≤ rate) = false from by simp; omega]; simp
    · rw [show decide (rate ≤ 1000000000000) = false from by simp; omega]; simp
  simp [cvt1, cvt2, this]
theorem cvt_good {n rate : Int} (h : okAmt n = true) (h1 : 1 ≤ rate) (h2 : rate ≤ 1000000000000) : cvt1 n rate = chk1 (rnd n rate 1000000) ∧ cvt2 n rate = chk2 (rnd n rate 1000000) := by
  have : cvtOk n rate = true := by unfold cvtOk; simp [h, h1, h2]
  simp [cvt1, cvt2, this]
theorem prt_bad {n num den : Int} (h : okAmt n = false ∨ num < 0 ∨ 1000000000000 < num ∨ den < 1 ∨ 1000000 < den) : prt1 n num den = 0 ∧ prt2 n num den = 1 := by
  have : prtOk n num den = false := by
    unfold prtOk
    rcases h with h | h | h | h | h
    · simp [h]
    · rw [show decide (0 ≤ num) = false from by simp; omega]; simp
    · rw [show decide (num ≤ 1000000000000) = false from by simp; omega]; simp
    · rw [show decide (1 ≤ den) = false from by simp; omega]; simp
    · rw [show decide (den ≤ 1000000) = false from by simp; omega]; simp
  simp [prt1, prt2, this]
theorem prt_good {n num den : Int} (h : okAmt n = true) (h1 : 0 ≤ num) (h2 : num ≤ 1000000000000) (h3 : 1 ≤ den) (h4 : den ≤ 1000000) : prt1 n num den = chk1 (rnd n num den) ∧ prt2 n num den = chk2 (rnd n num den) := by
  have : prtOk n num den = true := by unfold prtOk; simp [h, h1, h2, h3, h4]
  simp [prt1, prt2, this]
theorem moneyValid_any (n : Int) (w : World) : Calls Tryd.prog 14 #[.int .i64 n] w fun e w' => e = .returned (.bool (okAmt n)) ∧ w = w' := by
  by_cases h1 : -1000000000000 ≤ n
  · by_cases h2 : n ≤ 1000000000000
    · rw [okAmt_yes ⟨h1, h2⟩]; exact moneyValid_yes n w h1 h2
    · rw [okAmt_no (by omega)]
      have h3 : decide (n ≤ 1000000000000) = false := by simp; omega
      clear h2
      go_enter Tryd.func14, Tryd.ntmps14
      go_wp2
      go_ret
      exact ⟨rfl, rfl⟩
  · rw [okAmt_no (by omega)]
    have h3 : decide (-1000000000000 ≤ n) = false := by simp; omega
    clear h1
    go_enter Tryd.func14, Tryd.ntmps14
    go_wp2
    go_ret
    exact ⟨rfl, rfl⟩
theorem convert_any (n rate : Int) (w : World) :
    Calls Tryd.prog 12 #[.int .i64 n, .int .i64 rate] w fun e w' => e = .returned (.tuple #[.int .i64 (cvt1 n rate), .int .i64 (cvt2 n rate)]) ∧ ∃ k, w' = w.drewN k := by
  cases ho : okAmt n
  · obtain ⟨e1, e2⟩ := cvt_bad (n := n) (rate := rate) (.inl ho)
    rw [e1, e2]; clear e1 e2
    go_enter Tryd.func12, Tryd.ntmps12
    go_wp2_with (go_at_call 14; refine (moneyValid_any _ _).mono ?_; rintro e w' ⟨rfl, rfl⟩)
    go_ret2
    exact ⟨rfl, 0, rfl⟩
  · by_cases h1 : rate < 1
    · obtain ⟨e1, e2⟩ := cvt_bad (n := n) (rate := rate) (.inr (.inl h1))
      rw [e1, e2]; clear e1 e2
      go_enter Tryd.func12, Tryd.ntmps12
      go_wp2_with (go_at_call 14; refine (moneyValid_any _ _).mono ?_; rintro e w' ⟨rfl, rfl⟩)
      go_ret2
      exact ⟨rfl, 0, rfl⟩
    · have h1' : 1 ≤ rate := by omega
      have h1d : decide (rate < 1) = false := by simp; omega
      clear h1
      by_cases h2 : 1000000000000 < rate
      · obtain ⟨e1, e2⟩ := cvt_bad (n := n) (rate := rate) (.inr (.inr h2))
        rw [e1, e2]; clear e1 e2
        go_enter Tryd.func12, Tryd.ntmps12
        go_wp2_with (go_at_call 14; refine (moneyValid_any _ _).mono ?_; rintro e w' ⟨rfl, rfl⟩)
        go_ret2
        exact ⟨rfl, 0, rfl⟩
      · obtain ⟨e1, e2⟩ := cvt_good ho h1' (by omega)
        rw [e1, e2]; clear e1 e2
        have h2d : decide (1000000000000 < rate) = false := by simp; omega
        have h2' : rate ≤ 1000000000000 := by omega
        clear h2
        have hb := okAmt_iff.1 ho
        go_enter Tryd.func12, Tryd.ntmps12
        go_wp2_with (first | (go_at_call 14; refine (moneyValid_any _ _).mono ?_; rintro e w' ⟨rfl, rfl⟩) | (go_at_call 26; refine (product_any _ _ _ _ hb.1 hb.2 (by omega) h2' (by omega) (by omega)).mono ?_; rintro e w' ⟨rfl, k, rfl⟩))
        go_ret2
        exact ⟨rfl, _, rfl⟩
theorem awake_true (w : World) (hE : Env w) : Calls Tryd.prog 11 #[] w fun e w' => e = .returned (.bool true) ∧ Below w.heap.size w w' := by
  have e1 : cvt1 1050 1100000 = 1155 := by decide
  have e2 : cvt2 1050 1100000 = 0 := by decide
  have e3 : amtText (-5) = [45, 48, 46, 48, 53] := by decide +kernel
  go_enter Tryd.func11, Tryd.ntmps11
  go_wp2_with fail
  refine (convert_any _ _ _).mono ?_
  rintro e w' ⟨rfl, k, rfl⟩
  rw [e1, e2]
  have hE' : Env (w.drewN k) := hE.after (below_draws ⟨k, rfl⟩)
  clear e1 e2
  go_wp2_with fail
  refine (moneyText_any _ _ hE' (by omega) (by omega)).mono ?_
  rintro e w1 ⟨rfl, hb⟩
  rw [e3]
  clear e3
  go_wp2
  go_ret
  exact ⟨rfl, (below_draws ⟨k, rfl⟩).trans hb⟩
end Go.Proofs.YtaibaooebplehaaDoor
