/-
  Walks of the reference's Portion and Convert, of money.Portion, and of the laws MoneyConvert, MoneyPortion.
-/
import Derived.Test.YtaibaooebplehaaDoorMonW4
namespace Go.Proofs.YtaibaooebplehaaDoor
open Go.RowKit
set_option linter.unusedVariables false
theorem rnd_neg (n num den : Int) (h5 : 1 ≤ den) : rnd (-n) num den = -rnd n num den := by
  unfold rnd
  by_cases h : n < 0
  · rw [if_pos h, if_neg (by omega)]; simp
  · by_cases h0 : n = 0
    · subst h0; simp
      rw [Int.ediv_eq_zero_of_lt (by omega) (by omega)]; simp
    · rw [if_neg h, if_pos (by omega)]; simp
theorem chk1_neg (v : Int) : chk1 (-v) = -chk1 v := by
  unfold chk1; rw [okAmt_neg]; cases okAmt v <;> simp
theorem chk2_neg (v : Int) : chk2 (-v) = chk2 v := by unfold chk2; rw [okAmt_neg]
theorem chk1_bd (v : Int) : -1000000000000 ≤ chk1 v ∧ chk1 v ≤ 1000000000000 := by
  unfold chk1
  cases h : okAmt v
  · simp
  · simp; exact okAmt_iff.1 h
set_option maxHeartbeats 1000000 in
theorem refPortion_any (n num den : Int) (w : World) :
    Calls Tryd.prog 19 #[.int .i64 n, .int .i64 num, .int .i64 den] w fun e w' =>
      e = .returned (.tuple #[.int .i64 (prt1 n num den), .int .i64 (prt2 n num den)]) ∧ ∃ k, w' = w.drewN k := by
  cases ho : okAmt n
  · obtain ⟨e1, e2⟩ := prt_bad (n := n) (num := num) (den := den) (.inl ho)
    rw [e1, e2]; clear e1 e2
    go_enter Tryd.func19, Tryd.ntmps19
    go_wp2_with (go_at_call 15; refine (refValid_any _ _).mono ?_; rintro e w' ⟨rfl, rfl⟩)
    go_ret2
    exact ⟨rfl, 0, rfl⟩
  by_cases h3 : num < 0
  · obtain ⟨e1, e2⟩ := prt_bad (n := n) (num := num) (den := den) (.inr (.inl h3))
    rw [e1, e2]; clear e1 e2
    go_enter Tryd.func19, Tryd.ntmps19
    go_wp2_with (go_at_call 15; refine (refValid_any _ _).mono ?_; rintro e w' ⟨rfl, rfl⟩)
    go_ret2
    exact ⟨rfl, 0, rfl⟩
  have h3d : decide (num < 0) = false := by simp; omega
  have h3' : 0 ≤ num := by omega
  clear h3
  by_cases h4 : 1000000000000 < num
  · obtain ⟨e1, e2⟩ := prt_bad (n := n) (num := num) (den := den) (.inr (.inr (.inl h4)))
    rw [e1, e2]; clear e1 e2
    go_enter Tryd.func19, Tryd.ntmps19
    go_wp2_with (go_at_call 15; refine (refValid_any _ _).mono ?_; rintro e w' ⟨rfl, rfl⟩)
    go_ret2
    exact ⟨rfl, 0, rfl⟩
  have h4d : decide (1000000000000 < num) = false := by simp; omega
  have h4' : num ≤ 1000000000000 := by omega
  clear h4
  by_cases h5 : den < 1
  · obtain ⟨e1, e2⟩ := prt_bad (n := n) (num := num) (den := den) (.inr (.inr (.inr (.inl h5))))
    rw [e1, e2]; clear e1 e2
    go_enter Tryd.func19, Tryd.ntmps19
    go_wp2_with (go_at_call 15; refine (refValid_any _ _).mono ?_; rintro e w' ⟨rfl, rfl⟩)
    go_ret2
    exact ⟨rfl, 0, rfl⟩
  have h5d : decide (den < 1) = false := by simp; omega
  have h5' : 1 ≤ den := by omega
  clear h5
  by_cases h6 : 1000000 < den
  · obtain ⟨e1, e2⟩ := prt_bad (n := n) (num := num) (den := den) (.inr (.inr (.inr (.inr h6))))
    rw [e1, e2]; clear e1 e2
    go_enter Tryd.func19, Tryd.ntmps19
    go_wp2_with (go_at_call 15; refine (refValid_any _ _).mono ?_; rintro e w' ⟨rfl, rfl⟩)
    go_ret2
    exact ⟨rfl, 0, rfl⟩
  have h6d : decide (1000000 < den) = false := by simp; omega
  have h6' : den ≤ 1000000 := by omega
  clear h6
  have hb := okAmt_iff.1 ho
  obtain ⟨e1, e2⟩ := prt_good ho h3' h4' h5' h6'
  rw [e1, e2]; clear e1 e2
  by_cases hn : n < 0
  · have hfin : rnd n num den = -rnd (-n) num den := by rw [rnd_neg n num den h5']; simp
    have hbd := chk1_bd (rnd (-n) num den)
    rw [hfin, chk1_neg, chk2_neg]
    clear hfin
    go_enter Tryd.func19, Tryd.ntmps19
    go_wp2_with (go_at_call 15; refine (refValid_any _ _).mono ?_; rintro e w' ⟨rfl, rfl⟩)
    refine (refPortion_pos _ _ _ _ (by omega) (by omega) h3' h4' h5' h6').mono ?_
    rintro e w' ⟨rfl, k, rfl⟩
    go_wp2_with fail
    go_ret2
    exact ⟨rfl, _, rfl⟩
  · exact refPortion_pos n num den w (by omega) hb.2 h3' h4' h5' h6'
theorem cvt_prt {n rate : Int} (h1 : 1 ≤ rate) : cvt1 n rate = prt1 n rate 1000000 ∧ cvt2 n rate = prt2 n rate 1000000 := by
  have : cvtOk n rate = prtOk n rate 1000000 := by
    unfold cvtOk prtOk
    rw [show decide (1 ≤ rate) = true from by simp; omega, show decide (0 ≤ rate) = true from by simp; omega]
    simp
  unfold cvt1 cvt2 prt1 prt2; rw [this]; exact ⟨rfl, rfl⟩
theorem refConvert_any (n rate : Int) (w : World) :
    Calls Tryd.prog 13 #[.int .i64 n, .int .i64 rate] w fun e w' => e = .returned (.tuple #[.int .i64 (cvt1 n rate), .int .i64 (cvt2 n rate)]) ∧ ∃ k, w' = w.drewN k := by
  by_cases h1 : rate < 1
  · obtain ⟨e1, e2⟩ := cvt_bad (n := n) (rate := rate) (.inr (.inl h1))
    rw [e1, e2]; clear e1 e2
    go_enter Tryd.func13, Tryd.ntmps13
    go_wp2_with fail
    go_ret2
    exact ⟨rfl, 0, rfl⟩
  have h1d : decide (rate < 1) = false := by simp; omega
  have h1' : 1 ≤ rate := by omega
  clear h1
  by_cases h2 : 1000000000000 < rate
  · obtain ⟨e1, e2⟩ := cvt_bad (n := n) (rate := rate) (.inr (.inr h2))
    rw [e1, e2]; clear e1 e2
    go_enter Tryd.func13, Tryd.ntmps13
    go_wp2_with fail
    go_ret2
    exact ⟨rfl, 0, rfl⟩
  have h2d : decide (1000000000000 < rate) = false := by simp; omega
  clear h2
  obtain ⟨e1, e2⟩ := cvt_prt (n := n) h1'
  rw [e1, e2]; clear e1 e2
  go_enter Tryd.func13, Tryd.ntmps13
  go_wp2_with fail
  refine (refPortion_any _ _ _ _).mono ?_
  rintro e w' ⟨rfl, k, rfl⟩
  go_wp2_with fail
  go_ret2
  exact ⟨rfl, _, rfl⟩
set_option maxHeartbeats 1000000 in
theorem portion_any (n num den : Int) (w : World) :
    Calls Tryd.prog 18 #[.int .i64 n, .int .i64 num, .int .i64 den] w fun e w' =>
      e = .returned (.tuple #[.int .i64 (prt1 n num den), .int .i64 (prt2 n num den)]) ∧ ∃ k, w' = w.drewN k := by
  cases ho : okAmt n
  · obtain ⟨e1, e2⟩ := prt_bad (n := n) (num := num) (den := den) (.inl ho)
    rw [e1, e2]; clear e1 e2
    go_enter Tryd.func18, Tryd.ntmps18
    go_wp2_with (go_at_call 14; refine (moneyValid_any _ _).mono ?_; rintro e w' ⟨rfl, rfl⟩)
    go_ret2
    exact ⟨rfl, 0, rfl⟩
  by_cases h3 : num < 0
  · obtain ⟨e1, e2⟩ := prt_bad (n := n) (num := num) (den := den) (.inr (.inl h3))
    rw [e1, e2]; clear e1 e2
    go_enter Tryd.func18, Tryd.ntmps18
    go_wp2_with (go_at_call 14; refine (moneyValid_any _ _).mono ?_; rintro e w' ⟨rfl, rfl⟩)
    go_ret2
    exact ⟨rfl, 0, rfl⟩
  have h3d : decide (num < 0) = false := by simp; omega
  have h3' : 0 ≤ num := by omega
  clear h3
  by_cases h4 : 1000000000000 < num
  · obtain ⟨e1, e2⟩ := prt_bad (n := n) (num := num) (den := den) (.inr (.inr (.inl h4)))
    rw [e1, e2]; clear e1 e2
    go_enter Tryd.func18, Tryd.ntmps18
    go_wp2_with (go_at_call 14; refine (moneyValid_any _ _).mono ?_; rintro e w' ⟨rfl, rfl⟩)
    go_ret2
    exact ⟨rfl, 0, rfl⟩
  have h4d : decide (1000000000000 < num) = false := by simp; omega
  have h4' : num ≤ 1000000000000 := by omega
  clear h4
  by_cases h5 : den < 1
  · obtain ⟨e1, e2⟩ := prt_bad (n := n) (num := num) (den := den) (.inr (.inr (.inr (.inl h5))))
    rw [e1, e2]; clear e1 e2
    go_enter Tryd.func18, Tryd.ntmps18
    go_wp2_with (go_at_call 14; refine (moneyValid_any _ _).mono ?_; rintro e w' ⟨rfl, rfl⟩)
    go_ret2
    exact ⟨rfl, 0, rfl⟩
  have h5d : decide (den < 1) = false := by simp; omega
  have h5' : 1 ≤ den := by omega
  clear h5
  by_cases h6 : 1000000 < den
  · obtain ⟨e1, e2⟩ := prt_bad (n := n) (num := num) (den := den) (.inr (.inr (.inr (.inr h6))))
    rw [e1, e2]; clear e1 e2
    go_enter Tryd.func18, Tryd.ntmps18
    go_wp2_with (go_at_call 14; refine (moneyValid_any _ _).mono ?_; rintro e w' ⟨rfl, rfl⟩)
    go_ret2
    exact ⟨rfl, 0, rfl⟩
  have h6d : decide (1000000 < den) = false := by simp; omega
  have h6' : den ≤ 1000000 := by omega
  clear h6
  have hb := okAmt_iff.1 ho
  obtain ⟨e1, e2⟩ := prt_good ho h3' h4' h5' h6'
  rw [e1, e2]; clear e1 e2
  go_enter Tryd.func18, Tryd.ntmps18
  go_wp2_with (go_at_call 14; refine (moneyValid_any _ _).mono ?_; rintro e w' ⟨rfl, rfl⟩)
  refine (product_any _ _ _ _ hb.1 hb.2 h3' h4' h5' h6').mono ?_
  rintro e w' ⟨rfl, k, rfl⟩
  go_wp2_with fail
  go_ret2
  exact ⟨rfl, _, rfl⟩
/-! THE LAWS -/
theorem lawConvert (n rate : Int) (w : World) (hE : Env w) :
    Calls Tryd.prog 3 #[.int .i64 n, .int .i64 rate] w fun e w' => e = .returned (.bool true) ∧ Below w.heap.size w w' := by
  go_enter Tryd.func3, Tryd.ntmps3
  go_wp2_with fail
  refine (awake_true _ hE).mono ?_
  rintro e w1 ⟨rfl, hb⟩
  go_wp2_with fail
  refine (convert_any _ _ _).mono ?_
  rintro e w' ⟨rfl, k, rfl⟩
  go_wp2_with fail
  refine (refConvert_any _ _ _).mono ?_
  rintro e w' ⟨rfl, k', rfl⟩
  go_wp2_with fail
  go_ret
  exact ⟨rfl, by repeat (first | exact hb | apply below_drewN)⟩
theorem lawPortion (n num den : Int) (w : World) (hE : Env w) :
    Calls Tryd.prog 6 #[.int .i64 n, .int .i64 num, .int .i64 den] w fun e w' => e = .returned (.bool true) ∧ Below w.heap.size w w' := by
  go_enter Tryd.func6, Tryd.ntmps6
  go_wp2_with fail
  refine (awake_true _ hE).mono ?_
  rintro e w1 ⟨rfl, hb⟩
  go_wp2_with fail
  refine (portion_any _ _ _ _).mono ?_
  rintro e w' ⟨rfl, k, rfl⟩
  go_wp2_with fail
  refine (refPortion_any _ _ _ _).mono ?_
  rintro e w' ⟨rfl, k', rfl⟩
  go_wp2_with fail
  go_ret
  exact ⟨rfl, by repeat (first | exact hb | apply below_drewN)⟩
end Go.Proofs.YtaibaooebplehaaDoor
