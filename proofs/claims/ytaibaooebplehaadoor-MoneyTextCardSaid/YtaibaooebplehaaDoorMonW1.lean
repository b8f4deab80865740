/-
  Walks of money.product.
-/
import Derived.Test.YtaibaooebplehaaDoorProg
import Derived.Test.YtaibaooebplehaaDoorMonPlain
import Derived.WalkKit
import Derived.WalkSpells
import Derived.WalkLawsBesides
import Derived.Deep.QuietTactic
import Derived.BigQuiet
import Derived.Outline
import Derived.Lib.Hide
namespace Go.Proofs.YtaibaooebplehaaDoor
open Go.RowKit
set_option linter.unusedVariables false
/-- what the product comes to, by its two ways -/
theorem prod_over (a num den : Int) (ha : 0 ≤ a) (hd : 1 ≤ den) (hw : 0 < num / den) (h : 1000000000000 / (num / den) < a) :
    1000000000000 < (2 * a * num + den) / (2 * den) := big a num den ha hd (gt_of_div a _ hw h)
theorem chk_big {v : Int} (h : 1000000000000 < v ∨ v < -1000000000000) : chk1 v = 0 ∧ chk2 v = 2 := by
  unfold chk1 chk2; rw [okAmt_no (by omega)]; simp
theorem chk_ok {v : Int} (h : -1000000000000 ≤ v ∧ v ≤ 1000000000000) : chk1 v = v ∧ chk2 v = 0 := by
  unfold chk1 chk2; rw [okAmt_yes h]; simp
theorem rnd_neg' {n num den : Int} (h : n < 0) : rnd n num den = -((2 * (-n) * num + den) / (2 * den)) := by unfold rnd; rw [if_pos h]
theorem rnd_pos' {n num den : Int} (h : 0 ≤ n) : rnd n num den = (2 * n * num + den) / (2 * den) := by unfold rnd; rw [if_neg (by omega)]
theorem pair_int {a b c d : Int} (h : a = b) (h' : c = d) : Ending.returned (.tuple #[.int .i64 a, .int .i64 c]) = .returned (.tuple #[.int .i64 b, .int .i64 d]) := by rw [h, h']
theorem checked_any (v : Int) (w : World) : Calls Tryd.prog 27 #[.int .i64 v] w fun e w' => e = .returned (.tuple #[.int .i64 (chk1 v), .int .i64 (chk2 v)]) ∧ w = w' := by
  by_cases h : -1000000000000 ≤ v ∧ v ≤ 1000000000000
  · obtain ⟨e1, e2⟩ := chk_ok h
    rw [e1, e2]
    clear e1 e2
    obtain ⟨h1, h2⟩ := h
    go_enter Tryd.func27, Tryd.ntmps27
    go_wp2
    go_ret2
    exact ⟨rfl, rfl⟩
  · obtain ⟨e1, e2⟩ := chk_big (v := v) (by omega)
    rw [e1, e2]
    clear e1 e2
    by_cases h1 : v < -1000000000000
    · clear h
      go_enter Tryd.func27, Tryd.ntmps27
      go_wp2
      go_ret2
      exact ⟨rfl, rfl⟩
    · have h2 : decide (v ≤ 1000000000000) = false := by simp; omega
      have h3 : -1000000000000 ≤ v := by omega
      clear h h1
      go_enter Tryd.func27, Tryd.ntmps27
      go_wp2
      go_ret2
      exact ⟨rfl, rfl⟩
set_option maxHeartbeats 1000000 in
theorem product_any (n num den : Int) (w : World) (h1 : -1000000000000 ≤ n) (h2 : n ≤ 1000000000000) (h3 : 0 ≤ num) (h4 : num ≤ 1000000000000) (h5 : 1 ≤ den) (h6 : den ≤ 1000000) :
    Calls Tryd.prog 26 #[.int .i64 n, .int .i64 num, .int .i64 den] w fun e w' =>
      e = .returned (.tuple #[.int .i64 (chk1 (rnd n num den)), .int .i64 (chk2 (rnd n num den))]) ∧ ∃ k, w' = w.drewN k := by
  by_cases hn : n < 0
  · obtain ⟨t1, t2, t3, t4, t5, t6, t7, t8, t9, _, _⟩ := terms (-n) num den (by omega) (by omega) h3 h5 h6
    have hs := mul_split (-n) num den h5
    by_cases hw : 0 < num / den
    · by_cases hb : 1000000000000 / (num / den) < (-n)
      · have hfin : chk1 (rnd n num den) = 0 ∧ chk2 (rnd n num den) = 2 := chk_big (by rw [rnd_neg' hn]; have := prod_over (-n) num den (by omega) h5 hw hb; omega)
        rw [hfin.1, hfin.2]
        clear hfin hs
        go_enter Tryd.func26, Tryd.ntmps26
        go_wp2
        go_quiet (fail)
        go_wp2
        go_ret2
        exact ⟨rfl, _, rfl⟩
      · have hb' := le_of_div (-n) (num / den) hw (by omega)
        have HS := Lib.hid hs
        clear hs
        go_enter Tryd.func26, Tryd.ntmps26
        go_wp2
        go_quiet (fail)
        go_wp2_with fail
        refine (checked_any _ _).mono ?_
        rintro e w' ⟨rfl, rfl⟩
        go_wp2
        go_ret2
        exact ⟨pair_int (by rw [rnd_neg' hn, HS.out]) (by rw [rnd_neg' hn, HS.out]), _, rfl⟩
    · have hw0 : num / den = 0 := by omega
      have HS : Hid ((2 * (-n) * num + den) / (2 * den) = (2 * (-n) * (num % den) + den) / (2 * den)) := by
        show _ = _
        rw [hs, hw0]; omega
      clear hs
      have hb0 : (-n) * (num / den) ≤ 0 := by rw [hw0]; simp
      have H0 := Lib.hid hw0
      clear hw0
      have hwd : decide (0 < num / den) = false := by simp; omega
      go_enter Tryd.func26, Tryd.ntmps26
      go_wp2
      go_quiet (fail)
      go_wp2_with fail
      refine (checked_any _ _).mono ?_
      rintro e w' ⟨rfl, rfl⟩
      go_wp2
      go_ret2
      exact ⟨pair_int (by rw [rnd_neg' hn, HS.out, H0.out, Int.mul_zero, Int.zero_add]) (by rw [rnd_neg' hn, HS.out, H0.out, Int.mul_zero, Int.zero_add]), _, rfl⟩
  · have hn' : 0 ≤ n := by omega
    clear hn
    obtain ⟨t1, t2, t3, t4, t5, t6, t7, t8, t9, _, _⟩ := terms n num den (by omega) (by omega) h3 h5 h6
    have hs := mul_split n num den h5
    by_cases hw : 0 < num / den
    · by_cases hb : 1000000000000 / (num / den) < n
      · have hfin : chk1 (rnd n num den) = 0 ∧ chk2 (rnd n num den) = 2 := chk_big (by rw [rnd_pos' (by omega)]; have := prod_over n num den (by omega) h5 hw hb; omega)
        rw [hfin.1, hfin.2]
        clear hfin hs
        go_enter Tryd.func26, Tryd.ntmps26
        go_wp2
        go_quiet (fail)
        go_wp2
        go_ret2
        exact ⟨rfl, _, rfl⟩
      · have hb' := le_of_div n (num / den) hw (by omega)
        have HS := Lib.hid hs
        clear hs
        go_enter Tryd.func26, Tryd.ntmps26
        go_wp2
        go_quiet (fail)
        go_wp2_with fail
        refine (checked_any _ _).mono ?_
        rintro e w' ⟨rfl, rfl⟩
        go_wp2
        go_ret2
        exact ⟨pair_int (by rw [rnd_pos' (by omega), HS.out]) (by rw [rnd_pos' (by omega), HS.out]), _, rfl⟩
    · have hw0 : num / den = 0 := by omega
      have HS : Hid ((2 * n * num + den) / (2 * den) = (2 * n * (num % den) + den) / (2 * den)) := by
        show _ = _
        rw [hs, hw0]; omega
      clear hs
      have hb0 : n * (num / den) ≤ 0 := by rw [hw0]; simp
      have H0 := Lib.hid hw0
      clear hw0
      have hwd : decide (0 < num / den) = false := by simp; omega
      go_enter Tryd.func26, Tryd.ntmps26
      go_wp2
      go_quiet (fail)
      go_wp2_with fail
      refine (checked_any _ _).mono ?_
      rintro e w' ⟨rfl, rfl⟩
      go_wp2
      go_ret2
      exact ⟨pair_int (by rw [rnd_pos' (by omega), HS.out, H0.out, Int.mul_zero, Int.zero_add]) (by rw [rnd_pos' (by omega), HS.out, H0.out, Int.mul_zero, Int.zero_add]), _, rfl⟩
end Go.Proofs.YtaibaooebplehaaDoor
