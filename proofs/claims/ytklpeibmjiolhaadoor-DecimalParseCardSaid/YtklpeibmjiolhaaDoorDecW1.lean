/-
  Walks of the parts of decimal.round.
-/
import Derived.Test.YtklpeibmjiolhaaDoorStr
import Derived.Test.YtklpeibmjiolhaaDoorDecPlain
import Derived.WalkKit
import Derived.WalkSpells
import Derived.WalkLawsBesides
import Derived.Deep.QuietTactic
import Derived.Deep.RegionHeld3
import Derived.BigQuiet
import Derived.RegionTactic
import Derived.Laws.EntriesVeiled
import Derived.Outline
import Derived.Lib.Hide
namespace Go.Proofs.YtklpeibmjiolhaaDoor
open Go.RowKit
set_option linter.unusedVariables false
theorem size_any (n : Int) (w : World) (h1 : -1000000000000000000 ≤ n) (h2 : n ≤ 1000000000000000000) : Calls Tryd.prog 35 #[.int .i64 n] w fun e w' => e = .returned (.int .i64 (absI n)) ∧ w = w' := by
  unfold absI
  by_cases h : n < 0
  · go_enter Tryd.func35, Tryd.ntmps35
    go_wp2
    go_ret
    exact ⟨ret_int (by first | rfl | omega), rfl⟩
  · have h' : 0 ≤ n := by omega
    rw [if_neg h]
    clear h
    go_enter Tryd.func35, Tryd.ntmps35
    go_wp2
    go_ret
    exact ⟨ret_int (by first | rfl | omega), rfl⟩
set_option maxHeartbeats 1000000 in
theorem rounded_any (q r d : Int) (neg m : Bool) (w : World) (h1 : 0 ≤ q) (h2 : q ≤ 1000000000000000000) :
    Calls Tryd.prog 47 #[.agg #[.int .i64 q, .int .i64 r, .int .i64 d, .bool neg], .bool m] w fun e w' => e = .returned (.int .i64 (rounded q r neg m)) ∧ Below w.heap.size w w' := by
  unfold rounded
  by_cases hr : 0 < r
  · cases neg <;> cases m
    all_goals
      go_enter Tryd.func47, Tryd.ntmps47
      go_wp2
      go_ret
      exact ⟨ret_int (by simp), (Below.refl _ _).alloc (Nat.le_refl _) _⟩
  · have hd : decide (0 < r) = false := by simpa using hr
    clear hr
    cases neg <;> cases m
    all_goals
      go_enter Tryd.func47, Tryd.ntmps47
      go_wp2
      go_ret
      exact ⟨ret_int (by simp), (Below.refl _ _).alloc (Nat.le_refl _) _⟩
set_option maxHeartbeats 1000000 in
theorem newQuotient_any (num den : Int) (w : World) (h1 : -1000000000000000000 ≤ num) (h2 : num ≤ 1000000000000000000) (h3 : -1000000000000000000 ≤ den) (h4 : den ≤ 1000000000000000000) (h5 : den ≠ 0) :
    Calls Tryd.prog 46 #[.int .i64 num, .int .i64 den] w fun e w' =>
      e = .returned (.agg #[.int .i64 (qu num den), .int .i64 (re num den), .int .i64 (absI den), .bool (ngB num den)]) ∧ Below w.heap.size w w' := by
  obtain ⟨a1, a2⟩ := absI_bd (n := num) ⟨h1, h2⟩
  obtain ⟨b1, b2⟩ := absI_bd (n := den) ⟨h3, h4⟩
  have b3 := absI_pos h5
  obtain ⟨q1, q2, q3, q4, q5⟩ := qr_bd (num := num) h5
  have Q := Lib.hid (show absI num / absI den = qu num den from rfl)
  have R := Lib.hid (show absI num % absI den = re num den from rfl)
  have NG := Lib.hid (show (decide (num < 0) != decide (den < 0)) = ngB num den from rfl)
  have hz : (absI den == 0) = false := by rw [beq_eq_false_iff_ne]; omega
  clear h5
  go_enter Tryd.func46, Tryd.ntmps46
  go_wp2_with (go_at_call 35; refine (size_any _ _ (by omega) (by omega)).mono ?_; rintro e w' ⟨rfl, rfl⟩)
  go_region
  go_wp2
  exact bodyPost_ret (v := .agg #[.int .i64 (absI num / absI den), .int .i64 (absI num % absI den), .int .i64 (absI den), .bool (!decide (num < 0) == decide (den < 0))]) (by simp [results, Tryd.results46, go_sem]) rfl
    ⟨by rw [Q.out, R.out]; exact congrArg (fun b => Ending.returned (.agg #[.int .i64 (qu num den), .int .i64 (re num den), .int .i64 (absI den), .bool b])) NG.out, ((Below.refl _ _).alloc (Nat.le_refl _) _).drew⟩
def halfV (r d : Int) : Int := if 2 * r < d then -1 else if d < 2 * r then 1 else 0
theorem half_any (q r d : Int) (neg : Bool) (w : World) (h1 : 0 ≤ r) (h2 : r < d) (h3 : d ≤ 1000000000000000000) :
    Calls Tryd.prog 67 #[.agg #[.int .i64 q, .int .i64 r, .int .i64 d, .bool neg]] w fun e w' => e = .returned (.int .i64 (halfV r d)) ∧ Below w.heap.size w w' := by
  unfold halfV
  by_cases ha : 2 * r < d
  · rw [if_pos ha]
    have ha' : r - (d - r) < 0 := by omega
    clear ha
    go_enter Tryd.func67, Tryd.ntmps67
    go_wp2
    go_ret
    exact ⟨rfl, (Below.refl _ _).alloc (Nat.le_refl _) _⟩
  · rw [if_neg ha]
    have ha' : decide (r - (d - r) < 0) = false := by rw [decide_eq_false_iff_not]; omega
    by_cases hb : d < 2 * r
    · rw [if_pos hb]
      have hb' : d - r < r := by omega
      clear ha hb
      go_enter Tryd.func67, Tryd.ntmps67
      go_wp2
      go_ret
      exact ⟨rfl, (Below.refl _ _).alloc (Nat.le_refl _) _⟩
    · rw [if_neg hb]
      have hb' : decide (d - r < r) = false := by rw [decide_eq_false_iff_not]; omega
      clear ha hb
      go_enter Tryd.func67, Tryd.ntmps67
      go_wp2
      go_ret
      exact ⟨rfl, (Below.refl _ _).alloc (Nat.le_refl _) _⟩
/-! the six functions -/
theorem m0_any (q r d : Int) (neg : Bool) (w : World) (h1 : 0 ≤ r) (h2 : r < d) (h3 : d ≤ 1000000000000000000) :
    Calls Tryd.prog 66 #[.agg #[.int .i64 q, .int .i64 r, .int .i64 d, .bool neg]] w fun e w' => e = .returned (.bool (more 0 neg q r d)) ∧ Below w.heap.size w w' := by
  have e : more 0 neg q r d = decide (0 ≤ halfV r d) := by
    unfold more halfV; simp only [if_true]; rw [decide_eq_decide]; split <;> (try split) <;> omega
  rw [e]
  clear e
  go_enter Tryd.func66, Tryd.ntmps66
  go_wp2_with fail
  refine (half_any _ _ _ _ _ h1 h2 h3).mono ?_
  rintro e w1 ⟨rfl, hb⟩
  go_wp2_with fail
  go_ret
  exact ⟨rfl, ((Below.refl _ _).alloc (Nat.le_refl _) _).trans (hb.mono (by simp))⟩
theorem m2_any (v : Value) (w : World) (q r d : Int) (neg : Bool) (hv : v = .agg #[.int .i64 q, .int .i64 r, .int .i64 d, .bool neg]) : Calls Tryd.prog 69 #[v] w fun e w' => e = .returned (.bool (more 2 neg q r d)) ∧ Below w.heap.size w w' := by
  subst hv
  go_enter Tryd.func69, Tryd.ntmps69
  go_wp2
  go_ret
  exact ⟨rfl, (Below.refl _ _).alloc (Nat.le_refl _) _⟩
theorem m3_any (v : Value) (w : World) (q r d : Int) (neg : Bool) (hv : v = .agg #[.int .i64 q, .int .i64 r, .int .i64 d, .bool neg]) : Calls Tryd.prog 70 #[v] w fun e w' => e = .returned (.bool (more 3 neg q r d)) ∧ Below w.heap.size w w' := by
  subst hv
  go_enter Tryd.func70, Tryd.ntmps70
  go_wp2
  go_ret
  exact ⟨rfl, (Below.refl _ _).alloc (Nat.le_refl _) _⟩
theorem m4_any (v : Value) (w : World) (q r d : Int) (neg : Bool) (hv : v = .agg #[.int .i64 q, .int .i64 r, .int .i64 d, .bool neg]) : Calls Tryd.prog 71 #[v] w fun e w' => e = .returned (.bool (more 4 neg q r d)) ∧ Below w.heap.size w w' := by
  subst hv
  go_enter Tryd.func71, Tryd.ntmps71
  go_wp2
  go_ret
  exact ⟨rfl, (Below.refl _ _).alloc (Nat.le_refl _) _⟩
theorem m5_any (v : Value) (w : World) (q r d : Int) (neg : Bool) (hv : v = .agg #[.int .i64 q, .int .i64 r, .int .i64 d, .bool neg]) : Calls Tryd.prog 72 #[v] w fun e w' => e = .returned (.bool (more 5 neg q r d)) ∧ Below w.heap.size w w' := by
  subst hv
  go_enter Tryd.func72, Tryd.ntmps72
  go_wp2
  go_ret
  exact ⟨rfl, (Below.refl _ _).alloc (Nat.le_refl _) _⟩
theorem modes_any (w : World) : Calls Tryd.prog 48 #[] w fun e w' =>
    e = .returned (.agg #[.func (.func 66) #[] #[], .func (.func 68) #[] #[], .func (.func 69) #[] #[], .func (.func 70) #[] #[], .func (.func 71) #[] #[], .func (.func 72) #[] #[]]) ∧ Below w.heap.size w w' := by
  go_enter Tryd.func48, Tryd.ntmps48
  go_wp2
  exact bodyPost_ret (v := .agg #[.func (.func 66) #[] #[], .func (.func 68) #[] #[], .func (.func 69) #[] #[], .func (.func 70) #[] #[], .func (.func 71) #[] #[], .func (.func 72) #[] #[]]) (by simp [results, Tryd.results48, go_sem]) rfl
    ⟨rfl, (Below.refl _ _).alloc (Nat.le_refl _) _⟩
theorem below_new (w : World) (o : Obj) : Below w.heap.size w (w.alloc o) := (Below.refl _ _).alloc (Nat.le_refl _) _
theorem m1_any (q r d : Int) (neg : Bool) (w : World) (h0 : 0 ≤ q) (h0' : q ≤ 1000000000000000000) (h1 : 0 ≤ r) (h2 : r < d) (h3 : d ≤ 1000000000000000000) :
    Calls Tryd.prog 68 #[.agg #[.int .i64 q, .int .i64 r, .int .i64 d, .bool neg]] w fun e w' => e = .returned (.bool (more 1 neg q r d)) ∧ Below w.heap.size w w' := by
  have e : more 1 neg q r d = (decide (d < 2 * r) || (decide (2 * r = d) && decide (q % 2 = 1))) := by unfold more; rfl
  rw [e]
  clear e
  by_cases ha : d < 2 * r
  · have hv : halfV r d = 1 := by unfold halfV; rw [if_neg (by omega), if_pos ha]
    rw [decide_eq_true ha, Bool.true_or]
    clear ha
    go_enter Tryd.func68, Tryd.ntmps68
    go_wp2_with fail
    refine (half_any _ _ _ _ _ h1 h2 h3).mono ?_
    rintro e w1 ⟨rfl, hb⟩
    rw [hv]
    go_wp2_with fail
    go_ret
    exact ⟨rfl, ((Below.refl _ _).alloc (Nat.le_refl _) _).trans (hb.mono (by simp))⟩
  · rw [decide_eq_false ha, Bool.false_or]
    by_cases hb : 2 * r = d
    · have hv : halfV r d = 0 := by unfold halfV; rw [if_neg (by omega), if_neg ha]
      rw [decide_eq_true hb, Bool.true_and]
      have Hq := Lib.hid (show (q % 2 == 1) = decide (q % 2 = 1) from rfl)
      clear ha hb
      go_enter Tryd.func68, Tryd.ntmps68
      go_wp2_with fail
      refine (half_any _ _ _ _ _ h1 h2 h3).mono ?_
      rintro e w1 ⟨rfl, hb⟩
      rw [hv]
      obtain ⟨hc, hf⟩ := bcell hb
      have hsz : w.heap.size < w1.heap.size := by have := hb.size; simp at this; omega
      go_wp2_with fail
      refine (half_any _ _ _ _ _ h1 h2 h3).mono ?_
      rintro e w2 ⟨rfl, hb2⟩
      rw [hv]
      have hc2 : ∀ o, w2.cell? ⟨w.heap.size, o, none⟩ = w1.cell? ⟨w.heap.size, o, none⟩ := fun o => hb2.cell hsz
      go_wp2_with fail
      go_ret
      exact ⟨ret_bool Hq.out, (((Below.refl _ _).alloc (Nat.le_refl _) _).trans (hb.mono (by simp))).trans (hb2.mono (by omega))⟩
    · have hv : halfV r d = -1 := by unfold halfV; rw [if_pos (by omega)]
      rw [decide_eq_false hb, Bool.false_and]
      clear ha hb
      go_enter Tryd.func68, Tryd.ntmps68
      go_wp2_with fail
      refine (half_any _ _ _ _ _ h1 h2 h3).mono ?_
      rintro e w1 ⟨rfl, hb⟩
      rw [hv]
      obtain ⟨hc, hf⟩ := bcell hb
      have hsz : w.heap.size < w1.heap.size := by have := hb.size; simp at this; omega
      go_wp2_with fail
      refine (half_any _ _ _ _ _ h1 h2 h3).mono ?_
      rintro e w2 ⟨rfl, hb2⟩
      rw [hv]
      go_wp2_with fail
      go_ret
      exact ⟨rfl, (((Below.refl _ _).alloc (Nat.le_refl _) _).trans (hb.mono (by simp))).trans (hb2.mono (by omega))⟩
end Go.Proofs.YtklpeibmjiolhaaDoor
