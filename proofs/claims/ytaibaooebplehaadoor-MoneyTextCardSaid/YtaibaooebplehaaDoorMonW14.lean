/-
  The laws MoneyText and MoneyParse.
-/
import Derived.Test.YtaibaooebplehaaDoorMonW13
namespace Go.Proofs.YtaibaooebplehaaDoor
open Go.RowKit
set_option linter.unusedVariables false
theorem amtText_len (n : Int) : (amtText n).length ≤ 30 := by
  cases ho : okAmt n
  · unfold amtText; rw [ho]; simp
  · have hb := okAmt_iff.1 ho
    by_cases hn : n < 0
    · obtain ⟨m, rfl⟩ : ∃ m : Nat, n = -(m : Int) := ⟨n.natAbs, by omega⟩
      rw [amtText_neg' m (by omega) (by omega)]
      have := (body_ok m (by omega)).2.2.2
      simp; omega
    · obtain ⟨m, rfl⟩ : ∃ m : Nat, n = (m : Int) := ⟨n.natAbs, by omega⟩
      rw [amtText_pos' m (by omega)]
      have := (body_ok m (by omega)).2.2.2
      omega
theorem parse_text {n : Int} (ho : okAmt n = true) : pz1 (amtText n) = n ∧ pz2 (amtText n) = 0 := by
  have hb := okAmt_iff.1 ho
  by_cases hn : n < 0
  · obtain ⟨m, rfl⟩ : ∃ m : Nat, n = -(m : Int) := ⟨n.natAbs, by omega⟩
    rw [amtText_neg' m (by omega) (by omega)]
    exact parse_neg m (by omega) (by omega)
  · obtain ⟨m, rfl⟩ : ∃ m : Nat, n = (m : Int) := ⟨n.natAbs, by omega⟩
    rw [amtText_pos' m (by omega)]
    exact parse_pos m (by omega)
set_option maxRecDepth 100000 in
theorem lawText (n : Int) (w : World) (hE : Env w) :
    Calls Tryd.prog 9 #[.int .i64 n] w fun e w' => e = .returned (.bool true) ∧ Below w.heap.size w w' := by
  have hl := amtText_len n
  cases ho : okAmt n
  · go_enter Tryd.func9, Tryd.ntmps9
    go_wp2_with fail
    refine (awake_true _ hE).mono ?_
    rintro e w1 ⟨rfl, hb1⟩
    go_wp2_with fail
    refine (moneyText_all _ _ (hE.after hb1)).mono ?_
    rintro e w2 ⟨rfl, hb2⟩
    have hb12 := below_two hb1 hb2
    go_wp2_with fail
    refine (refText_any _ _).mono ?_
    rintro e w3 ⟨rfl, hb3⟩
    have hb13 := below_two hb12 hb3
    go_wp2_with fail
    refine (moneyParse_any _ _ (hE.after hb13) (by omega)).mono ?_
    rintro e w4 ⟨rfl, hb4⟩
    have hb14 := below_two hb13 hb4
    go_wp2_with fail
    refine (refValid_any _ _).mono ?_
    rintro e w' ⟨rfl, rfl⟩
    go_wp2_with fail
    go_ret
    exact ⟨rfl, hb14⟩
  · obtain ⟨p1, p2⟩ := parse_text ho
    have P1 := Lib.hid p1
    have P2 := Lib.hid p2
    clear p1 p2
    go_enter Tryd.func9, Tryd.ntmps9
    go_wp2_with fail
    refine (awake_true _ hE).mono ?_
    rintro e w1 ⟨rfl, hb1⟩
    go_wp2_with fail
    refine (moneyText_all _ _ (hE.after hb1)).mono ?_
    rintro e w2 ⟨rfl, hb2⟩
    have hb12 := below_two hb1 hb2
    go_wp2_with fail
    refine (refText_any _ _).mono ?_
    rintro e w3 ⟨rfl, hb3⟩
    have hb13 := below_two hb12 hb3
    go_wp2_with fail
    refine (moneyParse_any _ _ (hE.after hb13) (by omega)).mono ?_
    rintro e w4 ⟨rfl, hb4⟩
    have hb14 := below_two hb13 hb4
    rw [P1.out, P2.out]
    go_wp2_with fail
    refine (refValid_any _ _).mono ?_
    rintro e w' ⟨rfl, rfl⟩
    go_wp2_with fail
    go_ret
    exact ⟨rfl, hb14⟩
set_option maxRecDepth 100000 in
theorem lawParse (s : ByteArray) (w : World) (hE : Env w) (hs : s.size ≤ 9223372036854775807) :
    Calls Tryd.prog 10 #[.string s] w fun e w' => e = .returned (.bool true) ∧ Below w.heap.size w w' := by
  obtain ⟨l, rfl⟩ : ∃ l : List UInt8, s = ⟨l.toArray⟩ := ⟨s.data.toList, rfl⟩
  rw [mk_size] at hs
  by_cases h200 : 200 < l.length
  · have hi : (200 : Int) < (l.length : Int) := by omega
    go_enter Tryd.func10, Tryd.ntmps10
    go_wp2_with fail
    refine (awake_true _ hE).mono ?_
    rintro e w1 ⟨rfl, hb1⟩
    go_wp2_with fail
    go_ret
    exact ⟨rfl, hb1⟩
  · have hi : decide ((200 : Int) < (l.length : Int)) = false := by rw [decide_eq_false_iff_not]; omega
    have hl : l.length ≤ 200 := by omega
    clear h200
    cases hz : (pz2 l == 0)
    · go_enter Tryd.func10, Tryd.ntmps10
      go_wp2_with fail
      refine (awake_true _ hE).mono ?_
      rintro e w1 ⟨rfl, hb1⟩
      go_wp2_with fail
      refine (moneyParse_any _ _ (hE.after hb1) hl).mono ?_
      rintro e w2 ⟨rfl, hb2⟩
      have hb12 := below_two hb1 hb2
      go_wp2_with fail
      refine (refParse_any _ _ hl).mono ?_
      rintro e w' ⟨rfl, k, rfl⟩
      have hne : (pz2 l != 0) = true := by rw [bne, hz]; rfl
      go_wp2_with fail
      go_ret
      exact ⟨rfl, below_drewN hb12 k⟩
    · have T := Lib.hid (text_parse (l := l) (by simpa using hz))
      have hne : (pz2 l != 0) = false := by rw [bne, hz]; rfl
      go_enter Tryd.func10, Tryd.ntmps10
      go_wp2_with fail
      refine (awake_true _ hE).mono ?_
      rintro e w1 ⟨rfl, hb1⟩
      go_wp2_with fail
      refine (moneyParse_any _ _ (hE.after hb1) hl).mono ?_
      rintro e w2 ⟨rfl, hb2⟩
      have hb12 := below_two hb1 hb2
      go_wp2_with fail
      refine (refParse_any _ _ hl).mono ?_
      rintro e w' ⟨rfl, k, rfl⟩
      have hE2 := hE.after (below_drewN hb12 k)
      go_wp2_with fail
      refine (moneyText_all _ _ hE2).mono ?_
      rintro e w3 ⟨rfl, hb3⟩
      have hb13 := below_two (below_drewN hb12 k) hb3
      rw [T.out]
      go_wp2_with fail
      go_ret
      exact ⟨rfl, hb13⟩
end Go.Proofs.YtaibaooebplehaaDoor
