/-
  Names, Name, Stage, Uses of the reference.
-/
import Derived.Test.YtophffmofpmbpaaDoorCel2
namespace Go.Proofs.YtophffmofpmbpaaDoor
open Go.RowKit
set_option linter.unusedVariables false
def nmVals : Array Value := #[.string ⟨#[101, 110, 116, 114, 105, 101, 115]⟩, .string ⟨#[114, 97, 116, 101, 115]⟩, .string ⟨#[104, 111, 108, 100, 105, 110, 103, 115]⟩, .string ⟨#[109, 97, 116, 99, 104, 101, 115]⟩, .string ⟨#[115, 116, 111, 99, 107, 115]⟩, .string ⟨#[114, 117, 108, 101, 115]⟩, .string ⟨#[105, 116, 101, 109, 115]⟩, .string ⟨#[115, 99, 111, 112, 101]⟩, .string ⟨#[115, 104, 97, 114, 101, 115]⟩, .string ⟨#[99, 111, 110, 116, 114, 105, 98, 117, 116, 105, 111, 110]⟩, .string ⟨#[114, 101, 115, 101, 114, 118, 101]⟩, .string ⟨#[100, 105, 115, 112, 111, 115, 97, 108]⟩, .string ⟨#[105, 110, 116, 101, 114, 99, 111]⟩, .string ⟨#[99, 97, 112, 105, 116, 97, 108]⟩, .string ⟨#[115, 116, 101, 112]⟩, .string ⟨#[109, 105, 110, 111, 114, 105, 116, 121]⟩, .string ⟨#[97, 115, 115, 111, 99, 105, 97, 116, 101]⟩, .string ⟨#[105, 110, 118, 101, 110, 116, 111, 114, 121]⟩, .string ⟨#[100, 105, 118, 105, 100, 101, 110, 100]⟩, .string ⟨#[101, 120, 101, 99, 117, 116, 101]⟩, .string ⟨#[116, 111, 116, 97, 108, 115]⟩, .string ⟨#[114, 101, 115, 117, 108, 116]⟩]
theorem nm_cell : ∀ k : Nat, 1 ≤ k → k ≤ 22 → nmVals[k - 1]? = some (.string ⟨(nmL.getD k []).toArray⟩) :=
  cases22 ⟨rfl, rfl, rfl, rfl, rfl, rfl, rfl, rfl, rfl, rfl, rfl, rfl, rfl, rfl, rfl, rfl, rfl, rfl, rfl, rfl, rfl, rfl⟩
set_option maxRecDepth 100000 in
theorem names_any (w : World) : Calls Tryd.prog 38 #[] w fun e w' => e = .returned (.slice (some ⟨w.heap.size, 0, none⟩) 22 22) ∧ w' = w.alloc (.cells nmVals 9) := by
  go_enter Tryd.func38, Tryd.ntmps38
  go_wp2_with fail
  go_ret
  exact ⟨rfl, rfl⟩
set_option maxRecDepth 100000 in
set_option maxHeartbeats 2000000 in
theorem refName_any (s : Int) (w : World) : Calls Tryd.prog 23 #[.int .i64 s] w fun e w' => e = .returned (.string ⟨(nmS s).toArray⟩) ∧ Below w.heap.size w w' := by
  cases h : known s
  · have F := Lib.hid (uses_no h).2.2.2
    rcases known_no.1 h with g | g
    · have g1 : decide (s < 1) = true := by rw [decide_eq_true_eq]; omega
      clear h
      go_enter Tryd.func23, Tryd.ntmps23
      go_wp2_with fail
      go_ret
      exact ⟨ret_str F.out.symm, Below.refl _ _⟩
    · have g1 : decide (s < 1) = false := by rw [decide_eq_false_iff_not]; omega
      have g2 : decide (22 < s) = true := by rw [decide_eq_true_eq]; omega
      clear h
      go_enter Tryd.func23, Tryd.ntmps23
      go_wp2_with fail
      go_ret
      exact ⟨ret_str F.out.symm, Below.refl _ _⟩
  · obtain ⟨k, rfl, h1, h2, _, _, _, e⟩ := uses_flags h
    obtain ⟨m, rfl⟩ : ∃ m, k = m + 1 := ⟨k - 1, by omega⟩
    have F := Lib.hid e
    have hc := nm_cell (m + 1) h1 h2
    rw [Nat.add_sub_cancel] at hc
    clear h e
    generalize nmL.getD (m + 1) [] = N at *
    have c1 : (w.alloc (.cells nmVals 9)).cell? ⟨w.heap.size, m, none⟩ = some (.string ⟨N.toArray⟩) := by
      rw [(Blk.new w 9 nmVals).cell m, hc]
    have hb0 := (Below.refl w.heap.size w).alloc (Nat.le_refl _) (.cells nmVals 9)
    have HB0 := Lib.hid hb0
    have g1 : decide (((m + 1 : Nat) : Int) < 1) = false := by rw [decide_eq_false_iff_not]; omega
    have g2 : decide (22 < ((m + 1 : Nat) : Int)) = false := by rw [decide_eq_false_iff_not]; omega
    have em : ((m + 1 : Nat) : Int) = (m : Int) + 1 := by omega
    rw [em] at g1 g2 F ⊢
    have g3 : (m : Int) < 22 := by omega
    have g4 : (0 : Int) ≤ (m : Int) := by omega
    clear hc hb0 em
    go_enter Tryd.func23, Tryd.ntmps23
    go_wp2_with fail
    refine (names_any w).mono ?_
    rintro e w1 ⟨rfl, hw1⟩
    rw [← hw1] at c1 HB0
    clear hw1
    go_wp2_with fail
    go_ret
    exact ⟨ret_str F.out.symm, HB0.out⟩
set_option maxRecDepth 100000 in
set_option maxHeartbeats 4000000 in
theorem refStage_any (l : List UInt8) (w : World) : Calls Tryd.prog 21 #[.string ⟨l.toArray⟩] w (StSays l w) := by
  go_enter Tryd.func21, Tryd.ntmps21
  go_wp2_with fail
  go_loopw [4] (fun i wr => ∃ k : Nat, 1 ≤ k ∧ k ≤ 23 ∧ i = .int .i64 k ∧ (∀ j, 1 ≤ j → j < k → nmL.getD j [] ≠ l) ∧ Below w.heap.size w wr) (fun i _ => 23 - (intOf i).toNat)
  case atStart => exact ⟨1, by omega, by omega, rfl, fun j h1 h2 => by omega, Below.refl _ _⟩
  case round =>
    obtain ⟨k, hk1, hk, rfl, hd, hbr⟩ := hrel
    obtain ⟨wo, rfl⟩ : ∃ wo : World, wo = wr := ⟨_, rfl⟩
    have HD := Lib.hid hd
    clear hd
    by_cases hlt : k < 23
    · have k3 : decide ((k : Int) ≤ 22) = true := by rw [decide_eq_true_eq]; omega
      have HYE : Hid (nmL.getD k [] = l → stOf l = k) := fun h => stOf_at hk1 (by omega) h
      have HNE : Hid (nmL.getD k [] ≠ l → ∀ j, 1 ≤ j → j < k + 1 → nmL.getD j [] ≠ l) := by
        show _ → _
        intro h j j1 j2
        by_cases hj : j = k
        · subst hj; exact h
        · exact HD.out j j1 (by omega)
      have HNM : Hid (nmS (k : Int) = nmL.getD k []) := by
        show _ = _
        have hk' : known (k : Int) = true := known_iff.2 ⟨by omega, by omega⟩
        unfold nmS; rw [hk']; rfl
      generalize nmL.getD k [] = N at *
      have HN := Lib.hid (refName_any (k : Int) wo)
      rw [HNM.out] at HN
      by_cases hN : N = l
      · have F := Lib.hid (HYE.out hN)
        subst hN
        have q1 : (N == N) = true := by simp
        clear HYE HNE
        go_wp2_with fail
        refine HN.out.mono ?_
        rintro e w1 ⟨rfl, hb⟩
        have HB := Lib.hid (below_two hbr hb)
        clear hb
        go_wp2_with fail
        go_ret2
        exact st_says F.out (by rw [decide_eq_true_eq]; exact hk1) HB.out
      · have F := Lib.hid (HNE.out hN)
        have q1 : (N == l) = false := by rw [beq_eq_false_iff_ne]; exact hN
        clear HYE HNE
        go_wp2_with fail
        refine HN.out.mono ?_
        rintro e w1 ⟨rfl, hb⟩
        have HB := Lib.hid (below_two hbr hb)
        clear hb
        go_wp2_with fail
        go_roundw
        case rel => exact ⟨k + 1, by omega, by omega, by go_num, F.out, HB.out⟩
        case measure => simp [intOf]; omega
    · have k3 : decide ((k : Int) ≤ 22) = false := by rw [decide_eq_false_iff_not]; omega
      have F := Lib.hid (stOf_no (l := l) (fun j j1 j2 => HD.out j j1 (by omega)))
      go_wp2_with fail
      go_ret2
      exact st_says0 F.out hbr
set_option maxRecDepth 100000 in
set_option maxHeartbeats 4000000 in
theorem refUses_known : ∀ k : Nat, 1 ≤ k → k ≤ 22 → ∀ w : World, Calls Tryd.prog 19 #[.int .i64 (k : Int)] w fun e w' => e = .returned (.tuple #[.bool (uE k), .bool (uO k), .bool (uP k)]) ∧ w = w' := by
  refine cases22 ?_
  refine ⟨?_, ?_, ?_, ?_, ?_, ?_, ?_, ?_, ?_, ?_, ?_, ?_, ?_, ?_, ?_, ?_, ?_, ?_, ?_, ?_, ?_, ?_⟩
  all_goals
    intro w
    go_enter Tryd.func19, Tryd.ntmps19
    go_wp2_with fail
    go_ret3
    exact ⟨rfl, rfl⟩
set_option maxRecDepth 100000 in
set_option maxHeartbeats 4000000 in
theorem refUses_any (s : Int) (w : World) : Calls Tryd.prog 19 #[.int .i64 s] w fun e w' => e = .returned (.tuple #[.bool (uE s), .bool (uO s), .bool (uP s)]) ∧ w = w' := by
  cases h : known s
  · have F := Lib.hid (uses_no h)
    have hs := known_no.1 h
    clear h
    have n1 : (s == 1) = false := by rw [beq_eq_false_iff_ne]; omega
    have n8 : (s == 8) = false := by rw [beq_eq_false_iff_ne]; omega
    have n5 : (s == 5) = false := by rw [beq_eq_false_iff_ne]; omega
    have n9 : (s == 9) = false := by rw [beq_eq_false_iff_ne]; omega
    have n13 : (s == 13) = false := by rw [beq_eq_false_iff_ne]; omega
    have n20 : (s == 20) = false := by rw [beq_eq_false_iff_ne]; omega
    have n21 : (s == 21) = false := by rw [beq_eq_false_iff_ne]; omega
    have n22 : (s == 22) = false := by rw [beq_eq_false_iff_ne]; omega
    have n7 : (s == 7) = false := by rw [beq_eq_false_iff_ne]; omega
    have n10 : (s == 10) = false := by rw [beq_eq_false_iff_ne]; omega
    have n11 : (s == 11) = false := by rw [beq_eq_false_iff_ne]; omega
    have n12 : (s == 12) = false := by rw [beq_eq_false_iff_ne]; omega
    have n14 : (s == 14) = false := by rw [beq_eq_false_iff_ne]; omega
    have n15 : (s == 15) = false := by rw [beq_eq_false_iff_ne]; omega
    have n16 : (s == 16) = false := by rw [beq_eq_false_iff_ne]; omega
    have n17 : (s == 17) = false := by rw [beq_eq_false_iff_ne]; omega
    have n18 : (s == 18) = false := by rw [beq_eq_false_iff_ne]; omega
    have n19 : (s == 19) = false := by rw [beq_eq_false_iff_ne]; omega
    clear hs
    go_enter Tryd.func19, Tryd.ntmps19
    go_wp2_with fail
    go_ret3
    exact ⟨bool3 F.out.1.symm F.out.2.1.symm F.out.2.2.1.symm, rfl⟩
  · obtain ⟨k, rfl, h1, h2⟩ := known_nat h
    exact refUses_known k h1 h2 w
end Go.Proofs.YtophffmofpmbpaaDoor
