/-
  Dates: Text of the reference.
-/
import Derived.Test.YtfnlddloalineaaGreatDoorDatW7
namespace Go.Proofs.YtfnlddloalineaaGreatDoor
open Go.RowKit
set_option linter.unusedVariables false
set_option maxRecDepth 100000 in
set_option maxHeartbeats 1600000 in
theorem refDtext_any (n : Int) (w : World) : Calls Tryz.prog 83 #[.int .i64 n] w fun e w' => e = .returned (.string ⟨(datT n).toArray⟩) ∧ Below w.heap.size w w' := by
  cases h : dateB n
  · have F := Lib.hid (datT_no h)
    have HC := Lib.hid (refCivil_no n w h)
    clear h
    go_enter Tryz.func83, Tryz.ntmps83
    go_wp2_with fail
    refine HC.out.mono ?_
    rintro e wx ⟨rfl, rfl⟩
    go_wp2_with fail
    go_ret
    exact ⟨by rw [F.out]; rfl, Below.refl _ _⟩
  · unfold dateB at h
    rw [Bool.and_eq_true, decide_eq_true_eq, decide_eq_true_eq] at h
    have HC := Lib.hid (refCivil_yes n w h.1 h.2)
    clear h
    go_enter Tryz.func83, Tryz.ntmps83
    go_wp2_with fail
    refine HC.out.mono ?_
    rintro e w1 ⟨y, m, d, rfl, hok, hn, hb⟩
    have HB1 := Lib.hid hb
    obtain ⟨⟨hy1, hy2⟩, ⟨hm1, hm2⟩, hd1, hd2⟩ := dayOk_in hok
    have HT : Hid (datT n = digK y 4 ++ [45] ++ digK m 2 ++ [45] ++ digK d 2) := by
      show _ = _
      rw [← hn, datT_of hok, digK_4 (by omega) (by omega), digK_2 (by omega) (by omega), digK_2 (by omega) (by omega)]
      rfl
    clear hb hn hok HC
    have HY : Hid (∀ w, Calls Tryz.prog 110 #[.int .i64 y, .int .i64 4] w fun e w' => e = .returned (.string ⟨(digK y 4).toArray⟩) ∧ Below w.heap.size w w') := fun w => digits_any 4 y w (by omega) (by omega) (by omega)
    have HM : Hid (∀ w, Calls Tryz.prog 110 #[.int .i64 m, .int .i64 2] w fun e w' => e = .returned (.string ⟨(digK m 2).toArray⟩) ∧ Below w.heap.size w w') := fun w => digits_any 2 m w (by omega) (by omega) (by omega)
    have HD : Hid (∀ w, Calls Tryz.prog 110 #[.int .i64 d, .int .i64 2] w fun e w' => e = .returned (.string ⟨(digK d 2).toArray⟩) ∧ Below w.heap.size w w') := fun w => digits_any 2 d w (by omega) (by omega) (by omega)
    have ly := digK_len y 4
    have lm := digK_len m 2
    have ld := digK_len d 2
    have ly' : (digK y 4).length ≤ 4 := by omega
    have lm' : (digK m 2).length ≤ 2 := by omega
    have ld' : (digK d 2).length ≤ 2 := by omega
    clear ly lm ld
    generalize digK y 4 = DY at *
    generalize digK m 2 = DM at *
    generalize digK d 2 = DD at *
    go_wp2_with fail
    refine (HY.out _).mono ?_
    rintro e w2 ⟨rfl, hb⟩
    have HB2 := Lib.hid (below_two HB1.out hb)
    clear hb
    go_wp2_with fail
    refine (HM.out _).mono ?_
    rintro e w3 ⟨rfl, hb⟩
    have HB3 := Lib.hid (below_two HB2.out hb)
    clear hb
    go_wp2_with fail
    refine (HD.out _).mono ?_
    rintro e w4 ⟨rfl, hb⟩
    have HB4 := Lib.hid (below_two HB3.out hb)
    clear hb
    go_wp2_with fail
    go_ret
    have e1 : (⟨DY.toArray⟩ ++ ⟨#[45]⟩ ++ ⟨DM.toArray⟩ ++ ⟨#[45]⟩ ++ ⟨DD.toArray⟩ : ByteArray) = ⟨(DY ++ [45] ++ DM ++ [45] ++ DD).toArray⟩ := by
      rw [show (⟨#[45]⟩ : ByteArray) = ⟨([45] : List UInt8).toArray⟩ from rfl, cat_mk, cat_mk, cat_mk, cat_mk]
    exact ⟨by rw [HT.out, ← e1]; rfl, HB4.out⟩
end Go.Proofs.YtfnlddloalineaaGreatDoor
