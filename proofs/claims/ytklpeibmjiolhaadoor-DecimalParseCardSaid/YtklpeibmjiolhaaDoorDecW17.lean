/-
  The law DecimalText.
-/
import Derived.Test.YtklpeibmjiolhaaDoorDecW16
import Derived.Test.YtklpeibmjiolhaaDoorDecPz3
namespace Go.Proofs.YtklpeibmjiolhaaDoor
open Go.RowKit
set_option linter.unusedVariables false
set_option maxRecDepth 100000 in
set_option maxHeartbeats 4000000 in
theorem lawText (n s m : Int) (w : World) (hE : Env w) (m0 : 0 ≤ m) (m1 : m ≤ 255) :
    Calls Tryd.prog 10 #[.int .i64 n, .int .i64 s, .int .u8 m] w fun e w' => e = .returned (.bool true) ∧ Below w.heap.size w w' := by
  cases hd : okDec n s
  · have HD := Lib.hid hd
    have HT := Lib.hid (dt_bad hd)
    clear hd
    go_enter Tryd.func10, Tryd.ntmps10
    go_wp2_with fail
    refine (awake_true _ hE).mono ?_
    rintro e w1 ⟨rfl, hb1⟩
    have hE1 := hE.after hb1
    go_wp2_with fail
    refine (text_any _ _ _ hE1).mono ?_
    rintro e w2 ⟨rfl, hb2⟩
    rw [HT.out]
    go_wp2_with fail
    refine (valid_any _ _ _).mono ?_
    rintro e wx ⟨rfl, rfl⟩
    rw [HD.out]
    go_wp2_with fail
    refine (refValid_any _ _ _).mono ?_
    rintro e wx ⟨rfl, rfl⟩
    rw [HD.out]
    go_wp2_with fail
    refine (refText_any _ _ _).mono ?_
    rintro e w3 ⟨rfl, hb3⟩
    rw [HT.out]
    go_wp2_with fail
    refine (refValid_any _ _ _).mono ?_
    rintro e wx ⟨rfl, rfl⟩
    rw [HD.out]
    go_wp2_with fail
    go_ret
    exact ⟨rfl, below_two (below_two hb1 hb2) hb3⟩
  · have hP := fun (t : Int) (h1 : s ≤ t) (h2 : t ≤ 9) => parse_dt hd h1 h2
    have hlen := dt_len hd
    obtain ⟨⟨n1, n2⟩, s1, s2⟩ := okDec_iff.1 hd
    have hS : pzE (dt n s) s = 0 ∧ pzV (dt n s) s = n := by
      obtain ⟨e1, e2⟩ := hP s (by omega) s2
      have hno : okNo (n * pw (s - s)) = true := by rw [Int.sub_self, pw_zero, Int.mul_one]; exact okNo_iff.2 ⟨n1, n2⟩
      obtain ⟨g1, g2⟩ := rs_more (n := n) (f := s) (t := s) (m := 2) (by rw [show okSc s = true from okSc_iff.2 ⟨s1, s2⟩]; rfl) hd (by omega) hno
      rw [e1, e2, g1, g2, Int.sub_self, pw_zero, Int.mul_one]
      exact ⟨rfl, rfl⟩
    have HS := Lib.hid hS
    have HP := Lib.hid hP
    have HD := Lib.hid hd
    clear hd hP hS
    have HTX := Lib.hid (fun w (h : Env w) => text_any n s w h)
    have HRT := Lib.hid (fun w => refText_any n s w)
    generalize dt n s = T at *
    go_enter Tryd.func10, Tryd.ntmps10
    go_wp2_with fail
    refine (awake_true _ hE).mono ?_
    rintro e w1 ⟨rfl, hb1⟩
    have hE1 := hE.after hb1
    go_wp2_with fail
    refine (HTX.out _ hE1).mono ?_
    rintro e w2 ⟨rfl, hb2⟩
    have hE2 := hE1.after hb2
    go_wp2_with fail
    refine (valid_any _ _ _).mono ?_
    rintro e wx ⟨rfl, rfl⟩
    rw [HD.out]
    go_wp2_with fail
    refine (refValid_any _ _ _).mono ?_
    rintro e wx ⟨rfl, rfl⟩
    rw [HD.out]
    go_wp2_with fail
    refine (HRT.out _).mono ?_
    rintro e w3 ⟨rfl, hb3⟩
    have hE3 := hE2.after hb3
    have hB3 := below_two (below_two hb1 hb2) hb3
    clear hb1 hb2 hb3 hE1 hE2
    go_wp2_with fail
    refine (refValid_any _ _ _).mono ?_
    rintro e wx ⟨rfl, rfl⟩
    rw [HD.out]
    go_wp2_with fail
    refine (parse_any _ _ _ hE3 hlen).mono ?_
    rintro e w4 ⟨rfl, hb4⟩
    have hE4 := hE3.after hb4
    have hB4 := below_two hB3 hb4
    clear hB3 hb4 hE3
    rw [HS.out.1, HS.out.2]
    go_wp2_with fail
    refine (parse_any _ _ _ hE4 hlen).mono ?_
    rintro e w5 ⟨rfl, hb5⟩
    have hE5 := hE4.after hb5
    have hB5 := below_two hB4 hb5
    clear hB4 hb5 hE4
    go_wp2_with fail
    refine (refRescale_any _ _ _ _ _).mono ?_
    rintro e w6 ⟨rfl, hb6⟩
    have hB6 := below_two hB5 hb6
    clear hB5 hb6
    rw [(HP.out _ (by omega) (by omega)).1, (HP.out _ (by omega) (by omega)).2]
    generalize rsE n s _ 2 = E at *
    generalize rsV n s _ 2 = V at *
    go_wp2_with fail
    go_ret
    exact ⟨rfl, hB6⟩
end Go.Proofs.YtklpeibmjiolhaaDoor
