/-
  money.Parse.
-/
import Derived.Test.YtaibaooebplehaaDoorMonW11
import Derived.Test.YtaibaooebplehaaDoorMonPz
namespace Go.Proofs.YtaibaooebplehaaDoor
open Go.RowKit
set_option linter.unusedVariables false
theorem cutPrefix_mk (l : List UInt8) (w : World) : Calls Tryd.prog 34 #[.string ⟨l.toArray⟩, .string ⟨#[45]⟩] w fun e w' => e = .returned (.tuple #[.string ⟨(mD l).toArray⟩, .bool (Lib.hasPrefix l [45])]) ∧ w = w' :=
  (Tryd.strings_CutPrefix ⟨l.toArray⟩ ⟨#[45]⟩ w).mono fun e w' ⟨he, hw⟩ => ⟨he, hw.symm⟩
theorem cut_mk (l : List UInt8) (w : World) (hE : Env w) (hl : l.length < 4294967281) : Calls Tryd.prog 35 #[.string ⟨(mD l).toArray⟩, .string ⟨#[46]⟩] w fun e w' => e = .returned (.tuple #[.string ⟨(mW l).toArray⟩, .string ⟨(mC l).toArray⟩, .bool (mF l)]) ∧ ∃ k, w' = w.drewN k := by
  obtain ⟨m, hm⟩ := hE.maxlen
  have hd : (mD l).length ≤ l.length := Lib.trimPrefix_le l [45]
  exact Tryd.strings_Cut ⟨(mD l).toArray⟩ ⟨#[46]⟩ m w (by rw [mk_size]; omega) hm
set_option maxRecDepth 100000 in
set_option maxHeartbeats 2000000 in
theorem moneyParse_bad (l : List UInt8) (w : World) (hE : Env w) (hl : l.length ≤ 200) (hbad : mOk l = false) :
    Calls Tryd.prog 24 #[.string ⟨l.toArray⟩] w fun e w' => e = .returned (.tuple #[.int .i64 0, .int .i64 3]) ∧ Below w.heap.size w w' := by
  have hWl : (mW l).length ≤ 200 := by have := (cut_lens l).1; omega
  have hCl : (mC l).length ≤ 200 := by have := (cut_lens l).2; omega
  unfold mOk at hbad
  cases hf : mF l
  · clear hbad
    go_enter Tryd.func24, Tryd.ntmps24
    go_wp2_with fail
    refine (cutPrefix_mk l _).mono ?_
    rintro e w' ⟨rfl, rfl⟩
    go_wp2_with fail
    refine (cut_mk l _ hE (by omega)).mono ?_
    rintro e w' ⟨rfl, k, rfl⟩
    go_wp2_with (go_at_call 36; refine (numeral_any _ _ (by omega)).mono ?_; rintro e w' ⟨rfl, rfl⟩)
    go_ret2
    exact ⟨rfl, below_drewN (Below.refl _ _) _⟩
  cases hw : isNum (mW l)
  · clear hbad
    go_enter Tryd.func24, Tryd.ntmps24
    go_wp2_with fail
    refine (cutPrefix_mk l _).mono ?_
    rintro e w' ⟨rfl, rfl⟩
    go_wp2_with fail
    refine (cut_mk l _ hE (by omega)).mono ?_
    rintro e w' ⟨rfl, k, rfl⟩
    go_wp2_with (go_at_call 36; refine (numeral_any _ _ (by omega)).mono ?_; rintro e w' ⟨rfl, rfl⟩)
    go_ret2
    exact ⟨rfl, below_drewN (Below.refl _ _) _⟩
  cases hc : isNum (mC l)
  · clear hbad
    go_enter Tryd.func24, Tryd.ntmps24
    go_wp2_with fail
    refine (cutPrefix_mk l _).mono ?_
    rintro e w' ⟨rfl, rfl⟩
    go_wp2_with fail
    refine (cut_mk l _ hE (by omega)).mono ?_
    rintro e w' ⟨rfl, k, rfl⟩
    go_wp2_with (go_at_call 36; refine (numeral_any _ _ (by omega)).mono ?_; rintro e w' ⟨rfl, rfl⟩)
    go_ret2
    exact ⟨rfl, below_drewN (Below.refl _ _) _⟩
  by_cases h2 : (mC l).length = 2
  · have h2d : (((mC l).length : Int) != 2) = false := by rw [bne_eq_false_iff_eq]; omega
    rw [hf, hw, hc, decide_eq_true h2] at hbad
    by_cases h1 : 1 < (mW l).length
    · have h1i : (1 : Int) < ((mW l).length : Int) := by omega
      have hsz : 0 < (⟨(mW l).toArray⟩ : ByteArray).size := by rw [mk_size]; omega
      have hg := mk_getD (mW l) 0 hsz
      by_cases h0 : (mW l).getD 0 0 = 48
      · have hb0 : (((⟨(mW l).toArray⟩ : ByteArray)[0].toNat : Int) == 48) = true := by rw [hg, h0]; rfl
        clear hbad hg h0 h2
        go_enter Tryd.func24, Tryd.ntmps24
        go_wp2_with fail
        refine (cutPrefix_mk l _).mono ?_
        rintro e w' ⟨rfl, rfl⟩
        go_wp2_with fail
        refine (cut_mk l _ hE (by omega)).mono ?_
        rintro e w' ⟨rfl, k, rfl⟩
        go_wp2_with (go_at_call 36; refine (numeral_any _ _ (by omega)).mono ?_; rintro e w' ⟨rfl, rfl⟩)
        go_ret2
        exact ⟨rfl, below_drewN (Below.refl _ _) _⟩
      · have hb0 : (((⟨(mW l).toArray⟩ : ByteArray)[0].toNat : Int) == 48) = false := by
          rw [hg, beq_eq_false_iff_ne]
          intro h
          exact h0 (UInt8.toNat_inj.1 (by rw [show (48 : UInt8).toNat = 48 from rfl]; omega))
        have hz : (l == [45, 48, 46, 48, 48]) = true := by
          rw [show ((mW l).getD 0 0 == 48) = false from by simpa using h0] at hbad
          simpa using hbad
        clear hbad hg h0 h2
        go_enter Tryd.func24, Tryd.ntmps24
        go_wp2_with fail
        refine (cutPrefix_mk l _).mono ?_
        rintro e w' ⟨rfl, rfl⟩
        go_wp2_with fail
        refine (cut_mk l _ hE (by omega)).mono ?_
        rintro e w' ⟨rfl, k, rfl⟩
        go_wp2_with (go_at_call 36; refine (numeral_any _ _ (by omega)).mono ?_; rintro e w' ⟨rfl, rfl⟩)
        go_ret2
        exact ⟨rfl, below_drewN (Below.refl _ _) _⟩
    · have h1d : decide ((1 : Int) < ((mW l).length : Int)) = false := by rw [decide_eq_false_iff_not]; omega
      have hz : (l == [45, 48, 46, 48, 48]) = true := by
        rw [show decide (1 < (mW l).length) = false from by rw [decide_eq_false_iff_not]; exact h1] at hbad
        simpa using hbad
      clear hbad h1 h2
      go_enter Tryd.func24, Tryd.ntmps24
      go_wp2_with fail
      refine (cutPrefix_mk l _).mono ?_
      rintro e w' ⟨rfl, rfl⟩
      go_wp2_with fail
      refine (cut_mk l _ hE (by omega)).mono ?_
      rintro e w' ⟨rfl, k, rfl⟩
      go_wp2_with (go_at_call 36; refine (numeral_any _ _ (by omega)).mono ?_; rintro e w' ⟨rfl, rfl⟩)
      go_ret2
      exact ⟨rfl, below_drewN (Below.refl _ _) _⟩
  · have h2d : (((mC l).length : Int) != 2) = true := by rw [bne_iff_ne]; omega
    clear hbad h2
    go_enter Tryd.func24, Tryd.ntmps24
    go_wp2_with fail
    refine (cutPrefix_mk l _).mono ?_
    rintro e w' ⟨rfl, rfl⟩
    go_wp2_with fail
    refine (cut_mk l _ hE (by omega)).mono ?_
    rintro e w' ⟨rfl, k, rfl⟩
    go_wp2_with (go_at_call 36; refine (numeral_any _ _ (by omega)).mono ?_; rintro e w' ⟨rfl, rfl⟩)
    go_ret2
    exact ⟨rfl, below_drewN (Below.refl _ _) _⟩
theorem atoi_mk (l : List UInt8) (w : World) (hn : isNum l = true) (hl : l.length ≤ 18) : Calls Tryd.prog 37 #[.string ⟨l.toArray⟩] w fun e w' => e = .returned (.tuple #[.int .i64 (decVal l), .nilIface]) ∧ Below w.heap.size w w' := by
  refine (Tryd.strconv_Atoi ⟨l.toArray⟩ (decVal l) (by rw [mk_size]; omega) (atoi_digits hn) w).mono ?_
  rintro e w' ⟨rfl, t, rfl⟩
  exact ⟨rfl, Lib.bytesWorld_below w _ t⟩
set_option maxRecDepth 100000 in
set_option maxHeartbeats 4000000 in
theorem moneyParse_good (l : List UInt8) (w : World) (hE : Env w) (hl : l.length ≤ 200) (hok : mOk l = true) :
    Calls Tryd.prog 24 #[.string ⟨l.toArray⟩] w fun e w' => e = .returned (.tuple #[.int .i64 (pz1 l), .int .i64 (pz2 l)]) ∧ Below w.heap.size w w' := by
  have hWl : (mW l).length ≤ 200 := by have := (cut_lens l).1; omega
  have hCl : (mC l).length ≤ 200 := by have := (cut_lens l).2; omega
  have h := hok
  unfold mOk at h
  simp only [Bool.and_eq_true, decide_eq_true_eq, Bool.not_eq_true', Bool.and_eq_false_iff, decide_eq_false_iff_not] at h
  obtain ⟨⟨⟨⟨⟨hf, hw⟩, hc⟩, h2⟩, h01⟩, hz⟩ := h
  have h2d : (((mC l).length : Int) != 2) = false := by rw [bne_eq_false_iff_eq]; omega
  have h2le : (mC l).length ≤ 2 := by omega
  clear h2
  by_cases h1 : 1 < (mW l).length
  · have h1i : (1 : Int) < ((mW l).length : Int) := by omega
    have hsz : 0 < (⟨(mW l).toArray⟩ : ByteArray).size := by rw [mk_size]; omega
    have hb0 : (((⟨(mW l).toArray⟩ : ByteArray)[0].toNat : Int) == 48) = false := by
      rw [mk_getD (mW l) 0 hsz, beq_eq_false_iff_ne]
      intro h
      rcases h01 with h01 | h01
      · exact h01 h1
      · rw [beq_eq_false_iff_ne] at h01
        exact h01 (UInt8.toNat_inj.1 (by rw [show (48 : UInt8).toNat = 48 from rfl]; omega))
    clear h01
    by_cases hl30 : 30 < l.length
    · have hl30i : (30 : Int) < (l.length : Int) := by omega
      have F : pz1 l = 0 ∧ pz2 l = 2 := by unfold pz1 pz2 mLong; rw [hok, if_pos rfl, if_pos rfl, decide_eq_true hl30, Bool.true_or]; exact ⟨rfl, rfl⟩
      rw [F.1, F.2]
      clear F hok
      go_enter Tryd.func24, Tryd.ntmps24
      go_wp2_with fail
      refine (cutPrefix_mk l _).mono ?_
      rintro e w' ⟨rfl, rfl⟩
      go_wp2_with fail
      refine (cut_mk l _ hE (by omega)).mono ?_
      rintro e w' ⟨rfl, k, rfl⟩
      go_wp2_with (go_at_call 36; refine (numeral_any _ _ (by omega)).mono ?_; rintro e w' ⟨rfl, rfl⟩)
      go_ret2
      exact ⟨rfl, below_drewN (Below.refl _ _) _⟩
    by_cases hw11 : 11 < (mW l).length
    · have hw11i : (11 : Int) < ((mW l).length : Int) := by omega
      have hl30i : decide ((30 : Int) < (l.length : Int)) = false := by rw [decide_eq_false_iff_not]; omega
      have F : pz1 l = 0 ∧ pz2 l = 2 := by unfold pz1 pz2 mLong; rw [hok, if_pos rfl, if_pos rfl, decide_eq_true hw11, Bool.or_true]; exact ⟨rfl, rfl⟩
      rw [F.1, F.2]
      clear F hok
      go_enter Tryd.func24, Tryd.ntmps24
      go_wp2_with fail
      refine (cutPrefix_mk l _).mono ?_
      rintro e w' ⟨rfl, rfl⟩
      go_wp2_with fail
      refine (cut_mk l _ hE (by omega)).mono ?_
      rintro e w' ⟨rfl, k, rfl⟩
      go_wp2_with (go_at_call 36; refine (numeral_any _ _ (by omega)).mono ?_; rintro e w' ⟨rfl, rfl⟩)
      go_ret2
      exact ⟨rfl, below_drewN (Below.refl _ _) _⟩
    have hlong : mLong l = false := by unfold mLong; rw [decide_eq_false hl30, decide_eq_false hw11]; rfl
    have hl30i : decide ((30 : Int) < (l.length : Int)) = false := by rw [decide_eq_false_iff_not]; omega
    have hw11i : decide ((11 : Int) < ((mW l).length : Int)) = false := by rw [decide_eq_false_iff_not]; omega
    have hw11n : (mW l).length ≤ 11 := by omega
    have hv : decVal (mW l ++ mC l) < 10 ^ 13 := by
      have := decVal_lt (l := mW l ++ mC l) (by have := isNum_append hw hc; unfold isNum at this; simp only [Bool.and_eq_true] at this; exact this.1)
      exact Nat.lt_of_lt_of_le this (Nat.pow_le_pow_right (by omega) (by rw [List.length_append]; omega))
    have hvi : (decVal (mW l ++ mC l) : Int) ≤ 10000000000000 := by omega
    clear hv
    cases hneg : Lib.hasPrefix l [45]
    · have F := Lib.hid (show pz1 l = chk1 (decVal (mW l ++ mC l) : Int) ∧ pz2 l = chk2 (decVal (mW l ++ mC l) : Int) by unfold pz1 pz2 mVal; rw [hok, hlong, hneg]; exact ⟨rfl, rfl⟩)
      clear hok hlong hl30 hw11
      go_enter Tryd.func24, Tryd.ntmps24
      go_wp2_with fail
      refine (cutPrefix_mk l _).mono ?_
      rintro e w' ⟨rfl, rfl⟩
      go_wp2_with fail
      refine (cut_mk l _ hE (by omega)).mono ?_
      rintro e w' ⟨rfl, k, rfl⟩
      go_wp2_with (go_at_call 36; refine (numeral_any _ _ (by omega)).mono ?_; rintro e w' ⟨rfl, rfl⟩)
      rw [cat_mk]
      refine (atoi_mk _ _ (isNum_append hw hc) (by rw [List.length_append]; omega)).mono ?_
      rintro e w1 ⟨rfl, hb⟩
      go_wp2_with (go_at_call 27; refine (checked_any _ _).mono ?_; rintro e w' ⟨rfl, rfl⟩)
      go_ret2
      exact ⟨pair_int (by rw [F.out.1]) (by rw [F.out.2]), below_two (below_drewN (Below.refl _ _) _) hb⟩
    · have F := Lib.hid (show pz1 l = chk1 (-(decVal (mW l ++ mC l) : Int)) ∧ pz2 l = chk2 (-(decVal (mW l ++ mC l) : Int)) by unfold pz1 pz2 mVal; rw [hok, hlong, hneg]; exact ⟨rfl, rfl⟩)
      clear hok hlong hl30 hw11
      go_enter Tryd.func24, Tryd.ntmps24
      go_wp2_with fail
      refine (cutPrefix_mk l _).mono ?_
      rintro e w' ⟨rfl, rfl⟩
      go_wp2_with fail
      refine (cut_mk l _ hE (by omega)).mono ?_
      rintro e w' ⟨rfl, k, rfl⟩
      go_wp2_with (go_at_call 36; refine (numeral_any _ _ (by omega)).mono ?_; rintro e w' ⟨rfl, rfl⟩)
      rw [cat_mk]
      refine (atoi_mk _ _ (isNum_append hw hc) (by rw [List.length_append]; omega)).mono ?_
      rintro e w1 ⟨rfl, hb⟩
      go_wp2_with (go_at_call 27; refine (checked_any _ _).mono ?_; rintro e w' ⟨rfl, rfl⟩)
      go_ret2
      exact ⟨pair_int (by rw [F.out.1]) (by rw [F.out.2]), below_two (below_drewN (Below.refl _ _) _) hb⟩
  · have h1d : decide ((1 : Int) < ((mW l).length : Int)) = false := by rw [decide_eq_false_iff_not]; omega
    clear h01
    by_cases hl30 : 30 < l.length
    · have hl30i : (30 : Int) < (l.length : Int) := by omega
      have F : pz1 l = 0 ∧ pz2 l = 2 := by unfold pz1 pz2 mLong; rw [hok, if_pos rfl, if_pos rfl, decide_eq_true hl30, Bool.true_or]; exact ⟨rfl, rfl⟩
      rw [F.1, F.2]
      clear F hok
      go_enter Tryd.func24, Tryd.ntmps24
      go_wp2_with fail
      refine (cutPrefix_mk l _).mono ?_
      rintro e w' ⟨rfl, rfl⟩
      go_wp2_with fail
      refine (cut_mk l _ hE (by omega)).mono ?_
      rintro e w' ⟨rfl, k, rfl⟩
      go_wp2_with (go_at_call 36; refine (numeral_any _ _ (by omega)).mono ?_; rintro e w' ⟨rfl, rfl⟩)
      go_ret2
      exact ⟨rfl, below_drewN (Below.refl _ _) _⟩
    by_cases hw11 : 11 < (mW l).length
    · have hw11i : (11 : Int) < ((mW l).length : Int) := by omega
      have hl30i : decide ((30 : Int) < (l.length : Int)) = false := by rw [decide_eq_false_iff_not]; omega
      have F : pz1 l = 0 ∧ pz2 l = 2 := by unfold pz1 pz2 mLong; rw [hok, if_pos rfl, if_pos rfl, decide_eq_true hw11, Bool.or_true]; exact ⟨rfl, rfl⟩
      rw [F.1, F.2]
      clear F hok
      go_enter Tryd.func24, Tryd.ntmps24
      go_wp2_with fail
      refine (cutPrefix_mk l _).mono ?_
      rintro e w' ⟨rfl, rfl⟩
      go_wp2_with fail
      refine (cut_mk l _ hE (by omega)).mono ?_
      rintro e w' ⟨rfl, k, rfl⟩
      go_wp2_with (go_at_call 36; refine (numeral_any _ _ (by omega)).mono ?_; rintro e w' ⟨rfl, rfl⟩)
      go_ret2
      exact ⟨rfl, below_drewN (Below.refl _ _) _⟩
    have hlong : mLong l = false := by unfold mLong; rw [decide_eq_false hl30, decide_eq_false hw11]; rfl
    have hl30i : decide ((30 : Int) < (l.length : Int)) = false := by rw [decide_eq_false_iff_not]; omega
    have hw11i : decide ((11 : Int) < ((mW l).length : Int)) = false := by rw [decide_eq_false_iff_not]; omega
    have hw11n : (mW l).length ≤ 11 := by omega
    have hv : decVal (mW l ++ mC l) < 10 ^ 13 := by
      have := decVal_lt (l := mW l ++ mC l) (by have := isNum_append hw hc; unfold isNum at this; simp only [Bool.and_eq_true] at this; exact this.1)
      exact Nat.lt_of_lt_of_le this (Nat.pow_le_pow_right (by omega) (by rw [List.length_append]; omega))
    have hvi : (decVal (mW l ++ mC l) : Int) ≤ 10000000000000 := by omega
    clear hv
    cases hneg : Lib.hasPrefix l [45]
    · have F := Lib.hid (show pz1 l = chk1 (decVal (mW l ++ mC l) : Int) ∧ pz2 l = chk2 (decVal (mW l ++ mC l) : Int) by unfold pz1 pz2 mVal; rw [hok, hlong, hneg]; exact ⟨rfl, rfl⟩)
      clear hok hlong hl30 hw11
      go_enter Tryd.func24, Tryd.ntmps24
      go_wp2_with fail
      refine (cutPrefix_mk l _).mono ?_
      rintro e w' ⟨rfl, rfl⟩
      go_wp2_with fail
      refine (cut_mk l _ hE (by omega)).mono ?_
      rintro e w' ⟨rfl, k, rfl⟩
      go_wp2_with (go_at_call 36; refine (numeral_any _ _ (by omega)).mono ?_; rintro e w' ⟨rfl, rfl⟩)
      rw [cat_mk]
      refine (atoi_mk _ _ (isNum_append hw hc) (by rw [List.length_append]; omega)).mono ?_
      rintro e w1 ⟨rfl, hb⟩
      go_wp2_with (go_at_call 27; refine (checked_any _ _).mono ?_; rintro e w' ⟨rfl, rfl⟩)
      go_ret2
      exact ⟨pair_int (by rw [F.out.1]) (by rw [F.out.2]), below_two (below_drewN (Below.refl _ _) _) hb⟩
    · have F := Lib.hid (show pz1 l = chk1 (-(decVal (mW l ++ mC l) : Int)) ∧ pz2 l = chk2 (-(decVal (mW l ++ mC l) : Int)) by unfold pz1 pz2 mVal; rw [hok, hlong, hneg]; exact ⟨rfl, rfl⟩)
      clear hok hlong hl30 hw11
      go_enter Tryd.func24, Tryd.ntmps24
      go_wp2_with fail
      refine (cutPrefix_mk l _).mono ?_
      rintro e w' ⟨rfl, rfl⟩
      go_wp2_with fail
      refine (cut_mk l _ hE (by omega)).mono ?_
      rintro e w' ⟨rfl, k, rfl⟩
      go_wp2_with (go_at_call 36; refine (numeral_any _ _ (by omega)).mono ?_; rintro e w' ⟨rfl, rfl⟩)
      rw [cat_mk]
      refine (atoi_mk _ _ (isNum_append hw hc) (by rw [List.length_append]; omega)).mono ?_
      rintro e w1 ⟨rfl, hb⟩
      go_wp2_with (go_at_call 27; refine (checked_any _ _).mono ?_; rintro e w' ⟨rfl, rfl⟩)
      go_ret2
      exact ⟨pair_int (by rw [F.out.1]) (by rw [F.out.2]), below_two (below_drewN (Below.refl _ _) _) hb⟩
theorem moneyParse_any (l : List UInt8) (w : World) (hE : Env w) (hl : l.length ≤ 200) :
    Calls Tryd.prog 24 #[.string ⟨l.toArray⟩] w fun e w' => e = .returned (.tuple #[.int .i64 (pz1 l), .int .i64 (pz2 l)]) ∧ Below w.heap.size w w' := by
  cases hok : mOk l
  · have e1 : pz1 l = 0 := by unfold pz1; rw [hok]; rfl
    have e2 : pz2 l = 3 := by unfold pz2; rw [hok]; rfl
    rw [e1, e2]
    exact moneyParse_bad l w hE hl hok
  · exact moneyParse_good l w hE hl hok
end Go.Proofs.YtaibaooebplehaaDoor
