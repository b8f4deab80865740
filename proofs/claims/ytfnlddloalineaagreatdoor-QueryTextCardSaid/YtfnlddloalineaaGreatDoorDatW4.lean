/-
  Dates: Parse of both.
-/
import Derived.Test.YtfnlddloalineaaGreatDoorDatW3
namespace Go.Proofs.YtfnlddloalineaaGreatDoor
open Go.RowKit
set_option linter.unusedVariables false
theorem ofR_two (y m d : Int) : ∃ N E : Int, ofR y m d = .tuple #[.int .i64 N, .int .i64 E] := by
  unfold ofR
  split
  · exact ⟨_, _, rfl⟩
  · exact ⟨_, _, rfl⟩
theorem numOkR_yes {l : List UInt8} (h : l.all isDig = true) : numOkR l = .tuple #[.int .i64 (decVal l), .bool true] := by unfold numOkR; rw [if_pos h]
theorem numOkR_no {l : List UInt8} (h : l.all isDig = false) : numOkR l = .tuple #[.int .i64 0, .bool false] := by unfold numOkR; rw [h]; rfl
theorem numI_yes {l : List UInt8} (h : l.all isDig = true) : numI l = (decVal l : Int) := by unfold numI; rw [if_pos h]
theorem numI_no {l : List UInt8} (h : l.all isDig = false) : numI l = -1 := by unfold numI; rw [h]; rfl
theorem byteNe (a b : UInt8) : (((a.toNat : Nat) : Int) != ((b.toNat : Nat) : Int)) = !(a == b) := by
  have e : (((a.toNat : Nat) : Int) == ((b.toNat : Nat) : Int)) = (a == b) := by
    rw [Bool.eq_iff_iff, beq_iff_eq, beq_iff_eq]
    constructor
    · intro h; exact UInt8.toNat_inj.1 (by omega)
    · intro h; rw [h]
  rw [bne, e]
set_option maxRecDepth 100000 in
set_option maxHeartbeats 4000000 in
theorem dparse_any (s : List UInt8) (w : World) : Calls Tryz.prog 128 #[.string ⟨s.toArray⟩] w fun e w' => e = .returned (datR s) ∧ Below w.heap.size w w' := by
  by_cases h10 : s.length = 10
  · have q0 : ((s.length : Int) != 10) = false := by rw [bne_eq_false_iff_eq]; omega
    have q0' : (s.length != 10) = false := by rw [bne_eq_false_iff_eq]; omega
    have s4 : 4 < (⟨s.toArray⟩ : ByteArray).size := by rw [mk_size]; omega
    have s7 : 7 < (⟨s.toArray⟩ : ByteArray).size := by rw [mk_size]; omega
    have b4 : (4 : Int) < (s.length : Int) := by omega
    have b7 : (7 : Int) < (s.length : Int) := by omega
    have b8 : (8 : Int) ≤ (s.length : Int) := by omega
    have c4 : (4 : Int) ≤ (s.length : Int) := by omega
    have c7 : (7 : Int) ≤ (s.length : Int) := by omega
    have n4 : 4 < s.length := by omega
    have n7 : 7 < s.length := by omega
    have n8 : 8 ≤ s.length := by omega
    have g4 : (((⟨s.toArray⟩ : ByteArray)[4].toNat : Int) != 45) = !(s.getD 4 0 == 45) := by rw [mk_getD]; exact byteNe _ 45
    have g7 : (((⟨s.toArray⟩ : ByteArray)[7].toNat : Int) != 45) = !(s.getD 7 0 == 45) := by rw [mk_getD]; exact byteNe _ 45
    have HF : Hid (datF s = ((s.getD 4 0 == 45) && (s.getD 7 0 == 45))) := by show _ = _; unfold datF; rw [decide_eq_true h10]; rfl
    have x1 : (⟨s.toArray⟩ : ByteArray).extract 0 4 = ⟨(s.take 4).toArray⟩ := by rw [ex_mk]; simp
    have x2 : (⟨s.toArray⟩ : ByteArray).extract 5 7 = ⟨((s.take 7).drop 5).toArray⟩ := ex_mk _ _ _
    have x3 : (⟨s.toArray⟩ : ByteArray).extract 8 s.length = ⟨(s.drop 8).toArray⟩ := by rw [ex_mk, List.take_length]
    have HD : Hid (datD s = ((s.take 4).all isDig && (((s.take 7).drop 5).all isDig && (s.drop 8).all isDig))) := rfl
    have HY : Hid ((datF s && datD s) = true → datR s = ofR (decVal (s.take 4)) (decVal ((s.take 7).drop 5)) (decVal (s.drop 8))) := fun h => datR_yes h
    have HN : Hid ((datF s && datD s) = false → datR s = .tuple #[.int .i64 0, .int .i64 3]) := fun h => datR_no h
    have la : (s.take 4).length ≤ 4 := by rw [List.length_take]; omega
    have lb : ((s.take 7).drop 5).length ≤ 4 := by rw [List.length_drop, List.length_take]; omega
    have lc : (s.drop 8).length ≤ 4 := by rw [List.length_drop]; omega
    generalize s.take 4 = A at *
    generalize (s.take 7).drop 5 = B at *
    generalize s.drop 8 = C at *
    have HA := Lib.hid (dnumber_any A)
    have HB := Lib.hid (dnumber_any B)
    have HC := Lib.hid (dnumber_any C)
    generalize (s.getD 4 0 == 45) = t4 at *
    generalize (s.getD 7 0 == 45) = t7 at *
    clear h10
    cases t4
    · have F := Lib.hid (HN.out (by rw [HF.out]; rfl))
      rw [Bool.not_false] at g4
      clear HY HN HF HD x1 x2 x3
      go_enter Tryz.func128, Tryz.ntmps128
      go_wp2_with fail
      go_ret2
      exact ⟨by rw [F.out]; rfl, Below.refl _ _⟩
    cases t7
    · have F := Lib.hid (HN.out (by rw [HF.out]; rfl))
      rw [Bool.not_true] at g4
      rw [Bool.not_false] at g7
      clear HY HN HF HD x1 x2 x3
      go_enter Tryz.func128, Tryz.ntmps128
      go_wp2_with fail
      go_ret2
      exact ⟨by rw [F.out]; rfl, Below.refl _ _⟩
    rw [Bool.not_true] at g4 g7
    have HFD : Hid ((datF s && datD s) = (A.all isDig && (B.all isDig && C.all isDig))) := by show _ = _; rw [HF.out, HD.out]; rfl
    clear HF HD
    obtain ⟨NA, KA, ea⟩ : ∃ (NA : Int) (KA : Bool), A.all isDig = KA ∧ numOkR A = .tuple #[.int .i64 NA, .bool KA] ∧ (KA = true → NA = (decVal A : Int)) := by
      cases h : A.all isDig
      · exact ⟨_, _, rfl, numOkR_no h, fun h => by cases h⟩
      · exact ⟨_, _, rfl, numOkR_yes h, fun _ => rfl⟩
    obtain ⟨NB, KB, eb⟩ : ∃ (NB : Int) (KB : Bool), B.all isDig = KB ∧ numOkR B = .tuple #[.int .i64 NB, .bool KB] ∧ (KB = true → NB = (decVal B : Int)) := by
      cases h : B.all isDig
      · exact ⟨_, _, rfl, numOkR_no h, fun h => by cases h⟩
      · exact ⟨_, _, rfl, numOkR_yes h, fun _ => rfl⟩
    obtain ⟨NC, KC, ec⟩ : ∃ (NC : Int) (KC : Bool), C.all isDig = KC ∧ numOkR C = .tuple #[.int .i64 NC, .bool KC] ∧ (KC = true → NC = (decVal C : Int)) := by
      cases h : C.all isDig
      · exact ⟨_, _, rfl, numOkR_no h, fun h => by cases h⟩
      · exact ⟨_, _, rfl, numOkR_yes h, fun _ => rfl⟩
    have hfd := HFD.out
    rw [ea.1, eb.1, ec.1] at hfd
    have HFE := Lib.hid hfd
    have EA := Lib.hid ea.2
    have EB := Lib.hid eb.2
    have EC := Lib.hid ec.2
    clear HFD hfd ea eb ec
    go_enter Tryz.func128, Tryz.ntmps128
    go_wp2_with fail
    refine (HA.out _ la).mono ?_
    rintro e wx ⟨rfl, rfl⟩
    rw [EA.out.1]
    go_wp2_with fail
    refine (HB.out _ lb).mono ?_
    rintro e wx ⟨rfl, rfl⟩
    rw [EB.out.1]
    go_wp2_with fail
    refine (HC.out _ lc).mono ?_
    rintro e wx ⟨rfl, rfl⟩
    rw [EC.out.1]
    clear x1 x2 x3
    cases KA
    · have F := Lib.hid (HN.out (by rw [HFE.out]; rfl))
      clear HY HN HFE
      go_wp2_with fail
      go_ret2
      exact ⟨by rw [F.out]; rfl, Below.refl _ _⟩
    cases KB
    · have F := Lib.hid (HN.out (by rw [HFE.out]; rfl))
      clear HY HN HFE
      go_wp2_with fail
      go_ret2
      exact ⟨by rw [F.out]; rfl, Below.refl _ _⟩
    cases KC
    · have F := Lib.hid (HN.out (by rw [HFE.out]; rfl))
      clear HY HN HFE
      go_wp2_with fail
      go_ret2
      exact ⟨by rw [F.out]; rfl, Below.refl _ _⟩
    have F := Lib.hid (HY.out (by rw [HFE.out]; rfl))
    have ga := EA.out.2 rfl
    have gb := EB.out.2 rfl
    have gc := EC.out.2 rfl
    have F2 : Hid (datR s = ofR NA NB NC) := by show _ = _; rw [F.out, ga, gb, gc]
    clear HY HN HFE ga gb gc F EA EB EC
    obtain ⟨N, E, he⟩ := ofR_two NA NB NC
    have HO := Lib.hid (of_any NA NB NC w)
    rw [he] at HO F2
    clear he
    go_wp2_with fail
    refine HO.out.mono ?_
    rintro e w1 ⟨rfl, hb⟩
    go_wp2_with fail
    go_ret2
    exact ⟨by rw [F2.out]; rfl, hb⟩
  · have q0 : ((s.length : Int) != 10) = true := by rw [bne_iff_ne]; omega
    have q0' : (s.length != 10) = true := by rw [bne_iff_ne]; omega
    have F := Lib.hid (datR_no (s := s) (by unfold datF; rw [decide_eq_false h10]; rfl))
    clear h10
    go_enter Tryz.func128, Tryz.ntmps128
    go_wp2_with fail
    go_ret2
    exact ⟨by rw [F.out]; rfl, Below.refl _ _⟩
set_option maxRecDepth 100000 in
set_option maxHeartbeats 4000000 in
theorem refDparse_any (s : List UInt8) (w : World) : Calls Tryz.prog 102 #[.string ⟨s.toArray⟩] w fun e w' => e = .returned (datR s) ∧ Below w.heap.size w w' := by
  by_cases h10 : s.length = 10
  · have q0 : ((s.length : Int) != 10) = false := by rw [bne_eq_false_iff_eq]; omega
    have q0' : (s.length != 10) = false := by rw [bne_eq_false_iff_eq]; omega
    have s4 : 4 < (⟨s.toArray⟩ : ByteArray).size := by rw [mk_size]; omega
    have s7 : 7 < (⟨s.toArray⟩ : ByteArray).size := by rw [mk_size]; omega
    have b4 : (4 : Int) < (s.length : Int) := by omega
    have b7 : (7 : Int) < (s.length : Int) := by omega
    have b8 : (8 : Int) ≤ (s.length : Int) := by omega
    have c4 : (4 : Int) ≤ (s.length : Int) := by omega
    have c7 : (7 : Int) ≤ (s.length : Int) := by omega
    have n4 : 4 < s.length := by omega
    have n7 : 7 < s.length := by omega
    have n8 : 8 ≤ s.length := by omega
    have m4 : 4 ≤ s.length := by omega
    have m7 : 7 ≤ s.length := by omega
    have g4 : (((⟨s.toArray⟩ : ByteArray)[4].toNat : Int) != 45) = !(s.getD 4 0 == 45) := by rw [mk_getD]; exact byteNe _ 45
    have g7 : (((⟨s.toArray⟩ : ByteArray)[7].toNat : Int) != 45) = !(s.getD 7 0 == 45) := by rw [mk_getD]; exact byteNe _ 45
    have HF : Hid (datF s = ((s.getD 4 0 == 45) && (s.getD 7 0 == 45))) := by show _ = _; unfold datF; rw [decide_eq_true h10]; rfl
    have x1 : (⟨s.toArray⟩ : ByteArray).extract 0 4 = ⟨(s.take 4).toArray⟩ := by rw [ex_mk]; simp
    have x2 : (⟨s.toArray⟩ : ByteArray).extract 5 7 = ⟨((s.take 7).drop 5).toArray⟩ := ex_mk _ _ _
    have x3 : (⟨s.toArray⟩ : ByteArray).extract 8 s.length = ⟨(s.drop 8).toArray⟩ := by rw [ex_mk, List.take_length]
    have HD : Hid (datD s = ((s.take 4).all isDig && (((s.take 7).drop 5).all isDig && (s.drop 8).all isDig))) := rfl
    have HY : Hid ((datF s && datD s) = true → datR s = ofR (decVal (s.take 4)) (decVal ((s.take 7).drop 5)) (decVal (s.drop 8))) := fun h => datR_yes h
    have HN : Hid ((datF s && datD s) = false → datR s = .tuple #[.int .i64 0, .int .i64 3]) := fun h => datR_no h
    have la : (s.take 4).length ≤ 4 := by rw [List.length_take]; omega
    have lb : ((s.take 7).drop 5).length ≤ 4 := by rw [List.length_drop, List.length_take]; omega
    have lc : (s.drop 8).length ≤ 4 := by rw [List.length_drop]; omega
    generalize s.take 4 = A at *
    generalize (s.take 7).drop 5 = B at *
    generalize s.drop 8 = C at *
    have HA : Hid (∀ w, Calls Tryz.prog 129 #[.string ⟨A.toArray⟩] w fun e w' => e = .returned (.int .i64 (numI A)) ∧ w' = w) := fun w => refDnumber_any A w la
    have HB : Hid (∀ w, Calls Tryz.prog 129 #[.string ⟨B.toArray⟩] w fun e w' => e = .returned (.int .i64 (numI B)) ∧ w' = w) := fun w => refDnumber_any B w lb
    have HC : Hid (∀ w, Calls Tryz.prog 129 #[.string ⟨C.toArray⟩] w fun e w' => e = .returned (.int .i64 (numI C)) ∧ w' = w) := fun w => refDnumber_any C w lc
    generalize (s.getD 4 0 == 45) = t4 at *
    generalize (s.getD 7 0 == 45) = t7 at *
    clear h10
    cases t4
    · have F := Lib.hid (HN.out (by rw [HF.out]; rfl))
      rw [Bool.not_false] at g4
      clear HY HN HF HD x1 x2 x3
      go_enter Tryz.func102, Tryz.ntmps102
      go_wp2_with fail
      go_ret2
      exact ⟨by rw [F.out]; rfl, Below.refl _ _⟩
    cases t7
    · have F := Lib.hid (HN.out (by rw [HF.out]; rfl))
      rw [Bool.not_true] at g4
      rw [Bool.not_false] at g7
      clear HY HN HF HD x1 x2 x3
      go_enter Tryz.func102, Tryz.ntmps102
      go_wp2_with fail
      go_ret2
      exact ⟨by rw [F.out]; rfl, Below.refl _ _⟩
    rw [Bool.not_true] at g4 g7
    have HFD : Hid ((datF s && datD s) = (A.all isDig && (B.all isDig && C.all isDig))) := by show _ = _; rw [HF.out, HD.out]; rfl
    clear HF HD
    have ia : (A.all isDig = true ∧ numI A = (decVal A : Int)) ∨ (A.all isDig = false ∧ numI A = -1) := by
      cases h : A.all isDig
      · exact .inr ⟨rfl, numI_no h⟩
      · exact .inl ⟨rfl, numI_yes h⟩
    have ib : (B.all isDig = true ∧ numI B = (decVal B : Int)) ∨ (B.all isDig = false ∧ numI B = -1) := by
      cases h : B.all isDig
      · exact .inr ⟨rfl, numI_no h⟩
      · exact .inl ⟨rfl, numI_yes h⟩
    have ic : (C.all isDig = true ∧ numI C = (decVal C : Int)) ∨ (C.all isDig = false ∧ numI C = -1) := by
      cases h : C.all isDig
      · exact .inr ⟨rfl, numI_no h⟩
      · exact .inl ⟨rfl, numI_yes h⟩
    obtain ⟨NA, ea⟩ : ∃ NA, numI A = NA := ⟨_, rfl⟩
    obtain ⟨NB, eb⟩ : ∃ NB, numI B = NB := ⟨_, rfl⟩
    obtain ⟨NC, ec⟩ : ∃ NC, numI C = NC := ⟨_, rfl⟩
    rw [ea] at HA ia
    rw [eb] at HB ib
    rw [ec] at HC ic
    clear ea eb ec
    have hend : ((datF s && datD s) = true ∧ NA = (decVal A : Int) ∧ NB = (decVal B : Int) ∧ NC = (decVal C : Int) ∧ decide (NA < 0) = false ∧ decide (NB < 0) = false ∧ decide (NC < 0) = false) ∨ ((datF s && datD s) = false ∧ (decide (NA < 0) = true ∨ (decide (NA < 0) = false ∧ decide (NB < 0) = true) ∨ (decide (NA < 0) = false ∧ decide (NB < 0) = false ∧ decide (NC < 0) = true))) := by
      simp only [decide_eq_true_eq, decide_eq_false_iff_not]
      rw [HFD.out]
      rcases ia with ⟨h, h'⟩ | ⟨h, h'⟩
      · rcases ib with ⟨k, k'⟩ | ⟨k, k'⟩
        · rcases ic with ⟨l, l'⟩ | ⟨l, l'⟩
          · exact .inl ⟨by rw [h, k, l]; rfl, h', k', l', by omega, by omega, by omega⟩
          · exact .inr ⟨by rw [h, k, l]; rfl, .inr (.inr ⟨by omega, by omega, by omega⟩)⟩
        · exact .inr ⟨by rw [h, k]; rfl, .inr (.inl ⟨by omega, by omega⟩)⟩
      · exact .inr ⟨by rw [h]; rfl, .inl (by omega)⟩
    have HEND := Lib.hid hend
    clear ia ib ic HFD hend
    go_enter Tryz.func102, Tryz.ntmps102
    go_wp2_with fail
    go_quiet ((first
      | (go_at_call 129; with_reducible exact Calls.quiet_of_same (HA.out _))
      | (go_at_call 129; with_reducible exact Calls.quiet_of_same (HB.out _))
      | (go_at_call 129; with_reducible exact Calls.quiet_of_same (HC.out _))))
    have HBW := Lib.hid (below_drewN (Below.refl w.heap.size w) nq)
    clear x1 x2 x3
    generalize w.drewN nq = wp at *
    rcases HEND.out with ⟨h, h1, h2, h3, h4, h5, h6⟩ | ⟨h, h1 | ⟨h1, h2⟩ | ⟨h1, h2, h3⟩⟩
    · have F := Lib.hid (HY.out h)
      have F2 : Hid (datR s = ofR NA NB NC) := by show _ = _; rw [F.out, h1, h2, h3]
      clear HY HN HEND h h1 h2 h3 F HA HB HC
      obtain ⟨N, E, he⟩ := ofR_two NA NB NC
      have HO := Lib.hid (refOf_any NA NB NC wp)
      rw [he] at HO F2
      clear he
      go_wp2_with fail
      refine HO.out.mono ?_
      rintro e wx ⟨rfl, rfl⟩
      go_wp2_with fail
      go_ret2
      exact ⟨by rw [F2.out]; rfl, HBW.out⟩
    all_goals
      have F := Lib.hid (HN.out h)
      clear HY HN HEND h HA HB HC
      go_wp2_with fail
      go_ret2
      exact ⟨by rw [F.out]; rfl, HBW.out⟩
  · have q0 : ((s.length : Int) != 10) = true := by rw [bne_iff_ne]; omega
    have q0' : (s.length != 10) = true := by rw [bne_iff_ne]; omega
    have F := Lib.hid (datR_no (s := s) (by unfold datF; rw [decide_eq_false h10]; rfl))
    clear h10
    go_enter Tryz.func102, Tryz.ntmps102
    go_wp2_with fail
    go_ret2
    exact ⟨by rw [F.out]; rfl, Below.refl _ _⟩
end Go.Proofs.YtfnlddloalineaaGreatDoor
