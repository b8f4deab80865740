/-
  The reference's Valid of lines; spaces.
-/
import Derived.Test.YtenlbjobjnpghaaDoorRep8
namespace Go.Proofs.YtenlbjobjnpghaaDoor
open Go.RowKit
set_option linter.unusedVariables false
set_option maxRecDepth 100000 in
set_option maxHeartbeats 4000000 in
theorem refValidL_any (xs : List SLine) (A : Option Addr) (n c B : Nat) (w : World) (hr : Reads w B 6 A n (linesCells xs)) (hB : B ≤ w.heap.size) (hn : n ≤ 10000) (hnm : ∀ x ∈ xs, x.row.name.length ≤ 3000) :
    Calls Tryd.prog 42 #[.slice A n c] w fun e w' => e = .returned (.bool (validL xs)) ∧ Below w.heap.size w w' := by
  have HL := Lib.hid (lines_len hr)
  have HR := Lib.hid hr
  have HNM : Hid (∀ r ∈ rowsOf xs, r.name.length ≤ 3000) := by
    show ∀ _, _
    intro r h
    obtain ⟨x, hx, rfl⟩ := List.mem_map.1 h
    exact hnm x hx
  have HRL : Hid ((rowsOf xs).length = n) := by show _ = _; rw [rowsOf_len, HL.out]
  clear hr hnm
  go_enter Tryd.func42, Tryd.ntmps42
  go_wp2_with fail
  go_loopw [3] (fun i wr => ∃ k : Nat, k ≤ n ∧ i = .int .i64 k ∧ (xs.take k).all okLn = true ∧ Below w.heap.size w wr) (fun i _ => n - (intOf i).toNat)
  case atStart => exact ⟨0, Nat.zero_le _, rfl, rfl, Below.refl _ _⟩
  case round =>
    obtain ⟨k, hk, rfl, hd, hbr⟩ := hrel
    obtain ⟨wo, rfl⟩ : ∃ wo : World, wo = wr := ⟨_, rfl⟩
    have HD := Lib.hid hd
    clear hd
    by_cases hlt : k < n
    · have k3 : decide ((k : Int) < (n : Int)) = true := by rw [decide_eq_true_eq]; omega
      have hkl : k < xs.length := by rw [HL.out]; exact hlt
      have b1 : (k : Int) < (n : Int) := by omega
      obtain ⟨ad, rfl, hab, c0, c1, c2, c3, c4, c5⟩ := (HR.out.low hB (Nat.le_refl _) hbr).line_at hlt
      have HNO : Hid (okLn (xs.getD k default) = false → validL xs = false) := fun h => by unfold validL; rw [okLn_no hkl h, Bool.and_false]
      have HYE : Hid (okLn (xs.getD k default) = true → (xs.take (k + 1)).all okLn = true) := fun h => okLn_step hkl HD.out h
      have HCE : Hid (∀ w', Below w.heap.size w w' → w'.cell? ⟨(ad.add (k * 6)).block, (ad.add (k * 6)).off + 5, none⟩ = some (.int .i64 (xs.getD k default).amt)) := by
        show ∀ _, _
        intro w' hb
        obtain ⟨ad', e, _, _, _, _, _, _, h⟩ := (HR.out.low hB (Nat.le_refl _) hb).line_at hlt
        injection e with e
        subst e
        exact h
      clear hkl
      generalize xs.getD k default = x at *
      obtain ⟨⟨nm, lv, fr, to_, ng⟩, am⟩ := x
      simp only [] at c0 c1 c2 c3 c4 c5 HCE
      cases ha : okAmt am
      · have F := Lib.hid (HNO.out (by unfold okLn; rw [ha]; rfl))
        have HA := Lib.hid ha
        clear ha HNO HYE
        go_wp2_with fail
        refine (refAmt_any am _).mono ?_
        rintro e wx ⟨rfl, rfl⟩
        rw [HA.out]
        go_wp2_with fail
        go_ret
        exact ⟨ret_bool F.out.symm, hbr⟩
      · cases ht : isTitle ⟨nm, lv, fr, to_, ng⟩
        · have F := Lib.hid (HYE.out (by unfold okLn; rw [ha, ht]; rfl))
          have HA := Lib.hid ha
          have HT := Lib.hid ht
          clear ha ht HNO HYE
          go_wp2_with fail
          refine (refAmt_any am _).mono ?_
          rintro e wx ⟨rfl, rfl⟩
          rw [HA.out]
          go_wp2_with fail
          refine (refTitle_any ⟨nm, lv, fr, to_, ng⟩ _).mono ?_
          rintro e w2 ⟨rfl, hb2⟩
          have hb3 := below_two hbr hb2
          rw [HT.out]
          clear c0 c1 c2 c3 c4 c5 hb2 hbr
          go_wp2_with fail
          go_roundw
          case rel => exact ⟨k + 1, by omega, by go_num, F.out, hb3⟩
          case measure => simp [intOf]; omega
        · have HE0 : Hid (okLn ⟨⟨nm, lv, fr, to_, ng⟩, am⟩ = (am == 0)) := by show _ = _; unfold okLn; rw [ha, ht]; rfl
          have HA := Lib.hid ha
          have HT := Lib.hid ht
          clear ha ht
          cases hz : (am == 0)
          · have F := Lib.hid (HNO.out (by rw [HE0.out, hz]))
            have hz' : (am != 0) = true := by rw [bne, hz]; rfl
            clear HNO HYE
            go_wp2_with fail
            refine (refAmt_any am _).mono ?_
            rintro e wx ⟨rfl, rfl⟩
            rw [HA.out]
            go_wp2_with fail
            refine (refTitle_any ⟨nm, lv, fr, to_, ng⟩ _).mono ?_
            rintro e w2 ⟨rfl, hb2⟩
            have hb3 := below_two hbr hb2
            have hc := HCE.out _ hb3
            rw [HT.out]
            clear c0 c1 c2 c3 c4 c5 hb2 hbr
            go_wp2_with fail
            go_ret
            exact ⟨ret_bool F.out.symm, hb3⟩
          · have F := Lib.hid (HYE.out (by rw [HE0.out, hz]))
            have hz' : (am != 0) = false := by rw [bne, hz]; rfl
            clear HNO HYE
            go_wp2_with fail
            refine (refAmt_any am _).mono ?_
            rintro e wx ⟨rfl, rfl⟩
            rw [HA.out]
            go_wp2_with fail
            refine (refTitle_any ⟨nm, lv, fr, to_, ng⟩ _).mono ?_
            rintro e w2 ⟨rfl, hb2⟩
            have hb3 := below_two hbr hb2
            have hc := HCE.out _ hb3
            rw [HT.out]
            clear c0 c1 c2 c3 c4 c5 hb2 hbr
            go_wp2_with fail
            go_roundw
            case rel => exact ⟨k + 1, by omega, by go_num, F.out, hb3⟩
            case measure => simp [intOf]; omega
    · have k3 : decide ((k : Int) < (n : Int)) = false := by rw [decide_eq_false_iff_not]; omega
      have hd := HD.out
      rw [List.take_of_length_le (by rw [HL.out]; omega)] at hd
      have F : Hid (validL xs = validR (rowsOf xs)) := by show _ = _; unfold validL; rw [hd, Bool.and_true]
      clear hd HD
      go_wp2_with fail
      refine (rRows_any xs A n c B wo (HR.out.low hB (Nat.le_refl _) hbr) (by have := hbr.size; omega) (by omega)).mono ?_
      rintro e w1 ⟨v, rfl, hown, hb⟩
      obtain ⟨A1, c1, rfl⟩ := own_slice hown
      have hb1 := below_two hbr hb
      have HVA := Lib.hid (refValid_any (rowsOf xs) A1 xs.length c1 w1.heap.size w1 (Reads.of_own hown) (Nat.le_refl _) (by rw [HL.out]; omega) HNM.out)
      clear hown hb hbr
      go_wp2_with fail
      refine HVA.out.mono ?_
      rintro e w2 ⟨rfl, hb2⟩
      have hb3 := below_two hb1 hb2
      go_wp2_with fail
      go_ret
      exact ⟨ret_bool F.out.symm, hb3⟩
set_option maxHeartbeats 1000000 in
theorem spaces_any (m : Nat) (n : Int) (zs : List UInt8) (w : World) (hn : n = m) (hm : m ≤ 1000) (hz : List.replicate m 32 = zs) :
    Calls Tryd.prog 44 #[.int .i64 n] w fun e w' => e = .returned (.string ⟨zs.toArray⟩) ∧ Below w.heap.size w w' := by
  subst hn
  have HZ := Lib.hid hz
  clear hz
  go_enter Tryd.func44, Tryd.ntmps44
  go_wp2_with fail
  go_loop [3, 4] (fun s i => ∃ (k : Nat) (ys : List UInt8), k ≤ m ∧ i = .int .i64 k ∧ s = .string ⟨ys.toArray⟩ ∧ List.replicate k 32 = ys) (fun _ i => m - (intOf i).toNat)
  case atStart => exact ⟨0, [], Nat.zero_le _, rfl, rfl, rfl⟩
  case round =>
    obtain ⟨k, ys, hk, rfl, rfl, hy⟩ := hrel
    have hyl : ys.length = k := by rw [← hy, List.length_replicate]
    have HY := Lib.hid hy
    clear hy
    by_cases hlt : k < m
    · have k3 : decide ((k : Int) < (m : Int)) = true := by rw [decide_eq_true_eq]; omega
      have n1 : ¬9223372036854775807 < ys.length + 1 := by omega
      have F : Hid (List.replicate (k + 1) 32 = ys ++ [32]) := by show _ = _; rw [List.replicate_succ', HY.out]
      have HC : Hid ((⟨ys.toArray⟩ ++ ⟨#[32]⟩ : ByteArray) = ⟨(ys ++ [32]).toArray⟩) := cat_mk ys [32]
      clear hyl
      go_wp2_with fail
      go_round
      case rel => exact ⟨k + 1, ys ++ [32], by omega, by go_num, by rw [HC.out], F.out⟩
      case measure => simp [intOf]; omega
    · have k3 : decide ((k : Int) < (m : Int)) = false := by rw [decide_eq_false_iff_not]; omega
      have hkm : k = m := by omega
      have F : Hid (ys = zs) := by show _ = _; rw [← HY.out, hkm, HZ.out]
      clear hkm hyl
      go_wp2_with fail
      go_ret
      exact ⟨ret_str F.out, Below.refl _ _⟩
end Go.Proofs.YtenlbjobjnpghaaDoor
