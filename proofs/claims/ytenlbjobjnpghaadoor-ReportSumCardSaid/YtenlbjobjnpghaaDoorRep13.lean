/-
  The reference's Text of lines.
-/
import Derived.Test.YtenlbjobjnpghaaDoorRep12
import Derived.Test.YtenlbjobjnpghaaDoorRep10
namespace Go.Proofs.YtenlbjobjnpghaaDoor
open Go.RowKit
set_option linter.unusedVariables false
theorem max_int (a b : Nat) (c : Int) (h : c = b) : (if (a : Int) < c then c else (a : Int)) = ((max a b : Nat) : Int) := by subst h; split <;> omega
set_option maxRecDepth 100000 in
set_option maxHeartbeats 16000000 in
theorem refText_any (xs : List SLine) (A : Option Addr) (n c B : Nat) (w : World) (hr : Reads w B 6 A n (linesCells xs)) (hB : B ≤ w.heap.size) (hn : n ≤ 10000) (hnm : ∀ x ∈ xs, x.row.name.length ≤ 3000) :
    Calls Tryd.prog 18 #[.slice A n c] w fun e w' => e = .returned (.tuple #[.string ⟨(rtS xs).toArray⟩, .int .i64 (rtE xs)]) ∧ Below w.heap.size w w' := by
  have HL := Lib.hid (lines_len hr)
  have HR := Lib.hid hr
  have HV := Lib.hid (refValidL_any xs A n c B w hr hB hn hnm)
  clear hr hnm
  cases hv : validL xs
  · have F := Lib.hid (rt_no hv)
    have HVF := Lib.hid hv
    clear hv
    go_enter Tryd.func18, Tryd.ntmps18
    go_wp2_with fail
    refine HV.out.mono ?_
    rintro e w1 ⟨rfl, hb⟩
    rw [HVF.out]
    go_wp2_with fail
    go_ret2
    exact ⟨tup_si F.out.1.symm F.out.2.symm, hb⟩
  have F := Lib.hid (rt_yes hv)
  have HVF := Lib.hid hv
  have hn3 : n ≤ 300 := by have := validL_len hv; have := HL.out; omega
  have HWA := Lib.hid (longL_all hv)
  clear hv
  go_enter Tryd.func18, Tryd.ntmps18
  go_wp2_with fail
  refine HV.out.mono ?_
  rintro e w1 ⟨rfl, hb⟩
  rw [HVF.out]
  have HB1 := Lib.hid hb
  clear hb
  go_wp2_with fail
  go_loopw [4, 5] (fun m i wr => ∃ k : Nat, k ≤ n ∧ i = .int .i64 k ∧ m = .int .i64 (longL (xs.take k)) ∧ Below w.heap.size w wr) (fun _ i _ => n - (intOf i).toNat)
  case atStart => exact ⟨0, Nat.zero_le _, rfl, rfl, HB1.out⟩
  case round =>
    obtain ⟨k, hk, rfl, rfl, hbr⟩ := hrel
    obtain ⟨wo, rfl⟩ : ∃ wo : World, wo = wr := ⟨_, rfl⟩
    by_cases hlt : k < n
    · have k3 : decide ((k : Int) < (n : Int)) = true := by rw [decide_eq_true_eq]; omega
      have hkl : k < xs.length := by rw [HL.out]; exact hlt
      obtain ⟨ad, rfl, hab, c0, c1, c2, c3, c4, c5⟩ := (HR.out.low hB (Nat.le_refl _) hbr).line_at hlt
      have hx := validL_at HVF.out hkl
      have hM := longL_bd HVF.out k (by omega)
      have HST := Lib.hid (longL_step (xs := xs) (k := k) hkl)
      have HM : Hid (∀ w, Calls Tryd.prog 43 #[.int .i64 (xs.getD k default).amt] w fun e w' => e = .returned (.string ⟨(amtText (xs.getD k default).amt).toArray⟩) ∧ Below w.heap.size w w') := fun w => refMon_any _ w
      have hal := amtText_len (xs.getD k default).amt
      have HW1 : Hid (isTitle (xs.getD k default).row = true → widL (xs.getD k default) = 0) := widL_title
      have HW2 : Hid (isTitle (xs.getD k default).row = false → widL (xs.getD k default) = 2 * (xs.getD k default).row.level.toNat + (xs.getD k default).row.name.length + 1 + (amtText (xs.getD k default).amt).length) := fun h => by rw [widL_row h, capL_len]
      clear hkl
      generalize xs.getD k default = x at *
      generalize longL (xs.take k) = M at *
      generalize widL x = V at *
      have hbo := hbr.alloc hbr.size (.cells (lineArr x) 65)
      have HBO := Lib.hid hbo
      have HK := Lib.hid (Blk.new wo 65 (lineArr x))
      clear hbo
      obtain ⟨⟨nm, lv, fr, to_, ng⟩, am⟩ := x
      unfold lineArr at HK HBO
      simp only [] at c0 c1 c2 c3 c4 c5 hx HK HBO HM hal HW1 HW2
      have h1 := hx.1
      have h2 := hx.2.1.1
      have h3 := hx.2.1.2
      clear hx
      generalize amtText am = MT at *
      go_wp2_with fail
      refine (refTitle_any ⟨nm, lv, fr, to_, ng⟩ _).mono ?_
      rintro e w2 ⟨rfl, hb2⟩
      have hb3 := below_two HBO.out hb2
      have hk2 := HK.out.below hb2 (by simp)
      clear c0 c1 c2 c3 c4 c5 hb2
      generalize wo.heap.size = g at *
      have hgl := hk2.lt
      obtain ⟨y0, y1, y2, y3, y4, y5⟩ := line_blk hk2
      cases ht : isTitle ⟨nm, lv, fr, to_, ng⟩
      · have HVE := Lib.hid (HW2.out ht)
        clear ht HW1 HW2 hk2 hbr
        have HMX : Hid (max (M : Int) (2 * lv + (nm.length : Int) + 1 + (MT.length : Int)) = (longL (xs.take (k + 1)) : Int)) := by
          show _ = _
          have := HVE.out
          rw [HST.out]
          omega
        have e1 : IntKind.i64.wrap (2 * lv) = 2 * lv := IntWalk.i64_in _ (by omega)
        have e2 : IntKind.i64.wrap (2 * lv + (nm.length : Int)) = 2 * lv + (nm.length : Int) := IntWalk.i64_in _ (by omega)
        have e3 : IntKind.i64.wrap (2 * lv + (nm.length : Int) + 1) = 2 * lv + (nm.length : Int) + 1 := IntWalk.i64_in _ (by omega)
        have e4 : IntKind.i64.wrap (2 * lv + (nm.length : Int) + 1 + (MT.length : Int)) = 2 * lv + (nm.length : Int) + 1 + (MT.length : Int) := IntWalk.i64_in _ (by omega)
        go_wp2_with fail
        go_region_held3 (fun w' => Below w.heap.size w w' ∧ g < w'.heap.size ∧ w'.cell? ⟨g, 0, none⟩ = some (.string ⟨nm.toArray⟩) ∧ w'.cell? ⟨g, 1, none⟩ = some (.int .i64 lv) ∧ w'.cell? ⟨g, 5, none⟩ = some (.int .i64 am))
          ((go_split_ands
            refine ⟨?_, ?_, ?_, ?_, ?_⟩
            · (first | assumption | exact Below.drew (by assumption) | exact below_two (by assumption) hbx | exact below_two (Below.drew (by assumption)) hbx)
            · (first | assumption | exact Nat.lt_of_lt_of_le (by assumption) hbx.size)
            · (first | assumption | exact (hbx.cell (by assumption)).trans (by assumption))
            · (first | assumption | exact (hbx.cell (by assumption)).trans (by assumption))
            · (first | assumption | exact (hbx.cell (by assumption)).trans (by assumption))))
          ((go_at_call 43; refine (HM.out _).mono ?_; rintro e wx ⟨rfl, hbx⟩))
        all_goals
          have hS : Below w.heap.size w _ := (show Below w.heap.size w _ ∧ g < _ ∧ _ from by assumption).1
          clear e1 e2 e3 e4
          go_wp2_with fail
          go_roundw
          case rel => exact ⟨k + 1, by omega, by go_num, by rw [HMX.out], hS⟩
          case measure => simp [intOf]; omega
      · have HVE := Lib.hid (HW1.out ht)
        clear ht HW1 HW2
        have F2 : Hid (longL (xs.take (k + 1)) = M) := by show _ = _; rw [HST.out, HVE.out]; omega
        go_wp2_with fail
        go_roundw
        case rel => exact ⟨k + 1, by omega, by go_num, by rw [F2.out], hb3⟩
        case measure => simp [intOf]; omega
    · have k3 : decide ((k : Int) < (n : Int)) = false := by rw [decide_eq_false_iff_not]; omega
      rw [List.take_of_length_le (show xs.length ≤ k by rw [HL.out]; omega)]
      have HBW := Lib.hid hbr
      clear hbr
      generalize hWW : longL xs = W at *
      have HWW := Lib.hid hWW
      clear hWW
      go_wp2_with fail
      go_loopw [7, 8] (fun s i wr => ∃ (q : Nat) (ys : List UInt8), q ≤ n ∧ i = .int .i64 q ∧ s = .string ⟨ys.toArray⟩ ∧ ys = linesT W (xs.take q) ∧ Below w.heap.size w wr) (fun _ i _ => n - (intOf i).toNat)
      case atStart => exact ⟨0, [], Nat.zero_le _, rfl, rfl, rfl, HBW.out⟩
      case round =>
        obtain ⟨q, ys, hq, rfl, rfl, hy, hbr⟩ := hrel
        obtain ⟨wp, rfl⟩ : ∃ wp : World, wp = wr := ⟨_, rfl⟩
        have hyl : ys.length ≤ q * 130 := by rw [hy]; exact linesT_len (by have := HWA.out; omega) HVF.out q (by have := HL.out; omega)
        have HY := Lib.hid hy
        clear hy
        by_cases hlq : q < n
        · have k3 : decide ((q : Int) < (n : Int)) = true := by rw [decide_eq_true_eq]; omega
          have hkl : q < xs.length := by rw [HL.out]; exact hlq
          have b1 : (q : Int) < (n : Int) := by omega
          obtain ⟨ad, rfl, hab, c0, c1, c2, c3, c4, c5⟩ := (HR.out.low hB (Nat.le_refl _) hbr).line_at hlq
          have hx := validL_at HVF.out hkl
          have hwle : widL (xs.getD q default) ≤ W := by have := longL_ge hkl; rw [HWW.out] at this; exact this
          have hW61 := HWA.out
          have HST : Hid (linesT W (xs.take (q + 1)) = linesT W (xs.take q) ++ oneL W (xs.getD q default)) := linesT_step hkl
          rw [← HY.out] at HST
          have HM : Hid (∀ w, Calls Tryd.prog 43 #[.int .i64 (xs.getD q default).amt] w fun e w' => e = .returned (.string ⟨(amtText (xs.getD q default).amt).toArray⟩) ∧ Below w.heap.size w w') := fun w => refMon_any _ w
          have hal := amtText_len (xs.getD q default).amt
          have HO1 : Hid (isTitle (xs.getD q default).row = true → oneL W (xs.getD q default) = capL (xs.getD q default) ++ [10]) := oneL_title
          have HO2 : Hid (isTitle (xs.getD q default).row = false → oneL W (xs.getD q default) = capL (xs.getD q default) ++ (List.replicate (W - widL (xs.getD q default) + 1) 32 ++ amtText (xs.getD q default).amt) ++ [10]) := oneL_row
          have HW2 : Hid (isTitle (xs.getD q default).row = false → widL (xs.getD q default) = (capL (xs.getD q default)).length + 1 + (amtText (xs.getD q default).amt).length) := widL_row
          have HCA : Hid (capL (xs.getD q default) = List.replicate (2 * (xs.getD q default).row.level.toNat) 32 ++ (xs.getD q default).row.name) := rfl
          have HCE : Hid (∀ w', Below w.heap.size w w' → w'.cell? (ad.add (q * 6)) = some (.string ⟨(xs.getD q default).row.name.toArray⟩) ∧ w'.cell? ⟨(ad.add (q * 6)).block, (ad.add (q * 6)).off + 1, none⟩ = some (.int .i64 (xs.getD q default).row.level) ∧ w'.cell? ⟨(ad.add (q * 6)).block, (ad.add (q * 6)).off + 2, none⟩ = some (.int .i64 (xs.getD q default).row.from_) ∧ w'.cell? ⟨(ad.add (q * 6)).block, (ad.add (q * 6)).off + 3, none⟩ = some (.int .i64 (xs.getD q default).row.to_) ∧ w'.cell? ⟨(ad.add (q * 6)).block, (ad.add (q * 6)).off + 4, none⟩ = some (.bool (xs.getD q default).row.neg) ∧ w'.cell? ⟨(ad.add (q * 6)).block, (ad.add (q * 6)).off + 5, none⟩ = some (.int .i64 (xs.getD q default).amt)) := by
            show ∀ _, _
            intro w' hb
            obtain ⟨ad', e, _, h⟩ := (HR.out.low hB (Nat.le_refl _) hb).line_at hlq
            injection e with e
            subst e
            exact h
          clear hkl
          generalize xs.getD q default = x at *
          generalize capL x = C at *
          generalize widL x = V at *
          obtain ⟨⟨nm, lv, fr, to_, ng⟩, am⟩ := x
          simp only [] at c0 c1 c2 c3 c4 c5 hx HM hal HO1 HO2 HW2 HCA HCE
          have h1 := hx.1
          have h2 := hx.2.1.1
          have h3 := hx.2.1.2
          clear hx
          generalize amtText am = MT at *
          obtain ⟨zs, hz⟩ : ∃ zs : List UInt8, List.replicate (2 * lv.toNat) 32 = zs := ⟨_, rfl⟩
          have hzl : zs.length ≤ 18 := by rw [← hz, List.length_replicate]; omega
          have HSP : Hid (∀ w, Calls Tryd.prog 44 #[.int .i64 (2 * lv)] w fun e w' => e = .returned (.string ⟨zs.toArray⟩) ∧ Below w.heap.size w w') := fun w => spaces_any (2 * lv.toNat) _ zs w (by omega) (by omega) hz
          rw [hz] at HCA
          have hcm : (⟨zs.toArray⟩ ++ ⟨nm.toArray⟩ : ByteArray) = ⟨C.toArray⟩ := by rw [HCA.out]; exact cat_mk zs nm
          have HCM := Lib.hid hcm
          have hcl : C.length = zs.length + nm.length := by rw [HCA.out]; simp
          have HCL := Lib.hid hcl
          have hcl34 : C.length ≤ 34 := by omega
          have e1 : IntKind.i64.wrap (2 * lv) = 2 * lv := IntWalk.i64_in _ (by omega)
          have n1 : ¬9223372036854775807 < zs.length + nm.length := by omega
          have hbB : (ad.add (q * 6)).block < wp.heap.size := by rw [block_of_add]; have := hbr.size; omega
          clear hz hcm hcl c2 c3 c4 c5
          go_wp2_with fail
          go_region_held3 (fun w' => Below w.heap.size w w' ∧ (ad.add (q * 6)).block < w'.heap.size ∧ w'.cell? (ad.add (q * 6)) = some (.string ⟨nm.toArray⟩) ∧ w'.cell? ⟨(ad.add (q * 6)).block, (ad.add (q * 6)).off + 1, none⟩ = some (.int .i64 lv))
            ((go_split_ands
              refine ⟨?_, ?_, ?_, ?_⟩
              · (first | assumption | exact Below.drew (by assumption) | exact below_two (by assumption) hbx | exact below_two (Below.drew (by assumption)) hbx)
              · (first | assumption | exact Nat.lt_of_lt_of_le (by assumption) hbx.size)
              · (first | assumption | exact (hbx.cell (by assumption)).trans (by assumption))
              · (first | assumption | exact (hbx.cell (by assumption)).trans (by assumption))))
            ((go_at_call 44; refine (HSP.out _).mono ?_; rintro e wx ⟨rfl, hbx⟩))
          all_goals
            have hS : Below w.heap.size w _ := (show Below w.heap.size w _ ∧ (ad.add (q * 6)).block < _ ∧ _ from by assumption).1
            obtain ⟨z0, z1, z2, z3, z4, z5⟩ := HCE.out _ hS
            clear e1 c0 c1
            go_wp2_with fail
            refine (refTitle_any ⟨nm, lv, fr, to_, ng⟩ _).mono ?_
            rintro e w4 ⟨rfl, hb4⟩
            rw [HCM.out]
            have hS2 := below_two hS hb4
            obtain ⟨y0, y1, y2, y3, y4, y5⟩ := HCE.out _ hS2
            have HS2 := Lib.hid hS2
            clear hS hb4 z0 z1 z2 z3 z4 z5 hS2 n1
            have m1 : ¬9223372036854775807 < C.length + 1 := by omega
            have m2 : ¬9223372036854775807 < ys.length + (C.length + 1) := by omega
            cases ht : isTitle ⟨nm, lv, fr, to_, ng⟩
            · have HO := Lib.hid (HO2.out ht)
              have hV := HW2.out ht
              clear HO1 HO2 HW2 ht
              obtain ⟨us, hu⟩ : ∃ us : List UInt8, List.replicate (W - V + 1) 32 = us := ⟨_, rfl⟩
              have hul : us.length ≤ 62 := by rw [← hu, List.length_replicate]; omega
              have HSQ : Hid (∀ w, Calls Tryd.prog 44 #[.int .i64 ((W : Int) - (C.length : Int) - (MT.length : Int))] w fun e w' => e = .returned (.string ⟨us.toArray⟩) ∧ Below w.heap.size w w') := fun w => spaces_any (W - V + 1) _ us w (by omega) (by omega) hu
              rw [hu] at HO
              have m3 : ¬9223372036854775807 < us.length + MT.length := by omega
              have m4 : ¬9223372036854775807 < C.length + (us.length + MT.length) := by omega
              have m5 : ¬9223372036854775807 < C.length + (us.length + MT.length) + 1 := by omega
              have m6 : ¬9223372036854775807 < ys.length + (C.length + (us.length + MT.length) + 1) := by omega
              have F9 : Hid (ys ++ (C ++ (us ++ MT) ++ [10]) = linesT W (xs.take (q + 1))) := by show _ = _; rw [HST.out, HO.out]
              clear hu hV
              go_wp2_with fail
              refine (HM.out _).mono ?_
              rintro e w5 ⟨rfl, hb5⟩
              have HS5 := Lib.hid (below_two HS2.out hb5)
              clear hb5 y0 y1 y2 y3 y4 y5
              go_wp2_with fail
              refine (HSQ.out _).mono ?_
              rintro e w6 ⟨rfl, hb6⟩
              have HS6 := Lib.hid (below_two HS5.out hb6)
              clear hb6
              go_wp2_with fail
              go_roundw
              case rel => exact ⟨q + 1, ys ++ (C ++ (us ++ MT) ++ [10]), by omega, by go_num, by first | (congr 1; done) | (congr 1; apply ByteArray.ext; simp), F9.out, HS6.out⟩
              case measure => simp [intOf]; omega
            · have HO := Lib.hid (HO1.out ht)
              clear HO1 HO2 HW2 ht
              have F9 : Hid (ys ++ (C ++ [10]) = linesT W (xs.take (q + 1))) := by show _ = _; rw [HST.out, HO.out]
              go_wp2_with fail
              go_roundw
              case rel => exact ⟨q + 1, ys ++ (C ++ [10]), by omega, by go_num, by first | (congr 1; done) | (congr 1; apply ByteArray.ext; simp), F9.out, HS2.out⟩
              case measure => simp [intOf]; omega
        · have k3 : decide ((q : Int) < (n : Int)) = false := by rw [decide_eq_false_iff_not]; omega
          have F2 : Hid (ys = linesT W xs) := by show _ = _; rw [HY.out, List.take_of_length_le (show xs.length ≤ q by rw [HL.out]; omega)]
          clear hyl
          go_wp2_with fail
          go_ret2
          exact ⟨tup_si (by rw [F.out.1, F2.out]) F.out.2.symm, hbr⟩
end Go.Proofs.YtenlbjobjnpghaaDoor
