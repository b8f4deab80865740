/-
  report.Text.
-/
import Derived.Test.YtcmmppkmkejniaaGreatDoorSrRep9
import Derived.Test.YtcmmppkmkejniaaGreatDoorBld3
namespace Go.Proofs.YtcmmppkmkejniaaGreatDoor
open Go.RowKit
set_option linter.unusedVariables false
theorem TxS.env {w1 w : World} {b g : Nat} {t : TypeId} {cs : Array Value} {T : List UInt8} (h : TxS w1 b g t cs T w) : Below b w1 w := h.2.2.1
theorem tup_si {a b : List UInt8} {x y : Int} (h : a = b) (h' : x = y) : Ending.returned (.tuple #[.string ⟨a.toArray⟩, .int .i64 x]) = .returned (.tuple #[.string ⟨b.toArray⟩, .int .i64 y]) := by rw [h, h']
theorem oneL_title {W : Nat} {x : SLine} (h : isTitle x.row = true) : oneL W x = capL x ++ [10] := by unfold oneL; rw [if_pos h]; simp
theorem oneL_row {W : Nat} {x : SLine} (h : isTitle x.row = false) : oneL W x = capL x ++ (List.replicate (W - widL x + 1) 32 ++ amtText x.amt) ++ [10] := by unfold oneL; rw [h]; rfl
theorem amtText_ok {n : Int} : (amtText n).length ≤ 26 := amtText_len n
set_option maxRecDepth 100000 in
set_option maxHeartbeats 16000000 in
theorem rtext_any (xs : List SLine) (A : Option Addr) (n c B : Nat) (w : World) (hE : Env w) (hr : Reads w B 6 A n (linesCells xs)) (hB : B ≤ w.heap.size) (hn : n ≤ 10000) (hnm : ∀ x ∈ xs, x.row.name.length ≤ 3000) :
    Calls Tryz.prog 28 #[.slice A n c] w fun e w' => e = .returned (.tuple #[.string ⟨(rtS xs).toArray⟩, .int .i64 (rtE xs)]) ∧ Below w.heap.size w w' := by
  have HL := Lib.hid (lines_len hr)
  have HR := Lib.hid hr
  have HV := Lib.hid (rvalid_any xs A n c B w hr hB hn hnm)
  clear hr hnm
  cases hv : validL xs
  · have F := Lib.hid (rt_no hv)
    have HVF := Lib.hid hv
    clear hv
    go_enter Tryz.func28, Tryz.ntmps28
    go_wp2_with fail
    refine HV.out.mono ?_
    rintro e w1 ⟨rfl, hb⟩
    rw [HVF.out]
    go_wp2_with fail
    go_ret2
    exact ⟨tup_si F.out.1.symm F.out.2.symm, hb⟩
  by_cases hn0 : n = 0
  · have F : Hid (rtS xs = [] ∧ rtE xs = 0) := by
      have : xs = [] := List.eq_nil_of_length_eq_zero (by rw [HL.out]; exact hn0)
      obtain ⟨h1, h2⟩ := rt_yes hv
      refine ⟨?_, h2⟩
      rw [h1, this]; rfl
    have HVF := Lib.hid hv
    clear hv HL HR
    subst hn0
    go_enter Tryz.func28, Tryz.ntmps28
    go_wp2_with fail
    refine HV.out.mono ?_
    rintro e w1 ⟨rfl, hb⟩
    rw [HVF.out]
    go_wp2_with fail
    go_ret2
    exact ⟨tup_si F.out.1.symm F.out.2.symm, hb⟩
  have F := Lib.hid (rt_yes hv)
  have HVF := Lib.hid hv
  have hn3 : n ≤ 300 := by have := validL_len hv; have := HL.out; omega
  have q0 : ((n : Int) == 0) = false := by rw [beq_eq_false_iff_ne]; omega
  have HWA := Lib.hid (longL_all hv)
  clear hv
  go_enter Tryz.func28, Tryz.ntmps28
  go_wp2_with fail
  refine HV.out.mono ?_
  rintro e w1 ⟨rfl, hb⟩
  rw [HVF.out]
  have HB1 := Lib.hid hb
  clear hb
  go_wp2_with fail
  refine (maxF_any xs A n c B w1 (hE.after HB1.out) (HR.out.low hB (Nat.le_refl _) HB1.out) (by have := HB1.out.size; omega) (by omega) HVF.out).mono ?_
  rintro e w2 ⟨j, hj, rfl, hwj, hb2⟩
  have HJ := Lib.hid hwj
  have hy := validL_at HVF.out hj
  have HB2 := Lib.hid (below_two HB1.out hb2)
  clear hb2 hwj
  have HWJ := Lib.hid (width_any (xs.getD j default) w2 (hE.after HB2.out) hy.1 hy.2.1.1 hy.2.1.2 (okLn_iff.1 hy.2.2).1)
  rw [HJ.out] at HWJ
  clear hy
  generalize xs.getD j default = yy at *
  generalize hWW : longL xs = W at *
  have HWW := Lib.hid hWW
  clear hWW
  go_wp2_with fail
  refine HWJ.out.mono ?_
  rintro e w3 ⟨rfl, hb3⟩
  have HB3 := Lib.hid (below_two HB2.out hb3)
  clear hb3
  go_wp2_with fail
  go_loopw [19] (fun i wr => ∃ k : Nat, k ≤ n ∧ i = .int .i64 k ∧ Bst w3.heap.size (linesT W (xs.take k)) wr ∧ Below w3.heap.size w3 wr) (fun i _ => n - (intOf i).toNat)
  case atStart => exact ⟨0, Nat.zero_le _, rfl, Bst.fresh w3, (Below.refl _ _).alloc (Nat.le_refl _) _⟩
  case round =>
    obtain ⟨k, hk, rfl, hbd, hbr⟩ := hrel
    obtain ⟨wo, rfl⟩ : ∃ wo : World, wo = wr := ⟨_, rfl⟩
    have HBD := Lib.hid hbd
    clear hbd
    by_cases hlt : k < n
    · have k3 : decide ((k : Int) < (n : Int)) = true := by rw [decide_eq_true_eq]; omega
      have hbw := below_two HB3.out hbr
      have hkl : k < xs.length := by rw [HL.out]; exact hlt
      obtain ⟨ad, rfl, hab, c0, c1, c2, c3, c4, c5⟩ := (HR.out.low hB (Nat.le_refl _) hbw).line_at hlt
      have hx := validL_at HVF.out hkl
      have HC : Hid (∀ w, Calls Tryz.prog 52 #[lineV (xs.getD k default)] w fun e w' => e = .returned (.string ⟨(capL (xs.getD k default)).toArray⟩) ∧ Below w.heap.size w w') := fun w => caption_any _ w hx.1 hx.2.1.1 hx.2.1.2
      have HWD : Hid (∀ w, Env w → Calls Tryz.prog 49 #[lineV (xs.getD k default)] w fun e w' => e = .returned (.int .i64 (widL (xs.getD k default))) ∧ Below w.heap.size w w') := fun w hE => width_any _ w hE hx.1 hx.2.1.1 hx.2.1.2 (okLn_iff.1 hx.2.2).1
      have HM : Hid (∀ w, Env w → Calls Tryz.prog 55 #[.int .i64 (xs.getD k default).amt] w fun e w' => e = .returned (.string ⟨(amtText (xs.getD k default).amt).toArray⟩) ∧ Below w.heap.size w w') := fun w hE => moneyText_all _ w hE
      have HST : Hid (linesT W (xs.take (k + 1)) = linesT W (xs.take k) ++ oneL W (xs.getD k default)) := linesT_step hkl
      have hlen := linesT_len (W := W) (by have := HWA.out; omega) HVF.out k (by omega)
      have hwle : widL (xs.getD k default) ≤ W := by have := longL_ge hkl; rw [HWW.out] at this; exact this
      have hW61 := HWA.out
      have hcl : (capL (xs.getD k default)).length ≤ 34 := by rw [capL_len]; omega
      have hal := amtText_len (xs.getD k default).amt
      have HO1 : Hid (isTitle (xs.getD k default).row = true → oneL W (xs.getD k default) = capL (xs.getD k default) ++ [10]) := oneL_title
      have HO2 : Hid (isTitle (xs.getD k default).row = false → oneL W (xs.getD k default) = capL (xs.getD k default) ++ (List.replicate (W - widL (xs.getD k default) + 1) 32 ++ amtText (xs.getD k default).amt) ++ [10]) := oneL_row
      have HEB : Hid (∀ w_, Below w3.heap.size w3 w_ → Env w_) := fun w_ h => hE.after (below_two HB3.out h)
      have hbg : w3.heap.size < wo.heap.size := by
        have h1 := HBD.out
        rcases h1 with h1 | h1 <;> exact h1.lt
      clear hx hkl
      generalize xs.getD k default = x at *
      generalize linesT W (xs.take k) = T at *
      generalize capL x = C at *
      generalize widL x = V at *
      have HTX : Hid (TxS w3 w3.heap.size wo.heap.size 102 (lineArr x) T (wo.alloc (.cells (lineArr x) 102))) := ⟨Blk.new wo _ _, HBD.out.below ((Below.refl _ _).alloc (Nat.le_refl _) _), hbr.alloc hbr.size _, hbg⟩
      obtain ⟨⟨nm, lv, fr, to_, ng⟩, am⟩ := x
      unfold lineV at HC HWD
      unfold lineArr at HTX
      simp only [] at c0 c1 c2 c3 c4 c5 HC HWD HM HO1 HO2 HTX hal
      generalize amtText am = M at *
      clear hbw
      go_wp2_with fail
      clear c0 c1 c2 c3 c4 c5
      have hh := HTX.out
      generalize wo.alloc (.cells #[.string ⟨nm.toArray⟩, .int .i64 lv, .int .i64 fr, .int .i64 to_, .bool ng, .int .i64 am] 102) = wz at *
      generalize wo.heap.size = g at *
      refine (HC.out _).mono ?_
      rintro e w4 ⟨rfl, hbx⟩
      have h4 := hh.go hbx
      clear hh hbx HTX
      go_wp2_with fail
      refine (bst_write w3.heap.size T C w4 h4.2.1 (by omega) h4.size).mono ?_
      rintro e w5 ⟨rfl, p1, p2, p3⟩
      have h5 := h4.wrote p1 p2 p3 (by decide)
      clear h4 p1 p2 p3
      obtain ⟨y0, y1, y2, y3, y4, y5⟩ := line_blk h5.1
      go_wp2_with fail
      refine (rtitle_any ⟨nm, lv, fr, to_, ng⟩ _).mono ?_
      rintro e w6 ⟨rfl, hbx⟩
      have h6 := h5.go hbx
      clear h5 hbx y0 y1 y2 y3 y4 y5
      cases ht : isTitle ⟨nm, lv, fr, to_, ng⟩
      · have HO := Lib.hid (HO2.out ht)
        clear HO1 HO2 ht
        obtain ⟨zs, hz⟩ : ∃ zs : List UInt8, List.replicate (W - V + 1) 32 = zs := ⟨_, rfl⟩
        have hzl : zs.length = W - V + 1 := by rw [← hz, List.length_replicate]
        have HZ := Lib.hid hz
        rw [hz] at HO
        have hzle : zs.length ≤ 62 := by omega
        clear hz hzl
        have HRP : Hid (∀ w, Calls Tryz.prog 54 #[.string ⟨#[32]⟩, .int .i64 ((W : Int) - (V : Int) + 1)] w fun e w' => e = .returned (.string ⟨zs.toArray⟩) ∧ Below w.heap.size w w') := fun w => spc_any (W - V + 1) _ zs w (by omega) (by omega) HZ.out
        have n1 : ¬9223372036854775807 < zs.length + M.length := by omega
        have W1 : IntKind.i64.wrap ((W : Int) - (V : Int)) = (W : Int) - (V : Int) := IntWalk.i64_in _ (by omega)
        have W2 : IntKind.i64.wrap ((W : Int) - (V : Int) + 1) = (W : Int) - (V : Int) + 1 := IntWalk.i64_in _ (by omega)
        have HWR : Hid (∀ w, TxS w3 w3.heap.size g 102 #[.string ⟨nm.toArray⟩, .int .i64 lv, .int .i64 fr, .int .i64 to_, .bool ng, .int .i64 am] (T ++ C) w → Calls Tryz.prog 30 #[.pointer (some ⟨w3.heap.size, 0, none⟩), .string ⟨(zs ++ M).toArray⟩] w fun e w' => e = .returned (.tuple #[.int .i64 (zs ++ M).length, .nilIface]) ∧ TxS w3 w3.heap.size g 102 #[.string ⟨nm.toArray⟩, .int .i64 lv, .int .i64 fr, .int .i64 to_, .bool ng, .int .i64 am] (T ++ C ++ (zs ++ M)) w') := fun w h => (bst_write w3.heap.size (T ++ C) (zs ++ M) w h.2.1 (by simp; omega) h.size).mono fun e w' ⟨h1, h2, h3, h4⟩ => ⟨h1, h.wrote h2 h3 h4 (by decide)⟩
        have hcm : (⟨zs.toArray⟩ ++ ⟨M.toArray⟩ : ByteArray) = ⟨(zs ++ M).toArray⟩ := cat_mk zs M
        have HCM := Lib.hid hcm
        clear hcm
        obtain ⟨y0, y1, y2, y3, y4, y5⟩ := line_blk h6.1
        go_wp2_with fail
        go_region_with (first
          | (go_at_call 49; refine (HWD.out _ (by first | exact HEB.out _ (TxS.env (by assumption)) | exact HEB.out _ (TxS.env (TxS.drew (by assumption))))).mono ?_; rintro e wx ⟨rfl, hbx⟩; have kk := TxS.go (w' := wx) (by first | assumption | exact TxS.drew (by assumption)) hbx; obtain ⟨q0, q1, q2, q3, q4, q5⟩ := line_blk kk.1)
          | (go_at_call 54; refine (HRP.out _).mono ?_; rintro e wx ⟨rfl, hbx⟩; have kk := TxS.go (w' := wx) (by first | assumption | exact TxS.drew (by assumption)) hbx; obtain ⟨q0, q1, q2, q3, q4, q5⟩ := line_blk kk.1)
          | (go_at_call 55; refine (HM.out _ (by first | exact HEB.out _ (TxS.env (by assumption)) | exact HEB.out _ (TxS.env (TxS.drew (by assumption))))).mono ?_; rintro e wx ⟨rfl, hbx⟩; have kk := TxS.go (w' := wx) (by first | assumption | exact TxS.drew (by assumption)) hbx; obtain ⟨q0, q1, q2, q3, q4, q5⟩ := line_blk kk.1)
          | (go_at_call 30; rw [HCM.out]; refine (HWR.out _ (by first | assumption | exact TxS.drew (by assumption))).mono ?_; rintro e w9 ⟨rfl, h9⟩))
        all_goals
          have h9 := (show TxS w3 w3.heap.size g 102 #[.string ⟨nm.toArray⟩, .int .i64 lv, .int .i64 fr, .int .i64 to_, .bool ng, .int .i64 am] (T ++ C ++ (zs ++ M)) _ from by assumption)
          have hpl : (T ++ C ++ (zs ++ M)).length + 1 ≤ 140737488355328 := by simp; omega
          clear W1 W2 y0 y1 y2 y3 y4 y5 h6
          go_wp2_with fail
          refine (bst_byte w3.heap.size (T ++ C ++ (zs ++ M)) 10 _ rfl _ h9.2.1 hpl h9.size).mono ?_
          rintro e w10 ⟨rfl, p1, p2, p3⟩
          have h10 := h9.wrote p1 p2 p3 (by decide)
          have HH := Lib.hid h10
          clear p1 p2 p3 h9 h10
          go_wp2_with fail
          go_roundw
          case rel => exact ⟨k + 1, by omega, by go_num, by rw [HST.out, HO.out, ← List.append_assoc, ← List.append_assoc]; exact HH.out.2.1, HH.out.env⟩
          case measure => simp [intOf]; omega
      · have HO := Lib.hid (HO1.out ht)
        clear HO1 HO2 ht
        go_wp2_with fail
        refine (bst_byte w3.heap.size (T ++ C) 10 _ rfl w6 h6.2.1 (by simp; omega) h6.size).mono ?_
        rintro e w7 ⟨rfl, p1, p2, p3⟩
        have h7 := h6.wrote p1 p2 p3 (by decide)
        have HH := Lib.hid h7
        clear p1 p2 p3 h6 h7
        go_wp2_with fail
        go_roundw
        case rel => exact ⟨k + 1, by omega, by go_num, by rw [HST.out, HO.out, ← List.append_assoc]; exact HH.out.2.1, HH.out.env⟩
        case measure => simp [intOf]; omega
    · have k3 : decide ((k : Int) < (n : Int)) = false := by rw [decide_eq_false_iff_not]; omega
      have hbd := HBD.out
      rw [List.take_of_length_le (show xs.length ≤ k by rw [HL.out]; omega)] at hbd
      have HBD1 := Lib.hid hbd
      have HBR := Lib.hid hbr
      have hsz : w3.heap.size ≤ wo.heap.size := hbr.size
      clear hbd HBD hbr
      go_wp2_with fail
      refine (bst_string w3.heap.size (linesT W xs) wo HBD1.out hsz).mono ?_
      rintro e w7 ⟨rfl, hb7⟩
      go_wp2_with fail
      go_ret2
      exact ⟨tup_si F.out.1.symm F.out.2.symm, below_two HB3.out (HBR.out.trans hb7)⟩
end Go.Proofs.YtcmmppkmkejniaaGreatDoor
