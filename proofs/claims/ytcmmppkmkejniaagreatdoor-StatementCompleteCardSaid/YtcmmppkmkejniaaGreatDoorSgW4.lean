/-
  Valid, the reference's Valid.
-/
import Derived.Test.YtcmmppkmkejniaaGreatDoorStW2
import Derived.Test.YtcmmppkmkejniaaGreatDoorOwn2
import Derived.Deep.RegionHeld3
namespace Go.Proofs.YtcmmppkmkejniaaGreatDoor
open Go.RowKit
set_option linter.unusedVariables false
theorem rowsCells_take (rs : List SRow) (k : Nat) : rowsCells (rs.take k) = (rowsCells rs).take (k * 5) := by
  unfold rowsCells
  induction rs generalizing k with
  | nil => simp
  | cons r rs ih =>
    cases k with
    | zero => simp
    | succ k =>
      rw [List.take_succ_cons, List.flatMap_cons, List.flatMap_cons, ih, List.take_append]
      have e : (rowCells r).length = 5 := rfl
      rw [List.take_of_length_le (show (rowCells r).length ≤ (k + 1) * 5 by rw [e]; omega), e]
      congr 2
      omega
theorem Reads.rows_take {w : World} {B n k : Nat} {A : Option Addr} {rs : List SRow} (h : Reads w B 5 A n (rowsCells rs)) (hk : k ≤ n) : Reads w B 5 A k (rowsCells (rs.take k)) := by
  have hl := rows_len h
  refine ⟨?_, fun h0 => ?_⟩
  · unfold rowsCells; rw [flat_len rowCells rowCells_len, List.length_take]; omega
  · obtain ⟨ad, e, hb, hc⟩ := h.2 (by omega)
    refine ⟨ad, e, hb, fun j u hu => hc j u ?_⟩
    rw [rowsCells_take, List.getElem?_take] at hu
    split at hu
    · exact hu
    · cases hu
theorem lvl_bd {rs : List SRow} {k : Nat} (hk : k ≤ rs.length) (h : validF (-1) (rs.take k) = true) : (0 < k → 0 ≤ lvl rs k ∧ lvl rs k ≤ 9) ∧ -1 ≤ lvl rs k ∧ lvl rs k ≤ 9 := by
  cases k with
  | zero => exact ⟨fun h => by omega, by simp [lvl], by simp [lvl]⟩
  | succ m =>
    have := validF_level h (k := m) (by rw [List.length_take]; omega)
    rw [take_getD _ (by omega)] at this
    exact ⟨fun _ => this, by simp only [lvl]; omega, by simp only [lvl]; omega⟩
theorem validR_no {rs : List SRow} {k : Nat} (hk : k < rs.length) (h' : okRow (lvl rs k) (rs.getD k default) = false) : validR rs = false := by
  unfold validR; rw [validF_no hk h']; rfl
theorem validR_end {rs : List SRow} {k n : Nat} (hk : rs.length ≤ k) (hn : rs.length = n) (h : validF (-1) (rs.take k) = true) : validR rs = decide (n ≤ 300) := by
  rw [List.take_of_length_le hk] at h
  unfold validR; rw [h, hn]; rfl
theorem getD_mem' {rs : List SRow} {k : Nat} (h : k < rs.length) : rs.getD k default ∈ rs := by
  have : rs.getD k default = rs[k] := by simp [List.getD, h]
  rw [this]; exact List.getElem_mem h
theorem nat_le_300 (n : Nat) : decide ((n : Int) ≤ 300) = decide (n ≤ 300) := by
  by_cases h : n ≤ 300
  · rw [decide_eq_true h, decide_eq_true (show (n : Int) ≤ 300 by omega)]
  · rw [decide_eq_false h, decide_eq_false (show ¬ (n : Int) ≤ 300 by omega)]
theorem Reads.of_heap {w w' : World} {B size n : Nat} {A : Option Addr} {xs : List Value} (h : Reads w B size A n xs) (hh : w'.heap = w.heap) : Reads w' B size A n xs :=
  h.keep fun p _ => World.cell?_of_block (by rw [hh])
set_option maxRecDepth 100000 in
set_option maxHeartbeats 4000000 in
theorem valid_any (rs : List SRow) (A : Option Addr) (n c : Nat) (B : Nat) (w : World) (hr : Reads w B 5 A n (rowsCells rs)) (hB : B ≤ w.heap.size) (hn63 : n ≤ 9223372036854775807) (hnc : n ≤ c) (hnm : ∀ r ∈ rs, r.name.length ≤ 3000) :
    Calls Tryz.prog 14 #[.slice A n c] w fun e w' => e = .returned (.bool (validR rs)) ∧ Below w.heap.size w w' := by
  have HL := Lib.hid (rows_len hr)
  have HR := Lib.hid hr
  have HNM := Lib.hid hnm
  have hnci : (n : Int) ≤ (c : Int) := by omega
  clear hr hnm
  go_enter Tryz.func14, Tryz.ntmps14
  go_wp2_with fail
  go_loopw [7] (fun i wr => ∃ k : Nat, k ≤ n ∧ i = .int .i64 k ∧ validF (-1) (rs.take k) = true ∧ Below w.heap.size w wr) (fun i _ => n - (intOf i).toNat)
  case atStart => exact ⟨0, Nat.zero_le _, rfl, rfl, Below.refl _ _⟩
  case round =>
    obtain ⟨k, hk, rfl, hv, hbr⟩ := hrel
    obtain ⟨wo, rfl⟩ : ∃ wo : World, wo = wr := ⟨_, rfl⟩
    have HV := Lib.hid hv
    clear hv
    by_cases hlt : k < n
    · have hrw := HR.out.low hB (Nat.le_refl _) hbr
      obtain ⟨ad, rfl, hab, c0, c1, c2, c3, c4⟩ := hrw.row_at hlt
      have HRK := Lib.hid (hrw.rows_take hk)
      have hlv := lvl_bd (show k ≤ rs.length by rw [HL.out]; exact hk) HV.out
      have hok : Hid (okRow (lvl rs k) (rs.getD k default) = false → validR rs = false) := by
        show _ → _
        exact validR_no (by rw [HL.out]; exact hlt)
      have hstep : Hid (okRow (lvl rs k) (rs.getD k default) = true → validF (-1) (rs.take (k + 1)) = true) := by
        show _ → _
        exact validF_step (by rw [HL.out]; exact hlt) HV.out
      have hnk : Hid ((rs.getD k default).name.length ≤ 140737488351232) := by
        show _ ≤ _
        have := HNM.out _ (getD_mem' (show k < rs.length by rw [HL.out]; exact hlt))
        omega
      have hlt' : Hid (lvl (rs.take k) k = lvl rs k) := lvl_take (Nat.le_refl _)
      have HLV := Lib.hid hlv
      clear hlv hrw
      generalize rs.getD k default = r at *
      obtain ⟨nm, lv, fr, to_, ng⟩ := r
      have k1 : (k : Int) ≤ (n : Int) := by omega
      have k2 : (k : Int) ≤ (c : Int) := by omega
      have k3 : decide ((k : Int) < (n : Int)) = true := by rw [decide_eq_true_eq]; omega
      have hbo := hbr.alloc hbr.size (.cells #[.string ⟨nm.toArray⟩, .int .i64 lv, .int .i64 fr, .int .i64 to_, .bool ng] 39)
      have HBO := Lib.hid hbo
      clear hbo
      go_wp2_with fail
      have hcz := row_cells (Blk.new wo 39 #[.string ⟨nm.toArray⟩, .int .i64 lv, .int .i64 fr, .int .i64 to_, .bool ng])
      have HRZ := Lib.hid (HRK.out.alloc (show B ≤ wo.heap.size by have := hbr.size; omega) (.cells #[.string ⟨nm.toArray⟩, .int .i64 lv, .int .i64 fr, .int .i64 to_, .bool ng] 39))
      have hsz : wo.heap.size < (wo.alloc (.cells #[.string ⟨nm.toArray⟩, .int .i64 lv, .int .i64 fr, .int .i64 to_, .bool ng] 39)).heap.size := by simp
      have hBw : B ≤ wo.heap.size := by have := hbr.size; omega
      generalize wo.alloc (.cells #[.string ⟨nm.toArray⟩, .int .i64 lv, .int .i64 fr, .int .i64 to_, .bool ng] 39) = wz at *
      obtain ⟨z0, z1, z2, z3, z4⟩ := hcz
      generalize wo.heap.size = g at *
      have HP : Hid (∀ w', w'.heap = wz.heap → Below w.heap.size w w' → Calls Tryz.prog 26 #[.slice (some ad) k c, .agg #[.string ⟨nm.toArray⟩, .int .i64 lv, .int .i64 fr, .int .i64 to_, .bool ng]] w' fun e w'' => e = .returned (.bool (okRow (lvl rs k) ⟨nm, lv, fr, to_, ng⟩)) ∧ Below w.heap.size w w'') := by
        show ∀ _, _
        intro w' hh hb
        have h := proper_any (rs.take k) (some ad) k c ⟨nm, lv, fr, to_, ng⟩ B w' (HRZ.out.of_heap hh) (by rw [hh]; omega) (by omega) (by rw [hlt'.out]; exact HLV.out.1) hnk.out
        rw [hlt'.out] at h
        exact h.mono (by rintro e w'' ⟨rfl, h⟩; exact ⟨rfl, below_two hb h⟩)
      cases ho : okRow (lvl rs k) ⟨nm, lv, fr, to_, ng⟩
      · have F := Lib.hid (hok.out ho)
        have HO := Lib.hid ho
        clear ho
        go_region_with (go_at_call 26; refine (HP.out _ (by rfl) (by exact ⟨HBO.out.os, HBO.out.tape, HBO.out.output, HBO.out.size, HBO.out.block⟩)).mono ?_; rintro e w1 ⟨rfl, hb1⟩; rw [HO.out])
        all_goals
          go_wp2_with fail
          go_ret
          exact ⟨ret_bool F.out.symm, hb1⟩
      · have F := Lib.hid (hstep.out ho)
        have HO := Lib.hid ho
        clear ho
        go_region_with (go_at_call 26; refine (HP.out _ (by rfl) (by exact ⟨HBO.out.os, HBO.out.tape, HBO.out.output, HBO.out.size, HBO.out.block⟩)).mono ?_; rintro e w1 ⟨rfl, hb1⟩; rw [HO.out])
        all_goals
          go_wp2_with fail
          go_roundw
          case rel => exact ⟨k + 1, by omega, by go_num, F.out, hb1⟩
          case measure => simp [intOf]; omega
    · have F := Lib.hid (validR_end (show rs.length ≤ k by rw [HL.out]; omega) HL.out HV.out)
      have k3 : decide ((k : Int) < (n : Int)) = false := by rw [decide_eq_false_iff_not]; omega
      go_wp2_with fail
      go_ret
      exact ⟨ret_bool (by rw [F.out]; first | exact nat_le_300 n | rfl), hbr⟩
end Go.Proofs.YtcmmppkmkejniaaGreatDoor
