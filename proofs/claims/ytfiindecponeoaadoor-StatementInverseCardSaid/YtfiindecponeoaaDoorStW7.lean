/-
  The reference's Print, Few, awake; the laws StatementPrint and StatementBegins.
-/
import Derived.Test.YtfiindecponeoaaDoorStW6
namespace Go.Proofs.YtfiindecponeoaaDoor
open Go.RowKit
set_option linter.unusedVariables false
theorem reads_many (w : World) (cs : Array Value) (T : TypeId) (size n : Nat) (h : cs.size = n * size) : Reads (w.alloc (.cells cs T)) (w.heap.size + 1) size (some ⟨w.heap.size, 0, none⟩) n cs.toList := by
  refine ⟨by simpa using h, fun _ => ⟨_, rfl, Nat.lt_succ_self _, fun j u hj => ?_⟩⟩
  have hb := Blk.new w T cs
  have e : (⟨w.heap.size, 0, none⟩ : Addr).add j = ⟨w.heap.size, j, none⟩ := by unfold Addr.add; split <;> simp_all
  rw [e, hb.cell j, ← hj]
  simp
set_option maxRecDepth 100000 in
set_option maxHeartbeats 4000000 in
theorem refPrint_any (rs : List SRow) (A : Option Addr) (n c : Nat) (B : Nat) (w : World) (hr : Reads w B 5 A n (rowsCells rs)) (hB : B ≤ w.heap.size) (hn63 : n ≤ 9223372036854775807) (hnm : ∀ r ∈ rs, r.name.length ≤ 3000) :
    Calls Tryd.prog 11 #[.slice A n c] w fun e w' => e = .returned (.tuple #[.string ⟨(prS rs).toArray⟩, .int .i64 (prE rs)]) ∧ Below w.heap.size w w' := by
  have HL := Lib.hid (rows_len hr)
  have HR := Lib.hid hr
  have HV := Lib.hid (refValid_any rs A n c B w hr hB hn63 hnm)
  clear hr hnm
  cases hv : validR rs
  · have F : Hid (prS rs = [] ∧ prE rs = 1) := by
      show _ ∧ _
      unfold prS prE; rw [hv]; exact ⟨rfl, rfl⟩
    go_enter Tryd.func11, Tryd.ntmps11
    have HVF := Lib.hid hv
    clear hv
    go_wp2_with fail
    refine HV.out.mono ?_
    rintro e w1 ⟨rfl, hb⟩
    rw [HVF.out]
    go_wp2_with fail
    go_ret2
    exact ⟨tup_se (by rw [F.out.1]) F.out.2.symm, hb⟩
  · have F : Hid (prS rs = textL rs ∧ prE rs = 0) := by
      show _ ∧ _
      unfold prS prE; rw [hv]; exact ⟨rfl, rfl⟩
    have HT := Lib.hid (textL_len hv)
    have hnl := validR_len hv
    have HVF := Lib.hid hv
    clear hv
    have hn3 : n ≤ 300 := by have := HL.out; omega
    clear hnl
    go_enter Tryd.func11, Tryd.ntmps11
    go_wp2_with fail
    refine HV.out.mono ?_
    rintro e w1 ⟨rfl, hb⟩
    rw [HVF.out]
    have HB1 := Lib.hid hb
    clear hb
    go_wp2_with fail
    go_loopw [4, 5] (fun s i wr => ∃ k : Nat, k ≤ n ∧ i = .int .i64 k ∧ s = .string ⟨(textL (rs.take k)).toArray⟩ ∧ Below w.heap.size w wr) (fun _ i _ => n - (intOf i).toNat)
    case atStart => exact ⟨0, Nat.zero_le _, rfl, rfl, HB1.out⟩
    case round =>
      obtain ⟨k, hk, rfl, rfl, hbr⟩ := hrel
      obtain ⟨wo, rfl⟩ : ∃ wo : World, wo = wr := ⟨_, rfl⟩
      by_cases hlt : k < n
      · have k3 : decide ((k : Int) < (n : Int)) = true := by rw [decide_eq_true_eq]; omega
        obtain ⟨ad, rfl, hab, c0, c1, c2, c3, c4⟩ := (HR.out.low hB (Nat.le_refl _) hbr).row_at hlt
        have hkl : k < rs.length := by rw [HL.out]; exact hlt
        have hok := okRow_bds (validR_row HVF.out hkl)
        have hll := line_len (validR_row HVF.out hkl)
        have HS : Hid (textL (rs.take (k + 1)) = textL (rs.take k) ++ (lineL (rs.getD k default) ++ [10])) := by
          show _ = _
          exact textL_step hkl
        have htl := HT.out k (by omega)
        generalize rs.getD k default = r at *
        generalize textL (rs.take k) = T at *
        have HP := Lib.hid (refLine_any r wo (by omega) (by omega) (by omega) (by omega) (by omega) (by omega) (by omega))
        obtain ⟨nm, lv, fr, to_, ng⟩ := r
        clear hok
        go_wp2_with fail
        refine HP.out.mono ?_
        rintro e w2 ⟨rfl, hb2⟩
        have HB2 := Lib.hid (below_two hbr hb2)
        clear hb2 c0 c1 c2 c3 c4 HP
        generalize lineL ⟨nm, lv, fr, to_, ng⟩ = L at *
        have n1 : ¬9223372036854775807 < L.length + 1 := by omega
        have n2 : ¬9223372036854775807 < T.length + (L.length + 1) := by omega
        go_wp2_with fail
        go_roundw
        case rel => exact ⟨k + 1, by omega, by go_num, by rw [HS.out]; congr 1, HB2.out⟩
        case measure => simp [intOf]; omega
      · have k3 : decide ((k : Int) < (n : Int)) = false := by rw [decide_eq_false_iff_not]; omega
        rw [List.take_of_length_le (show rs.length ≤ k by rw [HL.out]; omega)]
        go_wp2_with fail
        go_ret2
        exact ⟨tup_se (by rw [F.out.1]) F.out.2.symm, hbr⟩
def fewB (rs : List SRow) : Bool := rs.all (fun r => decide (r.name.length ≤ 60)) && decide (rs.length ≤ 310)
theorem fewB_iff {rs : List SRow} : fewB rs = true ↔ (∀ r ∈ rs, r.name.length ≤ 60) ∧ rs.length ≤ 310 := by
  unfold fewB; simp
theorem few_any (rs : List SRow) (A : Option Addr) (n c : Nat) (B : Nat) (w : World) (hr : Reads w B 5 A n (rowsCells rs)) (hn63 : n ≤ 9223372036854775807) :
    Calls Tryd.prog 9 #[.slice A n c] w fun e w' => e = .returned (.bool (fewB rs)) ∧ w = w' := by
  have HL := Lib.hid (rows_len hr)
  have HR := Lib.hid hr
  clear hr
  go_enter Tryd.func9, Tryd.ntmps9
  go_wp2_with fail
  go_loop [3] (fun i => ∃ k : Nat, k ≤ n ∧ i = .int .i64 k ∧ ∀ r ∈ rs.take k, r.name.length ≤ 60) (fun i => n - (intOf i).toNat)
  case atStart => exact ⟨0, Nat.zero_le _, rfl, by simp⟩
  case round =>
    obtain ⟨k, hk, rfl, hd⟩ := hrel
    have HD := Lib.hid hd
    clear hd
    by_cases hlt : k < n
    · have k3 : decide ((k : Int) < (n : Int)) = true := by rw [decide_eq_true_eq]; omega
      obtain ⟨ad, rfl, hab, c0, c1, c2, c3, c4⟩ := HR.out.row_at hlt
      have hkl : k < rs.length := by rw [HL.out]; exact hlt
      by_cases h60 : 60 < (rs.getD k default).name.length
      · have F : Hid (fewB rs = false) := by
          show _ = _
          cases h : fewB rs
          · rfl
          · have := (fewB_iff.1 h).1 _ (getD_mem' hkl)
            omega
        have hd : decide ((60 : Int) < ((rs.getD k default).name.length : Int)) = true := by rw [decide_eq_true_eq]; omega
        clear hkl
        generalize rs.getD k default = r at *
        go_wp2_with fail
        go_ret
        exact ⟨ret_bool F.out.symm, rfl⟩
      · have F : Hid (∀ r ∈ rs.take (k + 1), r.name.length ≤ 60) := by
          show ∀ _, _
          intro r hr
          rw [List.take_succ_eq_append_getElem hkl] at hr
          rcases List.mem_append.1 hr with hr | hr
          · exact HD.out r hr
          · obtain rfl := List.mem_singleton.1 hr
            have e : rs.getD k default = rs[k] := by simp [List.getD, hkl]
            rw [← e]; omega
        have hd : decide ((60 : Int) < ((rs.getD k default).name.length : Int)) = false := by rw [decide_eq_false_iff_not]; omega
        clear hkl
        generalize rs.getD k default = r at *
        go_wp2_with fail
        go_round
        case rel => exact ⟨k + 1, by omega, by go_num, F.out⟩
        case measure => simp [intOf]; omega
    · have k3 : decide ((k : Int) < (n : Int)) = false := by rw [decide_eq_false_iff_not]; omega
      have F : Hid (fewB rs = decide ((n : Int) ≤ 310)) := by
        show _ = _
        have hd := HD.out
        rw [List.take_of_length_le (show rs.length ≤ k by rw [HL.out]; omega)] at hd
        rw [Bool.eq_iff_iff, fewB_iff, decide_eq_true_eq]
        have := HL.out
        constructor
        · rintro ⟨_, h⟩; omega
        · intro h; exact ⟨hd, by omega⟩
      go_wp2_with fail
      go_ret
      exact ⟨ret_bool (by rw [F.out]), rfl⟩
def awRows : List SRow := [⟨[65, 115, 115, 101, 116, 115], 0, 1, 0, false⟩, ⟨[67, 97, 115, 104], 1, 1000, 1099, false⟩]
theorem aw_text : prS awRows = [48, 32, 34, 65, 115, 115, 101, 116, 115, 34, 10, 49, 32, 34, 67, 97, 115, 104, 34, 32, 49, 48, 48, 48, 46, 46, 49, 48, 57, 57, 10] := by kernel_rfl
theorem aw_err : prE awRows = 0 := by kernel_rfl
set_option maxRecDepth 100000 in
set_option maxHeartbeats 4000000 in
theorem awake_true (w : World) (hE : Env w) : Calls Tryd.prog 8 #[] w fun e w' => e = .returned (.bool true) ∧ Below w.heap.size w w' := by
  have ha := (Below.refl w.heap.size w).alloc (Nat.le_refl _) (.cells #[.string ⟨#[65, 115, 115, 101, 116, 115]⟩, .int .i64 0, .int .i64 1, .int .i64 0, .bool false, .string ⟨#[67, 97, 115, 104]⟩, .int .i64 1, .int .i64 1000, .int .i64 1099, .bool false] 40)
  have HP := Lib.hid (print_any awRows (some ⟨w.heap.size, 0, none⟩) 2 2 (w.heap.size + 1) (w.alloc (.cells #[.string ⟨#[65, 115, 115, 101, 116, 115]⟩, .int .i64 0, .int .i64 1, .int .i64 0, .bool false, .string ⟨#[67, 97, 115, 104]⟩, .int .i64 1, .int .i64 1000, .int .i64 1099, .bool false] 40)) (hE.after ha) (reads_many w _ 40 5 2 rfl) (by simp) (by omega) (by omega) (by
    intro r hr
    unfold awRows at hr
    simp only [List.mem_cons, List.not_mem_nil, or_false] at hr
    rcases hr with rfl | rfl <;> simp))
  have HA := Lib.hid ha
  clear ha
  rw [aw_text, aw_err] at HP
  go_enter Tryd.func8, Tryd.ntmps8
  go_wp2_with fail
  refine HP.out.mono ?_
  rintro e w1 ⟨rfl, hb⟩
  go_wp2_with fail
  go_ret
  exact ⟨rfl, below_two HA.out hb⟩
end Go.Proofs.YtfiindecponeoaaDoor
