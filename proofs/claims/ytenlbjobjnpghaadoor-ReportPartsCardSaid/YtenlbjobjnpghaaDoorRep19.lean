/-
  The law ReportParts.
-/
import Derived.Test.YtenlbjobjnpghaaDoorRepPl3
import Derived.Test.YtenlbjobjnpghaaDoorRep11
import Derived.RegionTactic
import Derived.BigRegion
import Derived.BigQuiet
import Derived.ChangeAlike
namespace Go.Proofs.YtenlbjobjnpghaaDoor
open Go.RowKit
set_option linter.unusedVariables false
theorem parts_amt {bs : List SBal} {nm : List UInt8} {lv fr to_ m : Int} {ng : Bool} (h1 : fr ≤ m) (h2 : m < to_) : amtR bs ⟨nm, lv, fr, to_, ng⟩ = amtR bs ⟨nm, lv, fr, m, ng⟩ + amtR bs ⟨nm, lv, m + 1, to_, ng⟩ := by
  have t1 : isTitle ⟨nm, lv, fr, to_, ng⟩ = false := by unfold isTitle; rw [decide_eq_false_iff_not]; simp only []; omega
  have t2 : isTitle ⟨nm, lv, fr, m, ng⟩ = false := by unfold isTitle; rw [decide_eq_false_iff_not]; simp only []; omega
  have t3 : isTitle ⟨nm, lv, m + 1, to_, ng⟩ = false := by unfold isTitle; rw [decide_eq_false_iff_not]; simp only []; omega
  have hs := figL_split h1 h2 bs
  unfold amtR
  rw [t1, t2, t3]
  simp only [Bool.false_eq_true, if_false]
  cases ng <;> simp <;> omega
theorem neg_amt {bs : List SBal} {nm : List UInt8} {lv fr to_ : Int} {ng : Bool} (h : fr ≤ to_) : amtR bs ⟨nm, lv, fr, to_, !ng⟩ = -amtR bs ⟨nm, lv, fr, to_, ng⟩ := by
  have t1 : isTitle ⟨nm, lv, fr, to_, ng⟩ = false := by unfold isTitle; rw [decide_eq_false_iff_not]; simp only []; omega
  have t2 : isTitle ⟨nm, lv, fr, to_, !ng⟩ = false := by unfold isTitle; rw [decide_eq_false_iff_not]; simp only []; omega
  unfold amtR
  rw [t1, t2]
  simp only [Bool.false_eq_true, if_false]
  cases ng <;> simp
def fourR (nm : List UInt8) (fr m to_ : Int) (ng : Bool) : List SRow := [⟨nm, 0, fr, to_, ng⟩, ⟨nm, 0, fr, m, ng⟩, ⟨nm, 0, m + 1, to_, ng⟩, ⟨nm, 0, fr, to_, !ng⟩]
theorem four_valid {nm : List UInt8} {fr m to_ : Int} {ng : Bool} (h : validR [⟨nm, 0, fr, to_, ng⟩] = true) (h1 : fr ≤ m) (h2 : m < to_) : validR (fourR nm fr m to_ ng) = true := by
  have hk := (okRow_iff.1 (validR_row (k := 0) h (by simp)))
  obtain ⟨a1, a2, a3, a4⟩ := hk
  simp only [List.getD_cons_zero] at a1 a2 a3 a4
  have b4 := a4 (by omega)
  have ok : ∀ (f t : Int) (g : Bool) (b : Int), fr ≤ f → t ≤ to_ → f ≤ t → (b = -1 ∨ b = 0) → okRow b ⟨nm, 0, f, t, g⟩ = true := by
    intro f t g b c1 c2 c3 c4
    rw [okRow_iff]
    exact ⟨a1, by simp only []; omega, by simp only []; intro h; omega, by simp only []; intro _; omega⟩
  unfold validR fourR
  rw [Bool.and_eq_true]
  refine ⟨?_, by simp⟩
  simp only [validF, Bool.and_eq_true, Bool.and_true]
  exact ⟨ok _ _ _ _ (by omega) (by omega) (by omega) (.inl rfl), ok _ _ _ _ (by omega) (by omega) (by omega) (.inr rfl), ok _ _ _ _ (by omega) (by omega) (by omega) (.inr rfl), ok _ _ _ _ (by omega) (by omega) (by omega) (.inr rfl)⟩
theorem one_name {r : SRow} (h : validR [r] = true) : r.name.length ≤ 16 := by
  have := (okRow_bds (validR_row (k := 0) h (by simp))).1
  simpa using this
theorem one_range {r : SRow} (h : validR [r] = true) : 0 ≤ r.from_ ∧ r.to_ ≤ 99999 := by
  have := (okRow_bds (validR_row (k := 0) h (by simp))).2.2
  simp only [List.getD_cons_zero] at this
  omega
set_option maxRecDepth 100000 in
set_option maxHeartbeats 16000000 in
theorem lawParts (bs : List SBal) (r : SRow) (at_ : Int) (A : Option Addr) (n c : Nat) (w : World) (hE : Env w) (hr : Reads w w.heap.size 2 A n (balsCells bs)) (hn : n ≤ 9223372036854775807) (hnm : r.name.length ≤ 9223372036854775807) (ha0 : 0 ≤ at_) (ha1 : at_ ≤ 65535) :
    Calls Tryd.prog 5 #[.slice A n c, rowV r, .int .u16 at_] w fun e w' => e = .returned (.bool true) ∧ Below w.heap.size w w' := by
  have HR := Lib.hid hr
  have HLB := Lib.hid (bals_len hr)
  clear hr
  obtain ⟨nm, lv, fr, to_, ng⟩ := r
  unfold rowV
  simp only [] at hnm ⊢
  have hbX := (Below.refl w.heap.size w).alloc (Nat.le_refl _) (.cells (#[.string ⟨nm.toArray⟩, .int .i64 lv, .int .i64 fr, .int .i64 to_, .bool ng] : Array Value) 46)
  have HBX := Lib.hid hbX
  have HKX := Lib.hid (Blk.new w 46 #[.string ⟨nm.toArray⟩, .int .i64 lv, .int .i64 fr, .int .i64 to_, .bool ng])
  have hEX := hE.after hbX
  clear hbX
  cases hf : fewL bs []
  · have HF := Lib.hid hf
    clear hf
    go_enter Tryd.func5, Tryd.ntmps5
    go_wp2_with fail
    refine (awake_true _ hEX).mono ?_
    rintro e w1 ⟨rfl, hb1⟩
    have hb1 := below_two HBX.out hb1
    go_wp2_with fail
    refine (fewL_any bs [] A none n c 0 0 w.heap.size _ (HR.out.below hb1) Reads.none_ hn (by omega)).mono ?_
    rintro e wx ⟨rfl, rfl⟩
    rw [HF.out]
    go_wp2_with fail
    refine (awake_true _ (hE.after hb1)).mono ?_
    rintro e w2 ⟨rfl, hb2⟩
    go_wp2_with fail
    go_ret
    exact ⟨rfl, below_two hb1 hb2⟩
  have HF := Lib.hid hf
  obtain ⟨hs, h60, _⟩ := fewL_iff.1 hf
  have hn60 : n ≤ 60 := by have := HLB.out; omega
  have HS := Lib.hid hs
  clear hf hs h60
  go_enter Tryd.func5, Tryd.ntmps5
  go_wp2_with fail
  refine (awake_true _ hEX).mono ?_
  rintro e w1 ⟨rfl, hb⟩
  have hb1 := below_two HBX.out hb
  have hk1 := HKX.out.below hb (by simp)
  clear hb
  go_wp2_with fail
  refine (fewL_any bs [] A none n c 0 0 w.heap.size _ (HR.out.below hb1) Reads.none_ hn (by omega)).mono ?_
  rintro e wx ⟨rfl, rfl⟩
  rw [HF.out]
  obtain ⟨x0, x1, x2, x3, x4⟩ := row_cells hk1
  have fz := hk1.frozen
  have hk2 : Blk (w1.setCell ⟨w.heap.size, 1, none⟩ (.int .i64 0)) w.heap.size 46 #[.string ⟨nm.toArray⟩, .int .i64 0, .int .i64 fr, .int .i64 to_, .bool ng] := by
    have := hk1.set_ 1 (.int .i64 0)
    simpa using this
  have HK2 := Lib.hid hk2
  have HB2 : Hid (Below w.heap.size w (w1.setCell ⟨w.heap.size, 1, none⟩ (.int .i64 0))) := hb1.setCell (p := ⟨w.heap.size, 1, none⟩) (Nat.le_refl _) _
  clear hk2
  go_wp2_with fail
  have hz : (w1.setCell ⟨w.heap.size, 1, none⟩ (.int .i64 0)).heap.size = w1.heap.size := by simp [World.setCell]
  have HZ := Lib.hid hz
  clear x0 x1 x2 x3 x4 fz hk1 hb1 hz
  generalize w1.setCell ⟨w.heap.size, 1, none⟩ (.int .i64 0) = w2 at *
  obtain ⟨x0, x1, x2, x3, x4⟩ := row_cells HK2.out
  have hrd := reads_one w2 #[.string ⟨nm.toArray⟩, .int .i64 0, .int .i64 fr, .int .i64 to_, .bool ng] 46 5 rfl
  rw [HZ.out] at hrd
  have HV := Lib.hid (refValid_big [⟨nm, 0, fr, to_, ng⟩] (some ⟨w1.heap.size, 0, none⟩) 1 1 (w1.heap.size + 1) (w2.alloc (.cells #[.string ⟨nm.toArray⟩, .int .i64 0, .int .i64 fr, .int .i64 to_, .bool ng] 46)) hrd (by rw [World.size_alloc, HZ.out]; exact Nat.le_refl _) (by omega) (by intro x hx; rw [List.mem_singleton.1 hx]; exact hnm))
  have HB3 := Lib.hid (HB2.out.alloc HB2.out.size (.cells #[.string ⟨nm.toArray⟩, .int .i64 0, .int .i64 fr, .int .i64 to_, .bool ng] 46))
  have HK3 := Lib.hid (HK2.out.alloc (.cells #[.string ⟨nm.toArray⟩, .int .i64 0, .int .i64 fr, .int .i64 to_, .bool ng] 46))
  clear hrd
  go_wp2_with fail
  refine HV.out.mono ?_
  rintro e w3 ⟨rfl, hb3⟩
  have hk3 := HK3.out.below hb3 HK3.out.lt
  have HB4 := Lib.hid (below_two HB3.out hb3)
  clear hb3 x0 x1 x2 x3 x4
  obtain ⟨x0, x1, x2, x3, x4⟩ := row_cells hk3
  cases hv : validR [⟨nm, 0, fr, to_, ng⟩]
  · clear hv
    go_wp2_with fail
    go_ret
    exact ⟨rfl, HB4.out⟩
  have HVR := Lib.hid hv
  have hn16 := one_name hv
  have hrg := one_range hv
  simp only [] at hn16 hrg
  clear hv
  go_wp2_with fail
  refine (refTitle_any ⟨nm, 0, fr, to_, ng⟩ _).mono ?_
  rintro e w4 ⟨rfl, hb4⟩
  have hk4 := hk3.below hb4 hk3.lt
  have HB5 := Lib.hid (below_two HB4.out hb4)
  clear hb4 x0 x1 x2 x3 x4 hk3
  obtain ⟨x0, x1, x2, x3, x4⟩ := row_cells hk4
  cases ht : isTitle ⟨nm, 0, fr, to_, ng⟩
  case true =>
    clear ht
    go_wp2_with fail
    go_ret
    exact ⟨rfl, HB5.out⟩
  have hft : fr ≤ to_ := by
    unfold isTitle at ht
    rw [decide_eq_false_iff_not] at ht
    simp only [] at ht
    omega
  clear ht
  by_cases heq : fr = to_
  · have q1 : (fr == to_) = true := by rw [heq]; simp
    clear heq
    go_wp2_with fail
    go_ret
    exact ⟨rfl, HB5.out⟩
  have q1 : (fr == to_) = false := by rw [beq_eq_false_iff_ne]; exact heq
  have hlt : fr < to_ := by omega
  clear heq
  have HK4 := Lib.hid hk4
  have fz := hk4.frozen
  have hgl := hk4.lt
  clear hk4
  go_wp2_with fail
  have hn0 : w.heap.size ≠ w4.heap.size := by omega
  have hn1 : w.heap.size ≠ w4.heap.size + 1 := by omega
  have hn2 : w.heap.size ≠ w4.heap.size + 2 := by omega
  have hl1 : w.heap.size < w4.heap.size + 1 := by omega
  have hl2 : w.heap.size < w4.heap.size + 2 := by omega
  have hl3 : w.heap.size < w4.heap.size + 3 := by omega
  have hka : Blk (((w4.alloc (.cells #[.string ⟨nm.toArray⟩, .int .i64 0, .int .i64 fr, .int .i64 to_, .bool ng] 46)).alloc (.cells #[.string ⟨nm.toArray⟩, .int .i64 0, .int .i64 fr, .int .i64 to_, .bool ng] 46)).alloc (.cells #[.string ⟨nm.toArray⟩, .int .i64 0, .int .i64 fr, .int .i64 to_, .bool ng] 46)) w4.heap.size 46 #[.string ⟨nm.toArray⟩, .int .i64 0, .int .i64 fr, .int .i64 to_, .bool ng] := ((Blk.new w4 46 #[.string ⟨nm.toArray⟩, .int .i64 0, .int .i64 fr, .int .i64 to_, .bool ng]).alloc _).alloc _
  have hkb : Blk (((w4.alloc (.cells #[.string ⟨nm.toArray⟩, .int .i64 0, .int .i64 fr, .int .i64 to_, .bool ng] 46)).alloc (.cells #[.string ⟨nm.toArray⟩, .int .i64 0, .int .i64 fr, .int .i64 to_, .bool ng] 46)).alloc (.cells #[.string ⟨nm.toArray⟩, .int .i64 0, .int .i64 fr, .int .i64 to_, .bool ng] 46)) (w4.heap.size + 1) 46 #[.string ⟨nm.toArray⟩, .int .i64 0, .int .i64 fr, .int .i64 to_, .bool ng] := by
    have := (Blk.new (w4.alloc (.cells #[.string ⟨nm.toArray⟩, .int .i64 0, .int .i64 fr, .int .i64 to_, .bool ng] 46)) 46 #[.string ⟨nm.toArray⟩, .int .i64 0, .int .i64 fr, .int .i64 to_, .bool ng]).alloc (.cells #[.string ⟨nm.toArray⟩, .int .i64 0, .int .i64 fr, .int .i64 to_, .bool ng] 46)
    rwa [World.size_alloc] at this
  have hkc : Blk (((w4.alloc (.cells #[.string ⟨nm.toArray⟩, .int .i64 0, .int .i64 fr, .int .i64 to_, .bool ng] 46)).alloc (.cells #[.string ⟨nm.toArray⟩, .int .i64 0, .int .i64 fr, .int .i64 to_, .bool ng] 46)).alloc (.cells #[.string ⟨nm.toArray⟩, .int .i64 0, .int .i64 fr, .int .i64 to_, .bool ng] 46)) (w4.heap.size + 1 + 1) 46 #[.string ⟨nm.toArray⟩, .int .i64 0, .int .i64 fr, .int .i64 to_, .bool ng] := by
    have := Blk.new ((w4.alloc (.cells #[.string ⟨nm.toArray⟩, .int .i64 0, .int .i64 fr, .int .i64 to_, .bool ng] 46)).alloc (.cells #[.string ⟨nm.toArray⟩, .int .i64 0, .int .i64 fr, .int .i64 to_, .bool ng] 46)) 46 #[.string ⟨nm.toArray⟩, .int .i64 0, .int .i64 fr, .int .i64 to_, .bool ng]
    rwa [World.size_alloc, World.size_alloc] at this
  have hkx : Blk (((w4.alloc (.cells #[.string ⟨nm.toArray⟩, .int .i64 0, .int .i64 fr, .int .i64 to_, .bool ng] 46)).alloc (.cells #[.string ⟨nm.toArray⟩, .int .i64 0, .int .i64 fr, .int .i64 to_, .bool ng] 46)).alloc (.cells #[.string ⟨nm.toArray⟩, .int .i64 0, .int .i64 fr, .int .i64 to_, .bool ng] 46)) w.heap.size 46 #[.string ⟨nm.toArray⟩, .int .i64 0, .int .i64 fr, .int .i64 to_, .bool ng] := ((HK4.out.alloc _).alloc _).alloc _
  have hbw : Below w.heap.size w (((w4.alloc (.cells #[.string ⟨nm.toArray⟩, .int .i64 0, .int .i64 fr, .int .i64 to_, .bool ng] 46)).alloc (.cells #[.string ⟨nm.toArray⟩, .int .i64 0, .int .i64 fr, .int .i64 to_, .bool ng] 46)).alloc (.cells #[.string ⟨nm.toArray⟩, .int .i64 0, .int .i64 fr, .int .i64 to_, .bool ng] 46)) := ((HB5.out.alloc HB5.out.size _).alloc (by rw [World.size_alloc]; have := HB5.out.size; omega) _).alloc (by rw [World.size_alloc, World.size_alloc]; have := HB5.out.size; omega) _
  have HKA := Lib.hid hka
  have HKB := Lib.hid hkb
  have HKC := Lib.hid hkc
  have HKX5 := Lib.hid hkx
  have HBW := Lib.hid hbw
  clear hka hkb hkc hkx hbw
  rename_i K0 hK0
  have REST : ∀ (ba bb bc : Nat) (w5 : World), w.heap.size < ba → w.heap.size < bb → w.heap.size < bc → ba ≠ bb → ba ≠ bc → bb ≠ bc → Blk w5 w.heap.size 46 #[.string ⟨nm.toArray⟩, .int .i64 0, .int .i64 fr, .int .i64 to_, .bool ng] → Blk w5 ba 46 #[.string ⟨nm.toArray⟩, .int .i64 0, .int .i64 fr, .int .i64 to_, .bool ng] → Blk w5 bb 46 #[.string ⟨nm.toArray⟩, .int .i64 0, .int .i64 fr, .int .i64 to_, .bool ng] → Blk w5 bc 46 #[.string ⟨nm.toArray⟩, .int .i64 0, .int .i64 fr, .int .i64 to_, .bool ng] → Below w.heap.size w w5 → K0 { tmps := #[.slice A n c, .agg #[.string ⟨nm.toArray⟩, .int .i64 lv, .int .i64 fr, .int .i64 to_, .bool ng], .int .u16 at_, undef, .pointer (some ⟨w.heap.size, 0, none⟩), undef, .bool false, .pointer (some ⟨ba, 0, none⟩), .pointer (some ⟨bb, 0, none⟩), .pointer (some ⟨bc, 0, none⟩), undef, undef, .bool true, .bool false, .bool false, .slice A n c, .bool true, .bool false, .bool false, undef, .pointer (some ⟨w.heap.size, 1, none⟩), .agg #[.string ⟨nm.toArray⟩, .int .i64 0, .int .i64 fr, .int .i64 to_, .bool ng], .slice (some ⟨w1.heap.size, 0, none⟩) 1 1, .bool true, .bool false, .bool false, .agg #[.string ⟨nm.toArray⟩, .int .i64 0, .int .i64 fr, .int .i64 to_, .bool ng], .bool false, .bool false, .bool false, .pointer (some ⟨w.heap.size, 2, none⟩), .int .i64 fr, .pointer (some ⟨w.heap.size, 3, none⟩), .int .i64 to_, .bool false, .bool false, .agg #[.string ⟨nm.toArray⟩, .int .i64 0, .int .i64 fr, .int .i64 to_, .bool ng], .agg #[.string ⟨nm.toArray⟩, .int .i64 0, .int .i64 fr, .int .i64 to_, .bool ng], .agg #[.string ⟨nm.toArray⟩, .int .i64 0, .int .i64 fr, .int .i64 to_, .bool ng], undef, undef, undef, undef, undef, undef, undef, undef, undef, undef, undef, undef, undef, undef, undef, undef, undef, undef, undef, undef, undef, undef, undef, undef, undef, undef, undef, undef, undef, undef, undef, undef, undef, undef, undef, undef, undef, undef, undef, undef, undef, undef, undef, undef, undef, undef, undef, undef, undef, undef, undef, undef, undef, undef, undef, undef, undef, undef, undef, undef, undef, undef, undef, undef, undef, undef], defers := [] } w5.drew := by
    intro ba bb bc w5 z1 z2 z3 z4 z5 z6 k0 ka kb kc hb5
    refine hK0 _ _ ?_
    obtain ⟨x0, x1, x2, x3, x4⟩ := row_cells k0.drew
    obtain ⟨a0, a1, a2, a3, a4⟩ := row_cells ka.drew
    have fa := ka.drew.frozen
    have K_X := Lib.hid k0.drew
    have K_A := Lib.hid ka.drew
    have K_B := Lib.hid kb.drew
    have K_C := Lib.hid kc.drew
    have H_B := Lib.hid hb5.drew
    clear hb5 k0 ka kb kc
    generalize w5.drew = w5 at *
    clear HKA HKB HKC HKX5 HBW HK4 HB5 x0
    have hq1 : 0 ≤ at_ % (to_ - fr) := Int.emod_nonneg _ (by omega)
    have hq2 : at_ % (to_ - fr) < to_ - fr := Int.emod_lt_of_pos _ (by omega)
    go_wp2_with fail
    go_region
    have hw0 : wrap64 (fr + at_ % (to_ - fr)) = fr + at_ % (to_ - fr) := IntWalk.wrap64_in _ (by omega)
    try rw [hw0]
    clear hw0
    generalize hd : at_ % (to_ - fr) = d at *
    generalize hm : fr + d = m at *
    clear hd
    have hm1 : fr ≤ m := by omega
    have hm2 : m < to_ := by omega
    clear hm hq1 hq2
    have ka6 : Blk (w5.setCell ⟨ba, 3, none⟩ (.int .i64 m)).drew ba 46 #[.string ⟨nm.toArray⟩, .int .i64 0, .int .i64 fr, .int .i64 m, .bool ng] := by
      have := (K_A.out.set_ 3 (.int .i64 m)).drew
      simpa using this
    have kx6 := (K_X.out.far (p := ⟨ba, 3, none⟩) (by simp only []; omega) (.int .i64 m)).drew
    have kb6 := (K_B.out.far (p := ⟨ba, 3, none⟩) (by simp only []; omega) (.int .i64 m)).drew
    have kc6 := (K_C.out.far (p := ⟨ba, 3, none⟩) (by simp only []; omega) (.int .i64 m)).drew
    have hb6 := (H_B.out.setCell (p := ⟨ba, 3, none⟩) (by simp only []; omega) (.int .i64 m)).drew
    clear a0 a1 a2 a3 a4 fa x1 x2 x3 x4 K_X K_A K_B K_C H_B
    generalize (w5.setCell ⟨ba, 3, none⟩ (.int .i64 m)).drew = w6 at *
    clear w5
    have kb7 : Blk (w6.setCell ⟨bb, 2, none⟩ (.int .i64 (m + 1))) bb 46 #[.string ⟨nm.toArray⟩, .int .i64 0, .int .i64 (m + 1), .int .i64 to_, .bool ng] := by
      have := kb6.set_ 2 (.int .i64 (m + 1))
      simpa using this
    have KX7 := Lib.hid (kx6.far (p := ⟨bb, 2, none⟩) (by simp only []; omega) (.int .i64 (m + 1)))
    have KA7 := Lib.hid (ka6.far (p := ⟨bb, 2, none⟩) (by simp only []; omega) (.int .i64 (m + 1)))
    have KB7 := Lib.hid kb7
    have KC7 := Lib.hid (kc6.far (p := ⟨bb, 2, none⟩) (by simp only []; omega) (.int .i64 (m + 1)))
    have HB7 := Lib.hid (hb6.setCell (p := ⟨bb, 2, none⟩) (by simp only []; omega) (.int .i64 (m + 1)))
    obtain ⟨a0, a1, a2, a3, a4⟩ := row_cells ka6
    have fb := kb6.frozen
    obtain ⟨b0, b1, b2, b3, b4⟩ := row_cells kb6
    obtain ⟨x0, x1, x2, x3, x4⟩ := row_cells kx6
    have fc := kc6.frozen
    obtain ⟨c0, c1, c2, c3, c4⟩ := row_cells kc6
    clear ka6 kb6 kc6 kx6 kb7 hb6
    go_wp2_with fail
    have hb8 := HB7.out.setCell (p := ⟨bc, 4, none⟩) (by simp only []; omega) (.bool (!ng))
    have hz8 : ((w6.setCell ⟨bb, 2, none⟩ (.int .i64 (m + 1))).setCell ⟨bc, 4, none⟩ (.bool (!ng))).heap.size = w6.heap.size := by simp [World.setCell]
    have hfv : validR (fourR nm fr m to_ ng) = true := four_valid HVR.out hm1 hm2
    have hpa : amtR bs ⟨nm, 0, fr, to_, ng⟩ = amtR bs ⟨nm, 0, fr, m, ng⟩ + amtR bs ⟨nm, 0, m + 1, to_, ng⟩ := parts_amt hm1 hm2
    have hna : amtR bs ⟨nm, 0, fr, to_, !ng⟩ = -amtR bs ⟨nm, 0, fr, to_, ng⟩ := neg_amt hft
    have HPA := Lib.hid hpa
    have HNA := Lib.hid hna
    have hnf : ∀ r ∈ fourR nm fr m to_ ng, r.name.length ≤ 3000 := by
      intro r hr
      simp only [fourR, List.mem_cons, List.not_mem_nil, or_false] at hr
      rcases hr with rfl | rfl | rfl | rfl <;> (simp only []; omega)
    clear x0 x1 x2 x3 x4 a0 a1 a2 a3 a4 b0 b1 b2 b3 b4 c0 c1 c2 c3 c4 fb fc KX7 KA7 KB7 KC7 HB7 hpa hna
    generalize (w6.setCell ⟨bb, 2, none⟩ (.int .i64 (m + 1))).setCell ⟨bc, 4, none⟩ (.bool (!ng)) = w8 at *
    have hrd := reads_many w8 #[.string ⟨nm.toArray⟩, .int .i64 0, .int .i64 fr, .int .i64 to_, .bool ng, .string ⟨nm.toArray⟩, .int .i64 0, .int .i64 fr, .int .i64 m, .bool ng, .string ⟨nm.toArray⟩, .int .i64 0, .int .i64 (m + 1), .int .i64 to_, .bool ng, .string ⟨nm.toArray⟩, .int .i64 0, .int .i64 fr, .int .i64 to_, .bool (!ng)] 46 5 4 rfl
    rw [hz8] at hrd
    have hb9 := hb8.alloc hb8.size (.cells #[.string ⟨nm.toArray⟩, .int .i64 0, .int .i64 fr, .int .i64 to_, .bool ng, .string ⟨nm.toArray⟩, .int .i64 0, .int .i64 fr, .int .i64 m, .bool ng, .string ⟨nm.toArray⟩, .int .i64 0, .int .i64 (m + 1), .int .i64 to_, .bool ng, .string ⟨nm.toArray⟩, .int .i64 0, .int .i64 fr, .int .i64 to_, .bool (!ng)] 46)
    have hws := hb8.size
    refine (make_any bs (fourR nm fr m to_ ng) A (some ⟨w6.heap.size, 0, none⟩) n c 4 4 (w6.heap.size + 1) _ ((HR.out.below hb9).more (by omega)) hrd (by rw [World.size_alloc, hz8]; exact Nat.le_refl _) (by omega) HS.out (by omega) (by omega) hnf).mono ?_
    rintro e w10 ⟨v, rfl, hown, hb10⟩
    have hbz := below_two hb9 hb10
    clear hb9 hb8 hb10 hrd hz8 hnf
    cases hme : (mkE bs (fourR nm fr m to_ ng) == 0)
    · have he2 : mkE bs (fourR nm fr m to_ ng) = 2 := by
        unfold mkE at hme ⊢
        rw [hfv, if_pos rfl] at hme ⊢
        split at hme
        · simp at hme
        · rename_i hno; rw [if_neg hno]
      rw [he2]
      have hml : mkL bs (fourR nm fr m to_ ng) = [] := by unfold mkL; rw [he2]; rfl
      rw [hml] at hown
      obtain ⟨A1, c1, rfl⟩ := own_slice hown
      clear hown hme he2 hml hfv
      go_wp2_with fail
      go_ret
      exact ⟨rfl, hbz⟩
    · have he0 : mkE bs (fourR nm fr m to_ ng) = 0 := by simpa using hme
      obtain ⟨_, hmk, hml⟩ := mk_ok he0
      rw [he0]
      rw [hml] at hown
      have ho : ∀ r ∈ fourR nm fr m to_ ng, okAmt (amtR bs r) = true := by unfold mkOk at hmk; exact List.all_eq_true.1 hmk
      have o1 := okAmt_iff.1 (ho ⟨nm, 0, fr, m, ng⟩ (by simp [fourR]))
      have o2 := okAmt_iff.1 (ho ⟨nm, 0, m + 1, to_, ng⟩ (by simp [fourR]))
      clear hme he0 hmk hml hfv ho
      unfold fourR at hown
      simp only [List.map_cons, List.map_nil, List.length_cons, List.length_nil, lnR] at hown
      rw [HNA.out, HPA.out] at hown
      generalize amtR bs ⟨nm, 0, fr, m, ng⟩ = p1 at *
      generalize amtR bs ⟨nm, 0, m + 1, to_, ng⟩ = p2 at *
      obtain ⟨A1, c1, rfl⟩ := own_slice hown
      have hrx := Reads.of_own hown
      clear hown HNA HPA
      obtain ⟨ad, rfl, had, _, _, _, _, _, d0⟩ := hrx.line_at (k := 0) (by omega)
      obtain ⟨ad1, h1, _, _, _, _, _, _, d1⟩ := hrx.line_at (k := 1) (by omega)
      obtain rfl : ad1 = ad := by injection h1 with h; exact h.symm
      obtain ⟨ad2, h2, _, _, _, _, _, _, d2⟩ := hrx.line_at (k := 2) (by omega)
      obtain rfl : ad2 = ad1 := by injection h2 with h; exact h.symm
      obtain ⟨ad3, h3, _, _, _, _, _, _, d3⟩ := hrx.line_at (k := 3) (by omega)
      obtain rfl : ad3 = ad2 := by injection h3 with h; exact h.symm
      clear h1 h2 h3 hrx
      simp only [List.getD_cons_zero, List.getD_cons_succ, Nat.zero_mul, Nat.one_mul, Nat.reduceMul, Addr.add_zero', Addr.add_succ'] at d0 d1 d2 d3
      have q7 : (p1 + p2 == p1 + p2) = true := by simp
      have q8 : (-(p1 + p2) == -(p1 + p2)) = true := by simp
      go_wp2_with fail
      go_quiet (fail)
      go_wp2_with fail
      go_ret
      exact ⟨rfl, below_two hbz (below_draws ⟨_, rfl⟩)⟩
  go_region
  all_goals first
    | exact REST w4.heap.size (w4.heap.size + 1) (w4.heap.size + 1 + 1) _ (by omega) (by omega) (by omega) (by omega) (by omega) (by omega) HKX5.out HKA.out HKB.out HKC.out HBW.out
    | exact REST w4.heap.size (w4.heap.size + 1 + 1) (w4.heap.size + 1) _ (by omega) (by omega) (by omega) (by omega) (by omega) (by omega) HKX5.out HKA.out HKC.out HKB.out HBW.out
    | exact REST (w4.heap.size + 1) w4.heap.size (w4.heap.size + 1 + 1) _ (by omega) (by omega) (by omega) (by omega) (by omega) (by omega) HKX5.out HKB.out HKA.out HKC.out HBW.out
    | exact REST (w4.heap.size + 1) (w4.heap.size + 1 + 1) w4.heap.size _ (by omega) (by omega) (by omega) (by omega) (by omega) (by omega) HKX5.out HKB.out HKC.out HKA.out HBW.out
    | exact REST (w4.heap.size + 1 + 1) w4.heap.size (w4.heap.size + 1) _ (by omega) (by omega) (by omega) (by omega) (by omega) (by omega) HKX5.out HKC.out HKA.out HKB.out HBW.out
    | exact REST (w4.heap.size + 1 + 1) (w4.heap.size + 1) w4.heap.size _ (by omega) (by omega) (by omega) (by omega) (by omega) (by omega) HKX5.out HKC.out HKB.out HKA.out HBW.out
end Go.Proofs.YtenlbjobjnpghaaDoor
