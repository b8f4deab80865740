/-
  Lines of a report: amount, Make.
-/
import Derived.Test.YtenlbjobjnpghaaDoorRep1
namespace Go.Proofs.YtenlbjobjnpghaaDoor
open Go.RowKit
set_option linter.unusedVariables false
def resV (A : Option Addr) (n c : Nat) : Value := .agg #[.int .i64 0, .slice none 0 0, .slice none 0 0, .slice A n c]
def amtR (bs : List SBal) (r : SRow) : Int := if isTitle r then 0 else if r.neg then -(figL bs r.from_ r.to_) else figL bs r.from_ r.to_
theorem rtitle_any (r : SRow) (w : World) : Calls Tryd.prog 37 #[rowV r] w fun e w' => e = .returned (.bool (isTitle r)) ∧ Below w.heap.size w w' := by
  unfold isTitle rowV
  go_enter Tryd.func37, Tryd.ntmps37
  go_wp2_with fail
  go_ret
  exact ⟨rfl, (Below.refl _ _).alloc (Nat.le_refl _) _⟩
theorem figL_all {bs : List SBal} (f t : Int) (h : smallB bs) (hn : bs.length ≤ 200) : -225179981368524800 ≤ figL bs f t ∧ figL bs f t ≤ 225179981368524800 := by
  have := figL_bd f t h bs.length (Nat.le_refl _)
  rw [List.take_length] at this
  omega
set_option maxRecDepth 100000 in
set_option maxHeartbeats 4000000 in
theorem amount_any (bs : List SBal) (A : Option Addr) (n c : Nat) (r : SRow) (B : Nat) (w : World) (hr : Reads w B 2 A n (balsCells bs)) (hB : B ≤ w.heap.size) (hn : n ≤ 200) (hs : smallB bs) :
    Calls Tryd.prog 27 #[resV A n c, rowV r] w fun e w' => e = .returned (.int .i64 (amtR bs r)) ∧ Below w.heap.size w w' := by
  have hfb := figL_all r.from_ r.to_ hs (by rw [bals_len hr]; exact hn)
  obtain ⟨nm, lv, fr, to_, ng⟩ := r
  unfold rowV resV
  simp only [] at *
  have hb1 := (Below.refl w.heap.size w).alloc (Nat.le_refl _) (.cells #[.int .i64 0, .slice none 0 0, .slice none 0 0, .slice A n c] 33)
  have hb2 := hb1.alloc hb1.size (.cells #[.string ⟨nm.toArray⟩, .int .i64 lv, .int .i64 fr, .int .i64 to_, .bool ng] 46)
  have HB2 := Lib.hid hb2
  have HKR := Lib.hid ((Blk.new w 33 #[.int .i64 0, .slice none 0 0, .slice none 0 0, .slice A n c]).alloc (.cells #[.string ⟨nm.toArray⟩, .int .i64 lv, .int .i64 fr, .int .i64 to_, .bool ng] 46))
  have HKX := Lib.hid (Blk.new (w.alloc (.cells #[.int .i64 0, .slice none 0 0, .slice none 0 0, .slice A n c] 33)) 46 #[.string ⟨nm.toArray⟩, .int .i64 lv, .int .i64 fr, .int .i64 to_, .bool ng])
  have HR := Lib.hid hr
  have HS := Lib.hid hs
  clear hr hs hb1 hb2
  cases ht : isTitle ⟨nm, lv, fr, to_, ng⟩
  · have HT := Lib.hid ht
    cases ng
    · have F : Hid (amtR bs ⟨nm, lv, fr, to_, false⟩ = figL bs fr to_) := by
        show _ = _
        unfold amtR
        rw [ht]
        simp
      clear ht
      go_enter Tryd.func27, Tryd.ntmps27
      go_wp2_with fail
      refine (rtitle_any ⟨nm, lv, fr, to_, false⟩ _).mono ?_
      rintro e w2 ⟨rfl, hb3⟩
      rw [HT.out]
      have hb4 := HB2.out.trans (hb3.mono (by simp; omega))
      have c3 := (HKR.out.below hb3 (by simp; omega)).cell 3
      obtain ⟨x0, x1, x2, x3, x4⟩ := row_cells (HKX.out.below hb3 (by simp))
      simp only [List.getElem?_toArray, List.getElem?_cons_zero, List.getElem?_cons_succ, World.size_alloc] at c3 x0 x1 x2 x3 x4
      go_wp2_with fail
      refine (figure_any bs A n c fr to_ B _ (HR.out.low hB (Nat.le_refl _) hb4) (by have := hb4.size; omega) hn HS.out).mono ?_
      rintro e w5 ⟨rfl, hb5⟩
      have hk5 := row_cells ((HKX.out.below hb3 (by simp)).below hb5 (by have := hb3.size; simp at this ⊢; omega))
      obtain ⟨y0, y1, y2, y3, y4⟩ := hk5
      simp only [World.size_alloc] at y0 y1 y2 y3 y4
      generalize figL bs fr to_ = fg at *
      go_wp2_with fail
      go_ret
      exact ⟨ret_int F.out.symm, below_two hb4 hb5⟩
    · have F : Hid (amtR bs ⟨nm, lv, fr, to_, true⟩ = -(figL bs fr to_)) := by
        show _ = _
        unfold amtR
        rw [ht]
        simp
      clear ht
      go_enter Tryd.func27, Tryd.ntmps27
      go_wp2_with fail
      refine (rtitle_any ⟨nm, lv, fr, to_, true⟩ _).mono ?_
      rintro e w2 ⟨rfl, hb3⟩
      rw [HT.out]
      have hb4 := HB2.out.trans (hb3.mono (by simp; omega))
      have c3 := (HKR.out.below hb3 (by simp; omega)).cell 3
      obtain ⟨x0, x1, x2, x3, x4⟩ := row_cells (HKX.out.below hb3 (by simp))
      simp only [List.getElem?_toArray, List.getElem?_cons_zero, List.getElem?_cons_succ, World.size_alloc] at c3 x0 x1 x2 x3 x4
      go_wp2_with fail
      refine (figure_any bs A n c fr to_ B _ (HR.out.low hB (Nat.le_refl _) hb4) (by have := hb4.size; omega) hn HS.out).mono ?_
      rintro e w5 ⟨rfl, hb5⟩
      have hk5 := row_cells ((HKX.out.below hb3 (by simp)).below hb5 (by have := hb3.size; simp at this ⊢; omega))
      obtain ⟨y0, y1, y2, y3, y4⟩ := hk5
      simp only [World.size_alloc] at y0 y1 y2 y3 y4
      generalize figL bs fr to_ = fg at *
      go_wp2_with fail
      go_ret
      exact ⟨ret_int F.out.symm, below_two hb4 hb5⟩
  · have F : Hid (amtR bs ⟨nm, lv, fr, to_, ng⟩ = 0) := by show _ = _; unfold amtR; rw [ht]; rfl
    have HT := Lib.hid ht
    clear ht
    go_enter Tryd.func27, Tryd.ntmps27
    go_wp2_with fail
    refine (rtitle_any ⟨nm, lv, fr, to_, ng⟩ _).mono ?_
    rintro e w2 ⟨rfl, hb3⟩
    rw [HT.out]
    go_wp2_with fail
    go_ret
    exact ⟨ret_int F.out.symm, HB2.out.trans (hb3.mono (by simp; omega))⟩
end Go.Proofs.YtenlbjobjnpghaaDoor
