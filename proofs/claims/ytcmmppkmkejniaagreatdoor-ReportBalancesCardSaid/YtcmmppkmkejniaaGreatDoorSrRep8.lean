/-
  caption, width, the closure of Text.
-/
import Derived.Test.YtcmmppkmkejniaaGreatDoorBlSr
import Derived.Test.YtcmmppkmkejniaaGreatDoorShelf2
import Derived.Lib.Repeat
import Derived.Deep.RegionHeld3
import Derived.IntWalk
namespace Go.Proofs.YtcmmppkmkejniaaGreatDoor
open Go.RowKit
set_option linter.unusedVariables false
theorem spc_any (k : Nat) (n : Int) (zs : List UInt8) (w : World) (hk : k ≤ 1000) (hn : n = k) (hz : List.replicate k 32 = zs) : Calls Tryz.prog 54 #[.string ⟨#[32]⟩, .int .i64 n] w fun e w' => e = .returned (.string ⟨zs.toArray⟩) ∧ Below w.heap.size w w' := by
  subst hn
  subst hz
  have h := Tryz.strings_Repeat ⟨#[32]⟩ k w (by omega) (by show 1 * k ≤ _; omega)
  rw [show (⟨#[32]⟩ : ByteArray).data.toList = List.replicate 1 32 from rfl, Lib.repeatL_replicate, Nat.mul_one] at h
  exact h
theorem spc2_any (k : Nat) (n : Int) (zs : List UInt8) (w : World) (hk : k ≤ 1000) (hn : n = k) (hz : List.replicate (2 * k) 32 = zs) : Calls Tryz.prog 54 #[.string ⟨#[32, 32]⟩, .int .i64 n] w fun e w' => e = .returned (.string ⟨zs.toArray⟩) ∧ Below w.heap.size w w' := by
  subst hn
  subst hz
  have h := Tryz.strings_Repeat ⟨#[32, 32]⟩ k w (by omega) (by show 2 * k ≤ _; omega)
  rw [show (⟨#[32, 32]⟩ : ByteArray).data.toList = List.replicate 2 32 from rfl, Lib.repeatL_replicate, Nat.mul_comm] at h
  exact h
set_option maxRecDepth 100000 in
set_option maxHeartbeats 4000000 in
theorem caption_any (x : SLine) (w : World) (h1 : x.row.name.length ≤ 16) (h2 : 0 ≤ x.row.level) (h3 : x.row.level ≤ 9) :
    Calls Tryz.prog 52 #[lineV x] w fun e w' => e = .returned (.string ⟨(capL x).toArray⟩) ∧ Below w.heap.size w w' := by
  obtain ⟨⟨nm, lv, fr, to_, ng⟩, am⟩ := x
  unfold lineV
  simp only [] at *
  obtain ⟨zs, hz⟩ : ∃ zs : List UInt8, List.replicate (2 * lv.toNat) 32 = zs := ⟨_, rfl⟩
  have hzl : zs.length ≤ 18 := by rw [← hz, List.length_replicate]; omega
  have F : Hid (capL ⟨⟨nm, lv, fr, to_, ng⟩, am⟩ = zs ++ nm) := by show _ = _; unfold capL; rw [← hz]
  have HZ := Lib.hid hz
  clear hz
  go_enter Tryz.func52, Tryz.ntmps52
  go_wp2_with fail
  have hs0 : Below w.heap.size w (w.alloc (.cells #[.string ⟨nm.toArray⟩, .int .i64 lv, .int .i64 fr, .int .i64 to_, .bool ng, .int .i64 am] 102)) := (Below.refl _ _).alloc (Nat.le_refl _) _
  have hs1 : w.heap.size < (w.alloc (.cells #[.string ⟨nm.toArray⟩, .int .i64 lv, .int .i64 fr, .int .i64 to_, .bool ng, .int .i64 am] 102)).heap.size := by simp
  obtain ⟨hc0, hc1, hc2, hc3, hc4, hc5⟩ := line_blk (Blk.new w 102 #[.string ⟨nm.toArray⟩, .int .i64 lv, .int .i64 fr, .int .i64 to_, .bool ng, .int .i64 am])
  generalize w.alloc (.cells #[.string ⟨nm.toArray⟩, .int .i64 lv, .int .i64 fr, .int .i64 to_, .bool ng, .int .i64 am] 102) = wz at *
  have n1 : ¬9223372036854775807 < zs.length + nm.length := by omega
  go_region_held3 (fun w' => Below w.heap.size w w' ∧ w.heap.size < w'.heap.size ∧ w'.cell? ⟨w.heap.size, 0, none⟩ = some (.string ⟨nm.toArray⟩) ∧ w'.cell? ⟨w.heap.size, 1, none⟩ = some (.int .i64 lv))
    ((go_split_ands
      refine ⟨?_, ?_, ?_, ?_⟩
      · (first | assumption | exact Below.drew (by assumption) | exact below_two (by assumption) hbx | exact below_two (Below.drew (by assumption)) hbx)
      · (first | assumption | (have := hbx.size; omega) | (have := hbx.size; simp at this; omega))
      · (first | assumption | exact (hbx.cell (by assumption)).trans (by assumption))
      · (first | assumption | exact (hbx.cell (by assumption)).trans (by assumption))))
    ((go_at_call 54; refine (spc2_any lv.toNat lv zs _ (by omega) (by omega) HZ.out).mono ?_; rintro e wx ⟨rfl, hbx⟩))
  all_goals
    have hS : Below w.heap.size w _ := (show Below w.heap.size w _ ∧ w.heap.size < _ ∧ _ from by assumption).1
    go_wp2_with fail
    go_ret
    exact ⟨ret_str' (by rw [F.out]; apply ByteArray.ext; simp), hS⟩
set_option maxRecDepth 100000 in
set_option maxHeartbeats 8000000 in
theorem width_any (x : SLine) (w : World) (hE : Env w) (h1 : x.row.name.length ≤ 16) (h2 : 0 ≤ x.row.level) (h3 : x.row.level ≤ 9) (h4 : okAmt x.amt = true) :
    Calls Tryz.prog 49 #[lineV x] w fun e w' => e = .returned (.int .i64 (widL x)) ∧ Below w.heap.size w w' := by
  have HC : Hid (∀ w, Calls Tryz.prog 52 #[lineV x] w fun e w' => e = .returned (.string ⟨(capL x).toArray⟩) ∧ Below w.heap.size w w') := fun w => caption_any x w h1 h2 h3
  have hcl : (capL x).length ≤ 34 := by rw [capL_len]; omega
  have hal := amtText_len x.amt
  have hwl := widL_row (x := x)
  have hwt := widL_title (x := x)
  have HM : Hid (∀ w, Env w → Calls Tryz.prog 55 #[.int .i64 x.amt] w fun e w' => e = .returned (.string ⟨(amtText x.amt).toArray⟩) ∧ Below w.heap.size w w') := fun w hE => moneyText_all x.amt w hE
  obtain ⟨⟨nm, lv, fr, to_, ng⟩, am⟩ := x
  unfold lineV at *
  simp only [] at *
  have hs0 : Below w.heap.size w (w.alloc (.cells #[.string ⟨nm.toArray⟩, .int .i64 lv, .int .i64 fr, .int .i64 to_, .bool ng, .int .i64 am] 102)) := (Below.refl _ _).alloc (Nat.le_refl _) _
  have hs1 : w.heap.size < (w.alloc (.cells #[.string ⟨nm.toArray⟩, .int .i64 lv, .int .i64 fr, .int .i64 to_, .bool ng, .int .i64 am] 102)).heap.size := by simp
  have HK := Lib.hid (Blk.new w 102 #[.string ⟨nm.toArray⟩, .int .i64 lv, .int .i64 fr, .int .i64 to_, .bool ng, .int .i64 am])
  have HS0 := Lib.hid hs0
  clear hs0
  cases ht : isTitle ⟨nm, lv, fr, to_, ng⟩
  · have F := Lib.hid (hwl ht)
    have TT := Lib.hid ht
    clear ht hwl hwt
    generalize capL ⟨⟨nm, lv, fr, to_, ng⟩, am⟩ = C at *
    generalize amtText am = T at *
    go_enter Tryz.func49, Tryz.ntmps49
    go_wp2_with fail
    refine (rtitle_any ⟨nm, lv, fr, to_, ng⟩ _).mono ?_
    rintro e w2 ⟨rfl, hb2⟩
    rw [TT.out]
    go_wp2_with fail
    have hs2 := below_two HS0.out hb2
    have hs3 : w.heap.size < w2.heap.size := by have := hb2.size; omega
    obtain ⟨hc0, hc1, hc2, hc3, hc4, hc5⟩ := line_blk (HK.out.below hb2 hs1)
    clear hb2 hs1
    have HEB : Hid (∀ w_, Below w.heap.size w w_ → Env w_) := fun w_ h => hE.after h
    have W2 : Hid (IntKind.i64.wrap (IntKind.i64.wrap ((C.length : Int) + 1) + (T.length : Int)) = (C.length : Int) + 1 + (T.length : Int)) := by
      show _ = _
      have e1 : IntKind.i64.wrap ((C.length : Int) + 1) = (C.length : Int) + 1 := IntWalk.i64_in _ (by omega)
      rw [e1]
      exact IntWalk.i64_in _ (by omega)
    have n0 : (0 : Int) ≤ (C.length : Int) := by omega
    have n1 : (C.length : Int) ≤ 34 := by omega
    have n2 : (T.length : Int) ≤ 26 := by omega
    have n3 : (0 : Int) ≤ (T.length : Int) := by omega
    go_region_held3 (fun w' => Below w.heap.size w w' ∧ w.heap.size < w'.heap.size ∧ w'.cell? ⟨w.heap.size, 0, none⟩ = some (.string ⟨nm.toArray⟩) ∧ w'.cell? ⟨w.heap.size, 1, none⟩ = some (.int .i64 lv) ∧ w'.cell? ⟨w.heap.size, 2, none⟩ = some (.int .i64 fr) ∧ w'.cell? ⟨w.heap.size, 3, none⟩ = some (.int .i64 to_) ∧ w'.cell? ⟨w.heap.size, 4, none⟩ = some (.bool ng) ∧ w'.cell? ⟨w.heap.size, 5, none⟩ = some (.int .i64 am))
      ((go_split_ands
        refine ⟨?_, ?_, ?_, ?_, ?_, ?_, ?_, ?_⟩
        · (first | assumption | exact Below.drew (by assumption) | exact below_two (by assumption) hbx | exact below_two (Below.drew (by assumption)) hbx)
        · (first | assumption | (have := hbx.size; omega) | (have := hbx.size; simp at this; omega))
        · (first | assumption | exact (hbx.cell (by assumption)).trans (by assumption))
        · (first | assumption | exact (hbx.cell (by assumption)).trans (by assumption))
        · (first | assumption | exact (hbx.cell (by assumption)).trans (by assumption))
        · (first | assumption | exact (hbx.cell (by assumption)).trans (by assumption))
        · (first | assumption | exact (hbx.cell (by assumption)).trans (by assumption))
        · (first | assumption | exact (hbx.cell (by assumption)).trans (by assumption))))
      ((first | (go_at_call 52; refine (HC.out _).mono ?_; rintro e wx ⟨rfl, hbx⟩) | (go_at_call 55; refine (HM.out _ (by (first | exact HEB.out _ (by assumption) | exact HEB.out _ (Below.drew (by assumption)) | exact HEB.out _ (show Below w.heap.size w _ ∧ w.heap.size < _ ∧ _ from by assumption).1 | exact HEB.out _ (Below.drew (show Below w.heap.size w _ ∧ w.heap.size < _ ∧ _ from by assumption).1)))).mono ?_; rintro e wx ⟨rfl, hbx⟩)))
    all_goals
      have hS : Below w.heap.size w _ := (show Below w.heap.size w _ ∧ w.heap.size < _ ∧ _ from by assumption).1
      go_wp2_with fail
      go_ret
      exact ⟨ret_int (by rw [F.out]; first | exact W2.out | omega | (rw [W2.out]; omega)), hS⟩
  · have F := Lib.hid (hwt ht)
    have TT := Lib.hid ht
    clear ht hwl hwt
    go_enter Tryz.func49, Tryz.ntmps49
    go_wp2_with fail
    refine (rtitle_any ⟨nm, lv, fr, to_, ng⟩ _).mono ?_
    rintro e w2 ⟨rfl, hb2⟩
    rw [TT.out]
    have HB := Lib.hid (below_two HS0.out hb2)
    clear hb2
    go_wp2_with fail
    go_ret
    exact ⟨ret_int (by rw [F.out]; rfl), HB.out⟩
theorem enter_t1 (args : Array Value) (w : World) : (callFunc 51 args).run Tryz.prog w = .ok (.enter 51 args) w := by
  simp [go_sem]
set_option maxRecDepth 100000 in
set_option maxHeartbeats 8000000 in
theorem text1_any (x y : SLine) (w : World) (hE : Env w) (h1 : x.row.name.length ≤ 16) (h2 : 0 ≤ x.row.level) (h3 : x.row.level ≤ 9) (h4 : okAmt x.amt = true) (h1' : y.row.name.length ≤ 16) (h2' : 0 ≤ y.row.level) (h3' : y.row.level ≤ 9) (h4' : okAmt y.amt = true) :
    Calls Tryz.prog 51 #[lineV x, lineV y] w fun e w' => e = .returned (.int .i64 ((widL x : Int) - widL y)) ∧ Below w.heap.size w w' := by
  have HX : Hid (∀ w, Env w → Calls Tryz.prog 49 #[lineV x] w fun e w' => e = .returned (.int .i64 (widL x)) ∧ Below w.heap.size w w') := fun w hE => width_any x w hE h1 h2 h3 h4
  have HY : Hid (∀ w, Env w → Calls Tryz.prog 49 #[lineV y] w fun e w' => e = .returned (.int .i64 (widL y)) ∧ Below w.heap.size w w') := fun w hE => width_any y w hE h1' h2' h3' h4'
  have hx := widL_le h1 h3
  have hy := widL_le h1' h3'
  have HEB : Hid (∀ w_, Below w.heap.size w w_ → Env w_) := fun w_ h => hE.after h
  clear hE
  generalize widL x = X at *
  generalize widL y = Y at *
  obtain ⟨⟨nm, lv, fr, to_, ng⟩, am⟩ := x
  obtain ⟨⟨nm', lv', fr', to_', ng'⟩, am'⟩ := y
  unfold lineV at *
  simp only [] at *
  go_enter Tryz.func51, Tryz.ntmps51
  go_wp2_with fail
  have hs0 : Below w.heap.size w ((w.alloc (.cells #[.string ⟨nm.toArray⟩, .int .i64 lv, .int .i64 fr, .int .i64 to_, .bool ng, .int .i64 am] 102)).alloc (.cells #[.string ⟨nm'.toArray⟩, .int .i64 lv', .int .i64 fr', .int .i64 to_', .bool ng', .int .i64 am'] 102)) := ((Below.refl _ _).alloc (Nat.le_refl _) _).alloc (by simp) _
  have hs2 : w.heap.size < ((w.alloc (.cells #[.string ⟨nm.toArray⟩, .int .i64 lv, .int .i64 fr, .int .i64 to_, .bool ng, .int .i64 am] 102)).alloc (.cells #[.string ⟨nm'.toArray⟩, .int .i64 lv', .int .i64 fr', .int .i64 to_', .bool ng', .int .i64 am'] 102)).heap.size := by simp; omega
  have hs1 : w.heap.size + 1 < ((w.alloc (.cells #[.string ⟨nm.toArray⟩, .int .i64 lv, .int .i64 fr, .int .i64 to_, .bool ng, .int .i64 am] 102)).alloc (.cells #[.string ⟨nm'.toArray⟩, .int .i64 lv', .int .i64 fr', .int .i64 to_', .bool ng', .int .i64 am'] 102)).heap.size := by simp
  obtain ⟨hc0, hc1, hc2, hc3, hc4, hc5⟩ := line_blk ((Blk.new w 102 #[.string ⟨nm.toArray⟩, .int .i64 lv, .int .i64 fr, .int .i64 to_, .bool ng, .int .i64 am]).alloc (.cells #[.string ⟨nm'.toArray⟩, .int .i64 lv', .int .i64 fr', .int .i64 to_', .bool ng', .int .i64 am'] 102))
  have hk2 := Blk.new (w.alloc (.cells #[.string ⟨nm.toArray⟩, .int .i64 lv, .int .i64 fr, .int .i64 to_, .bool ng, .int .i64 am] 102)) 102 #[.string ⟨nm'.toArray⟩, .int .i64 lv', .int .i64 fr', .int .i64 to_', .bool ng', .int .i64 am']
  rw [World.size_alloc] at hk2
  obtain ⟨hd0, hd1, hd2, hd3, hd4, hd5⟩ := line_blk hk2
  clear hk2
  generalize (w.alloc (.cells #[.string ⟨nm.toArray⟩, .int .i64 lv, .int .i64 fr, .int .i64 to_, .bool ng, .int .i64 am] 102)).alloc (.cells #[.string ⟨nm'.toArray⟩, .int .i64 lv', .int .i64 fr', .int .i64 to_', .bool ng', .int .i64 am'] 102) = wz at *
  have n0 : (0 : Int) ≤ (X : Int) := by omega
  have n1 : (X : Int) ≤ 61 := by omega
  have n2 : (0 : Int) ≤ (Y : Int) := by omega
  have n3 : (Y : Int) ≤ 61 := by omega
  go_region_held3 (fun w' => Below w.heap.size w w' ∧ w.heap.size + 1 < w'.heap.size ∧ w.heap.size < w'.heap.size ∧ w'.cell? ⟨w.heap.size, 0, none⟩ = some (.string ⟨nm.toArray⟩) ∧ w'.cell? ⟨w.heap.size, 1, none⟩ = some (.int .i64 lv) ∧ w'.cell? ⟨w.heap.size, 2, none⟩ = some (.int .i64 fr) ∧ w'.cell? ⟨w.heap.size, 3, none⟩ = some (.int .i64 to_) ∧ w'.cell? ⟨w.heap.size, 4, none⟩ = some (.bool ng) ∧ w'.cell? ⟨w.heap.size, 5, none⟩ = some (.int .i64 am) ∧ w'.cell? ⟨w.heap.size + 1, 0, none⟩ = some (.string ⟨nm'.toArray⟩) ∧ w'.cell? ⟨w.heap.size + 1, 1, none⟩ = some (.int .i64 lv') ∧ w'.cell? ⟨w.heap.size + 1, 2, none⟩ = some (.int .i64 fr') ∧ w'.cell? ⟨w.heap.size + 1, 3, none⟩ = some (.int .i64 to_') ∧ w'.cell? ⟨w.heap.size + 1, 4, none⟩ = some (.bool ng') ∧ w'.cell? ⟨w.heap.size + 1, 5, none⟩ = some (.int .i64 am'))
    ((go_split_ands
      refine ⟨?_, ?_, ?_, ?_, ?_, ?_, ?_, ?_, ?_, ?_, ?_, ?_, ?_, ?_, ?_⟩
      · (first | assumption | exact Below.drew (by assumption) | exact below_two (by assumption) hbx | exact below_two (Below.drew (by assumption)) hbx)
      · (first | assumption | (have := hbx.size; omega) | (have := hbx.size; simp at this; omega))
      · (first | assumption | (have := hbx.size; omega) | (have := hbx.size; simp at this; omega))
      · (first | assumption | exact (hbx.cell (by assumption)).trans (by assumption))
      · (first | assumption | exact (hbx.cell (by assumption)).trans (by assumption))
      · (first | assumption | exact (hbx.cell (by assumption)).trans (by assumption))
      · (first | assumption | exact (hbx.cell (by assumption)).trans (by assumption))
      · (first | assumption | exact (hbx.cell (by assumption)).trans (by assumption))
      · (first | assumption | exact (hbx.cell (by assumption)).trans (by assumption))
      · (first | assumption | exact (hbx.cell (by assumption)).trans (by assumption))
      · (first | assumption | exact (hbx.cell (by assumption)).trans (by assumption))
      · (first | assumption | exact (hbx.cell (by assumption)).trans (by assumption))
      · (first | assumption | exact (hbx.cell (by assumption)).trans (by assumption))
      · (first | assumption | exact (hbx.cell (by assumption)).trans (by assumption))
      · (first | assumption | exact (hbx.cell (by assumption)).trans (by assumption))))
    ((first | (go_at_call 49; (with_reducible refine (HX.out _ ?_).mono ?_); (exact (by (first | exact HEB.out _ (by assumption) | exact HEB.out _ (Below.drew (by assumption)) | exact HEB.out _ (show Below w.heap.size w _ ∧ w.heap.size + 1 < _ ∧ _ from by assumption).1 | exact HEB.out _ (Below.drew (show Below w.heap.size w _ ∧ w.heap.size + 1 < _ ∧ _ from by assumption).1)))); (rintro e wx ⟨rfl, hbx⟩)) | (go_at_call 49; (with_reducible refine (HY.out _ ?_).mono ?_); (exact (by (first | exact HEB.out _ (by assumption) | exact HEB.out _ (Below.drew (by assumption)) | exact HEB.out _ (show Below w.heap.size w _ ∧ w.heap.size + 1 < _ ∧ _ from by assumption).1 | exact HEB.out _ (Below.drew (show Below w.heap.size w _ ∧ w.heap.size + 1 < _ ∧ _ from by assumption).1)))); (rintro e wx ⟨rfl, hbx⟩))))
  all_goals
    have hS : Below w.heap.size w _ := (show Below w.heap.size w _ ∧ w.heap.size + 1 < _ ∧ _ from by assumption).1
    go_wp2_with fail
    go_ret
    exact ⟨ret_int (by first | rfl | exact IntWalk.i64_in _ (by omega)), hS⟩
end Go.Proofs.YtcmmppkmkejniaaGreatDoor
