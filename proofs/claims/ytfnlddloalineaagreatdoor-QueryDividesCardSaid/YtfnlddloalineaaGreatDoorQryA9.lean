/-
  to.
  The reference's value of a condition (kinds, dates).
  The reference's proper at proper conditions.
  query.Valid at queries that do not stand; query.Print there.
  query.Print at queries that do not stand.
  The reference's value and proper at any condition.
  The reference's proper at kinds; its Valid: what the walk needs.
-/
import Derived.Test.YtfnlddloalineaaGreatDoorAwk
import Derived.Test.YtfnlddloalineaaGreatDoorAwk0
import Derived.Test.YtfnlddloalineaaGreatDoorDatA
import Derived.Test.YtfnlddloalineaaGreatDoorQryA0
import Derived.Test.YtfnlddloalineaaGreatDoorRefDig03
import Derived.Test.YtfnlddloalineaaGreatDoorQryA3
import Derived.Deep.RegionHeld3
import Derived.Deep.MidRow
namespace Go.Proofs.YtfnlddloalineaaGreatDoor
open Go.RowKit
set_option linter.unusedVariables false
set_option maxRecDepth 100000
theorem info_qcnd : (Tryz.prog.info? 95).map (fun i => (i.zero, i.size, i.bytes)) = some (some (.agg #[.int .i64 0, .int .i64 0, .int .i64 0]), 3, 24) := by kernel_rfl
structure ToS (w : World) (verb : Int) (vb v' : Value) (Aw : Option Addr) (nw B : Nat) (wh : List SCond) (k : Nat) (x : World) : Prop where
  res : Blk x (w.heap.size + 1) 26 #[.int .i64 0, .slice none 0 0, .slice none 0 0]
  out : Blk x (w.heap.size + 1 + 1) 26 #[.int .i64 verb, vb, v']
  rwh : Reads x B 3 Aw nw (cndC wh)
  row : x.ownsRow (w.heap.size + 1 + 1 + 1) 95 3 v' k (cndC (wh.take k))
  below : Below w.heap.size w x
theorem cndC_stepT {l : List SCond} {k : Nat} (hk : k < l.length) : cndC (l.take (k + 1)) = cndC (l.take k) ++ [.int .i64 (l.getD k default).f, .int .i64 (l.getD k default).o, .int .i64 (l.getD k default).v] := by
  rw [List.take_succ_eq_append_getElem hk, cndC_app]
  simp [List.getD, hk]
theorem ToS.step {w : World} {verb : Int} {vb v' v6 : Value} {Aw : Option Addr} {nw B : Nat} {wh : List SCond} {k : Nat} {x w6 : World} {o1 o2 : Obj} (h : ToS w verb vb v' Aw nw B wh k x) (hB : B ≤ w.heap.size) (hk : k < wh.length) (hg : ((x.alloc o1).alloc o2).grownBy w6 v'.ownBlock)
    (hown : w6.ownsRow (w.heap.size + 1 + 1 + 1) 95 3 v6 (k + 1) (cndC (wh.take k) ++ [.int .i64 (wh.getD k default).f, .int .i64 (wh.getD k default).o, .int .i64 (wh.getD k default).v])) :
    ToS w verb vb v6 Aw nw B wh (k + 1) (w6.setCell ⟨w.heap.size + 1 + 1, 2, none⟩ v6) ∧ w6.cell? ⟨w.heap.size + 1 + 1, 2, none⟩ = some v' ∧ w6.frozen? ⟨w.heap.size + 1 + 1, 2, none⟩ = false := by
  have hs := h.below.size
  have hb5 : ∀ b, v'.ownBlock = some b → w.heap.size + 1 + 1 + 1 ≤ b := own_base h.row
  have hO := (((h.out.alloc o1).alloc o2).grown hg (fun e => own_blk_ne h.row h.out (by decide) e.symm))
  have hR := (((h.res.alloc o1).alloc o2).grown hg (fun e => own_blk_ne h.row h.res (by decide) e.symm))
  refine ⟨⟨hR.far (p := ⟨w.heap.size + 1 + 1, 2, none⟩) (by simp only []; omega) _, by have := hO.set_ 2 v6; simpa using this, (((h.rwh.alloc (by omega) o1).alloc (by rw [World.size_alloc]; omega) o2).grown hg (by simp only [World.size_alloc]; omega) (fun g e => by have := hb5 _ e; omega)).setCell (by simp only []; omega) _, ?_, ?_⟩, hO.cell 2, hO.frozen 2⟩
  · rw [cndC_stepT hk]
    exact ownsRow_setCell_other hown (a := ⟨w.heap.size + 1 + 1, 2, none⟩) (own_blk_ne hown hO (by decide)) v6
  · exact ((((h.below.alloc hs o1).alloc (by rw [World.size_alloc]; omega) o2).grown hg (by simp only [World.size_alloc]; omega) (fun r e => by have := hb5 _ e; omega)).setCell (p := ⟨w.heap.size + 1 + 1, 2, none⟩) (by simp only []; omega) _)
set_option maxHeartbeats 8000000 in
theorem to_any (verb : Int) (wh : List SCond) (Ab Aw : Option Addr) (nb nw cb cw B : Nat) (w : World) (hw : Reads w B 3 Aw nw (cndC wh)) (hB : B ≤ w.heap.size) (hn : nw ≤ 1000) :
    Calls Tryz.prog 18 #[.agg #[.int .i64 verb, .slice Ab nb cb, .slice Aw nw cw]] w fun e w' => ∃ A' c', e = .returned (.agg #[.int .i64 verb, .slice Ab nb cb, .slice A' nw c']) ∧ w'.ownsRow w.heap.size 95 3 (.slice A' nw c') nw (cndC wh) ∧ Below w.heap.size w w' := by
  have hnw : wh.length = nw := by have := hw.1; rw [cndC_len] at this; omega
  have HNW := Lib.hid hnw
  have h1 := (Below.refl w.heap.size w).alloc (Nat.le_refl _) (.cells (#[.int .i64 verb, .slice Ab nb cb, .slice Aw nw cw] : Array Value) 32)
  have hk1 := Blk.new w 32 #[.int .i64 verb, .slice Ab nb cb, .slice Aw nw cw]
  obtain ⟨x1, hx1⟩ : ∃ x1, w.alloc (.cells (#[.int .i64 verb, .slice Ab nb cb, .slice Aw nw cw] : Array Value) 32) = x1 := ⟨_, rfl⟩
  have s1 : x1.heap.size = w.heap.size + 1 := by rw [← hx1, World.size_alloc]
  rw [hx1] at h1 hk1
  have h2 := h1.alloc h1.size (.cells (#[.int .i64 0, .slice none 0 0, .slice none 0 0] : Array Value) 26)
  have hk2 := Blk.new x1 26 #[.int .i64 0, .slice none 0 0, .slice none 0 0]
  have h3 := h2.alloc h2.size (.cells (#[.int .i64 verb, .slice Ab nb cb, .slice none 0 0] : Array Value) 26)
  have hk3 := Blk.new (x1.alloc (.cells (#[.int .i64 0, .slice none 0 0, .slice none 0 0] : Array Value) 26)) 26 #[.int .i64 verb, .slice Ab nb cb, .slice none 0 0]
  rw [World.size_alloc, s1] at hk3
  rw [s1] at hk2
  have hf : ToS w verb (.slice Ab nb cb) (.slice none 0 0) Aw nw B wh 0 ((x1.alloc (.cells (#[.int .i64 0, .slice none 0 0, .slice none 0 0] : Array Value) 26)).alloc (.cells (#[.int .i64 verb, .slice Ab nb cb, .slice none 0 0] : Array Value) 26)) :=
    ⟨hk2.alloc _, hk3, hw.lowQ hB (Nat.le_refl _) h3, World.ownsRow_nil _ _ _ _, h3⟩
  have HF := Lib.hid hf
  have HX := Lib.hid hx1
  obtain ⟨c0, c1, c2⟩ := rd_cells hk1
  have hl1 : w.heap.size < x1.heap.size := by omega
  obtain ⟨i0, hi0, hz0, hz1, hz2⟩ := info_parts info_qcnd
  clear h1 h2 h3 hk1 hk2 hk3 hw hnw hf
  go_enter Tryz.func18, Tryz.ntmps18
  go_wp2_with fail
  go_loopw [14] (fun i x => ∃ (k : Nat) (v' : Value), k ≤ nw ∧ i = .int .i64 k ∧ ToS w verb (.slice Ab nb cb) v' Aw nw B wh k x) (fun i _ => nw - (intOf i).toNat)
  case atStart => exact ⟨0, _, by omega, rfl, HF.out⟩
  case round =>
    clear HF c0 c1 c2 hx1 hl1 s1
    obtain ⟨k, v', hk, rfl, hs⟩ := hrel
    obtain ⟨A', c', rfl⟩ := own_slice hs.row
    have HS := Lib.hid hs
    obtain ⟨d0, d1, d2⟩ := rd_cells hs.out
    have hlt2 : w.heap.size + 1 + 1 < wr.heap.size := hs.out.lt
    by_cases hlt : k < nw
    · have k3 : decide ((k : Int) < (nw : Int)) = true := by rw [decide_eq_true_eq]; omega
      have hkl : k < wh.length := by have := HNW.out; omega
      obtain ⟨ad, rfl, had, b0, b1, b2⟩ := hs.rwh.cnd_at hlt
      have hadl : ad.block < wr.heap.size := by omega
      have HSTP : Hid (∀ (v6 : Value) (w6 : World) (o1 o2 : Obj), ((wr.alloc o1).alloc o2).grownBy w6 (Value.slice A' k c').ownBlock → w6.ownsRow (w.heap.size + 1 + 1 + 1) 95 3 v6 (k + 1) (cndC (wh.take k) ++ [.int .i64 (wh.getD k default).f, .int .i64 (wh.getD k default).o, .int .i64 (wh.getD k default).v]) → ToS w verb (.slice Ab nb cb) v6 (some ad) nw B wh (k + 1) (w6.setCell ⟨w.heap.size + 1 + 1, 2, none⟩ v6) ∧ w6.cell? ⟨w.heap.size + 1 + 1, 2, none⟩ = some (.slice A' k c') ∧ w6.frozen? ⟨w.heap.size + 1 + 1, 2, none⟩ = false) := fun v6 w6 o1 o2 hg ho => HS.out.step hB hkl hg ho
      generalize wh.getD k default = cc at *
      obtain ⟨f, o, v⟩ := cc
      simp only [] at b0 b1 b2 HSTP
      have HRO : Hid (Reads ((wr.alloc (.cells (#[.int .i64 f, .int .i64 o, .int .i64 v] : Array Value) 72)).alloc (.cells (#[.int .i64 f, .int .i64 o, .int .i64 v] : Array Value) 95)) (wr.heap.size + 1 + 1) 3 (some ⟨wr.heap.size + 1, 0, none⟩) 1 [.int .i64 f, .int .i64 o, .int .i64 v]) := by
        have := reads_one (wr.alloc (.cells (#[.int .i64 f, .int .i64 o, .int .i64 v] : Array Value) 72)) #[.int .i64 f, .int .i64 o, .int .i64 v] 95 3 rfl
        rw [World.size_alloc] at this
        exact this
      clear hs hkl
      go_wp2_with (at_builtin; refine wpList_append_any _ rfl (.tmp 19) (.tmp 21) _ rfl (w.heap.size + 1 + 1 + 1) 95 i0 _ 3 24 Tryz.underlying24 hi0 hz0 hz1 hz2 rfl (by omega) _ k (cndC (wh.take k)) rfl ((HS.out.row.alloc _).alloc _) (wr.heap.size + 1 + 1) (some ⟨wr.heap.size + 1, 0, none⟩) 1 1 [.int .i64 f, .int .i64 o, .int .i64 v] rfl HRO.out (cond_one _ _ _) (by simp only [maxLen]; omega) (by omega) (by simp only [World.size_alloc]; omega) ?_; intro v6 w6 hown6 hg6 hat6; obtain ⟨A6, c6, rfl⟩ := own_slice hown6; obtain ⟨hF6, hc6, hf6⟩ := HSTP.out _ _ _ _ hg6 hown6; have HF6 := Lib.hid hF6; clear hF6 hown6 hg6 hat6)
      go_roundw
      case rel => exact ⟨k + 1, _, by omega, by go_num, HF6.out⟩
      case measure => simp [intOf]; omega
    · have k3 : decide ((k : Int) < (nw : Int)) = false := by rw [decide_eq_false_iff_not]; omega
      have hk' : k = nw := by omega
      subst hk'
      obtain ⟨e0, e1, e2⟩ := rd_cells hs.res
      have hz := hs.res.frozen
      have hrow := hs.row
      rw [List.take_of_length_le (by have := HNW.out; omega)] at hrow
      have HROW := Lib.hid (own_low (own_set3 hrow hs.res (by decide) (.int .i64 verb) (.slice Ab nb cb) (.slice A' k c')) (show w.heap.size ≤ w.heap.size + 1 + 1 + 1 by omega))
      have HBL := Lib.hid (below_set3 hs.below (show w.heap.size ≤ w.heap.size + 1 by omega) (.int .i64 verb) (.slice Ab nb cb) (.slice A' k c'))
      have HC3 := Lib.hid (rd_cells3 hs.res (.int .i64 verb) (.slice Ab nb cb) (.slice A' k c'))
      clear hs hrow
      go_wp2_with fail
      obtain ⟨z0, z1, z2⟩ := HC3.out
      refine bodyPost_ret (v := .agg #[.int .i64 verb, .slice Ab nb cb, .slice A' k c']) ?_ rfl ⟨A', c', rfl, HROW.out, HBL.out⟩
      simp [results, Tryz.results18, go_sem, z0, z1, z2]
end Go.Proofs.YtfnlddloalineaaGreatDoor
namespace Go.Proofs.YtfnlddloalineaaGreatDoor
open Go.RowKit
set_option linter.unusedVariables false
set_option maxRecDepth 100000
theorem rvalue_date (o v : Int) (w : World) :
    Calls Tryz.prog 50 #[.agg #[.int .i64 4, .int .i64 o, .int .i64 v]] w fun e w' => e = .returned (.string ⟨(datT v).toArray⟩) ∧ Below w.heap.size w w' := by
  have hb := (Below.refl w.heap.size w).alloc (Nat.le_refl _) (.cells (#[.int .i64 4, .int .i64 o, .int .i64 v] : Array Value) 72)
  have HB := Lib.hid hb
  have HI := Lib.hid (refDtext_any v (w.alloc (.cells (#[.int .i64 4, .int .i64 o, .int .i64 v] : Array Value) 72)))
  clear hb
  go_enter Tryz.func50, Tryz.ntmps50
  go_wp2_with fail
  refine HI.out.mono ?_
  rintro e w1 ⟨rfl, hw1⟩
  have HB1 := Lib.hid (below_two HB.out hw1)
  clear hw1
  go_wp2_with fail
  go_ret
  exact ⟨rfl, HB1.out⟩
set_option maxHeartbeats 4000000 in
theorem rvalue_kind (o : Int) (k : Nat) (w : World) (hk : k < 11) :
    Calls Tryz.prog 50 #[.agg #[.int .i64 3, .int .i64 o, .int .i64 (k : Int)]] w fun e w' => e = .returned (.string ⟨(kdL.getD k []).toArray⟩) ∧ Below w.heap.size w w' := by
  have hb := (Below.refl w.heap.size w).alloc (Nat.le_refl _) (.cells (#[.int .i64 3, .int .i64 o, .int .i64 (k : Int)] : Array Value) 72)
  have hk0 := Blk.new w 72 #[.int .i64 3, .int .i64 o, .int .i64 (k : Int)]
  obtain ⟨wz, hwz⟩ : ∃ wz, w.alloc (.cells (#[.int .i64 3, .int .i64 o, .int .i64 (k : Int)] : Array Value) 72) = wz := ⟨_, rfl⟩
  rw [hwz] at hb hk0
  obtain ⟨c0, c1, c2⟩ := rd_cells hk0
  have hsz : w.heap.size < wz.heap.size := hk0.lt
  have HB := Lib.hid (((hb.alloc hb.size (.cells (kdL.map strV).toArray 9))).drew)
  have KC := word_cell (Blk.new wz 9 (kdL.map strV).toArray) hk
  have kb : (k : Int) < 11 := by omega
  generalize kdL.getD k [] = tx at *
  clear hb hk0
  go_enter Tryz.func50, Tryz.ntmps50
  go_upto_region 3 with fail
  go_region_with (go_at_call 82; refine (ref_kd_any _).mono ?_; rintro e wx ⟨rfl, rfl⟩)
  all_goals
    go_wp2_with fail
    go_ret
    exact ⟨rfl, HB.out⟩
end Go.Proofs.YtfnlddloalineaaGreatDoor
namespace Go.Proofs.YtfnlddloalineaaGreatDoor
open Go.RowKit
set_option linter.unusedVariables false
set_option maxRecDepth 100000
theorem rmval_yes (n : Int) (w : World) (h0 : -1000000000000 ≤ n) (h1 : n ≤ 1000000000000) : Calls Tryz.prog 68 #[.int .i64 n] w fun e w' => e = .returned (.bool true) ∧ w = w' := by
  go_enter Tryz.func68, Tryz.ntmps68
  go_wp2_with fail
  go_ret
  exact ⟨rfl, rfl⟩
theorem rproper_num (f o v : Int) (w : World) (n3 : f ≠ 3) (n4 : f ≠ 4) (v0 : -1000000000000 ≤ v) (v1 : v ≤ 1000000000000) :
    Calls Tryz.prog 56 #[.agg #[.int .i64 f, .int .i64 o, .int .i64 v]] w fun e w' => e = .returned (.bool true) ∧ Below w.heap.size w w' := by
  have HB := Lib.hid ((Below.refl w.heap.size w).alloc (Nat.le_refl _) (.cells (#[.int .i64 f, .int .i64 o, .int .i64 v] : Array Value) 72))
  have HV := Lib.hid (rmval_yes v (w.alloc (.cells (#[.int .i64 f, .int .i64 o, .int .i64 v] : Array Value) 72)) v0 v1)
  have q3 : (f == 3) = false := by rw [beq_eq_false_iff_ne]; exact n3
  have q4 : (f == 4) = false := by rw [beq_eq_false_iff_ne]; exact n4
  clear n3 n4
  go_enter Tryz.func56, Tryz.ntmps56
  go_wp2_with fail
  refine HV.out.mono ?_
  rintro e wx ⟨rfl, rfl⟩
  go_wp2_with fail
  go_ret
  exact ⟨rfl, HB.out⟩
theorem rproper_date (o v : Int) (w : World) (hd : dateB v = true) :
    Calls Tryz.prog 56 #[.agg #[.int .i64 4, .int .i64 o, .int .i64 v]] w fun e w' => e = .returned (.bool true) ∧ Below w.heap.size w w' := by
  have HB := Lib.hid ((Below.refl w.heap.size w).alloc (Nat.le_refl _) (.cells (#[.int .i64 4, .int .i64 o, .int .i64 v] : Array Value) 72))
  have HD := Lib.hid hd
  have HV := Lib.hid (refDvalid_any v (w.alloc (.cells (#[.int .i64 4, .int .i64 o, .int .i64 v] : Array Value) 72)))
  clear hd
  go_enter Tryz.func56, Tryz.ntmps56
  go_wp2_with fail
  refine HV.out.mono ?_
  rintro e wx ⟨rfl, rfl⟩
  rw [HD.out]
  go_wp2_with fail
  go_ret
  exact ⟨rfl, HB.out⟩
end Go.Proofs.YtfnlddloalineaaGreatDoor
namespace Go.Proofs.YtfnlddloalineaaGreatDoor
open Go.RowKit
set_option linter.unusedVariables false
set_option maxRecDepth 100000
theorem proper_f0 (f o v : Int) (w : World) (h0 : f < 0) :
    Calls Tryz.prog 54 #[.agg #[.int .i64 f, .int .i64 o, .int .i64 v]] w fun e w' => e = .returned (.bool false) ∧ Below w.heap.size w w' := by
  have HB := Lib.hid ((Below.refl w.heap.size w).alloc (Nat.le_refl _) (.cells (#[.int .i64 f, .int .i64 o, .int .i64 v] : Array Value) 95))
  have x0 : decide (f < 0) = true := by rw [decide_eq_true_eq]; omega
  go_enter Tryz.func54, Tryz.ntmps54
  go_wp2_with fail
  go_ret
  exact ⟨rfl, HB.out⟩
theorem proper_f4 (f o v : Int) (w : World) (h0 : 4 < f) :
    Calls Tryz.prog 54 #[.agg #[.int .i64 f, .int .i64 o, .int .i64 v]] w fun e w' => e = .returned (.bool false) ∧ Below w.heap.size w w' := by
  have HB := Lib.hid ((Below.refl w.heap.size w).alloc (Nat.le_refl _) (.cells (#[.int .i64 f, .int .i64 o, .int .i64 v] : Array Value) 95))
  have x0 : decide (f < 0) = false := by rw [decide_eq_false_iff_not]; omega
  have x1 : decide (4 < f) = true := by rw [decide_eq_true_eq]; omega
  go_enter Tryz.func54, Tryz.ntmps54
  go_wp2_with fail
  go_ret
  exact ⟨rfl, HB.out⟩
theorem proper_o0 (f o v : Int) (w : World) (h0 : 0 ≤ f) (h4 : f ≤ 4) (h5 : o < 0) :
    Calls Tryz.prog 54 #[.agg #[.int .i64 f, .int .i64 o, .int .i64 v]] w fun e w' => e = .returned (.bool false) ∧ Below w.heap.size w w' := by
  have HB := Lib.hid ((Below.refl w.heap.size w).alloc (Nat.le_refl _) (.cells (#[.int .i64 f, .int .i64 o, .int .i64 v] : Array Value) 95))
  have x0 : decide (f < 0) = false := by rw [decide_eq_false_iff_not]; omega
  have x1 : decide (4 < f) = false := by rw [decide_eq_false_iff_not]; omega
  have x2 : decide (o < 0) = true := by rw [decide_eq_true_eq]; omega
  go_enter Tryz.func54, Tryz.ntmps54
  go_wp2_with fail
  go_ret
  exact ⟨rfl, HB.out⟩
theorem proper_o5 (f o v : Int) (w : World) (h0 : 0 ≤ f) (h4 : f ≤ 4) (h5 : 5 < o) :
    Calls Tryz.prog 54 #[.agg #[.int .i64 f, .int .i64 o, .int .i64 v]] w fun e w' => e = .returned (.bool false) ∧ Below w.heap.size w w' := by
  have HB := Lib.hid ((Below.refl w.heap.size w).alloc (Nat.le_refl _) (.cells (#[.int .i64 f, .int .i64 o, .int .i64 v] : Array Value) 95))
  have x0 : decide (f < 0) = false := by rw [decide_eq_false_iff_not]; omega
  have x1 : decide (4 < f) = false := by rw [decide_eq_false_iff_not]; omega
  have x2 : decide (o < 0) = false := by rw [decide_eq_false_iff_not]; omega
  have x3 : decide (5 < o) = true := by rw [decide_eq_true_eq]; omega
  go_enter Tryz.func54, Tryz.ntmps54
  go_wp2_with fail
  go_ret
  exact ⟨rfl, HB.out⟩
theorem proper_numN (f o v : Int) (w : World) (h0 : 0 ≤ f) (h4 : f ≤ 4) (o0 : 0 ≤ o) (o5 : o ≤ 5) (n3 : f ≠ 3) (n4 : f ≠ 4) (hv : v < -1000000000000 ∨ 1000000000000 < v) :
    Calls Tryz.prog 54 #[.agg #[.int .i64 f, .int .i64 o, .int .i64 v]] w fun e w' => e = .returned (.bool false) ∧ Below w.heap.size w w' := by
  have HB := Lib.hid ((Below.refl w.heap.size w).alloc (Nat.le_refl _) (.cells (#[.int .i64 f, .int .i64 o, .int .i64 v] : Array Value) 95))
  have q3 : (f == 3) = false := by rw [beq_eq_false_iff_ne]; exact n3
  have q4 : (f == 4) = false := by rw [beq_eq_false_iff_ne]; exact n4
  clear n3 n4
  rcases hv with hv | hv
  · have y0 : decide (-1000000000000 ≤ v) = false := by rw [decide_eq_false_iff_not]; omega
    go_enter Tryz.func54, Tryz.ntmps54
    go_wp2_with fail
    go_ret
    exact ⟨rfl, HB.out⟩
  · have y0 : decide (-1000000000000 ≤ v) = true := by rw [decide_eq_true_eq]; omega
    have y1 : decide (v ≤ 1000000000000) = false := by rw [decide_eq_false_iff_not]; omega
    go_enter Tryz.func54, Tryz.ntmps54
    go_wp2_with fail
    go_ret
    exact ⟨rfl, HB.out⟩
theorem proper_dateN (o v : Int) (w : World) (o0 : 0 ≤ o) (o5 : o ≤ 5) (hd : dateB v = false) :
    Calls Tryz.prog 54 #[.agg #[.int .i64 4, .int .i64 o, .int .i64 v]] w fun e w' => e = .returned (.bool false) ∧ Below w.heap.size w w' := by
  have hb := (Below.refl w.heap.size w).alloc (Nat.le_refl _) (.cells (#[.int .i64 4, .int .i64 o, .int .i64 v] : Array Value) 95)
  have HB := Lib.hid hb
  have HD := Lib.hid hd
  have HV := Lib.hid (dvalid_any v (w.alloc (.cells (#[.int .i64 4, .int .i64 o, .int .i64 v] : Array Value) 95)))
  clear hb hd
  go_enter Tryz.func54, Tryz.ntmps54
  go_wp2_with fail
  refine HV.out.mono ?_
  rintro e wx ⟨rfl, rfl⟩
  rw [HD.out]
  go_wp2_with fail
  go_ret
  exact ⟨rfl, HB.out⟩
set_option maxHeartbeats 4000000 in
/-- a kind that is none -/
theorem proper_kindB (o v : Int) (w : World) (o0 : 0 ≤ o) (o1 : o ≤ 1) (v0 : 0 ≤ v) (v1 : 11 ≤ v) :
    Calls Tryz.prog 54 #[.agg #[.int .i64 3, .int .i64 o, .int .i64 v]] w fun e w' => e = .returned (.bool false) ∧ Below w.heap.size w w' := by
  have hb := (Below.refl w.heap.size w).alloc (Nat.le_refl _) (.cells (#[.int .i64 3, .int .i64 o, .int .i64 v] : Array Value) 95)
  have hk := Blk.new w 95 #[.int .i64 3, .int .i64 o, .int .i64 v]
  obtain ⟨wz, hwz⟩ : ∃ wz, w.alloc (.cells (#[.int .i64 3, .int .i64 o, .int .i64 v] : Array Value) 95) = wz := ⟨_, rfl⟩
  rw [hwz] at hb hk
  have o5 : o ≤ 5 := by omega
  have c0 := hk.cell 0
  have c1 := hk.cell 1
  have c2 := hk.cell 2
  have hsz : w.heap.size < wz.heap.size := hk.lt
  have HB := Lib.hid (((hb.alloc hb.size (.cells (kdL.map strV).toArray 9))).drew)
  have y0 : decide (v < 11) = false := by rw [decide_eq_false_iff_not]; omega
  clear hb hk
  go_enter Tryz.func54, Tryz.ntmps54
  go_upto_region 5 with fail
  go_region_with (go_at_call 79; refine (kd_any _).mono ?_; rintro e wx ⟨rfl, rfl⟩)
  all_goals
    go_wp2_with fail
    go_ret
    exact ⟨rfl, HB.out⟩
set_option maxHeartbeats 4000000 in
/-- a kind below 0 -/
theorem proper_kindV (o v : Int) (w : World) (o0 : 0 ≤ o) (o1 : o ≤ 1) (v0 : v < 0) :
    Calls Tryz.prog 54 #[.agg #[.int .i64 3, .int .i64 o, .int .i64 v]] w fun e w' => e = .returned (.bool false) ∧ Below w.heap.size w w' := by
  have hb := (Below.refl w.heap.size w).alloc (Nat.le_refl _) (.cells (#[.int .i64 3, .int .i64 o, .int .i64 v] : Array Value) 95)
  have hk := Blk.new w 95 #[.int .i64 3, .int .i64 o, .int .i64 v]
  obtain ⟨wz, hwz⟩ : ∃ wz, w.alloc (.cells (#[.int .i64 3, .int .i64 o, .int .i64 v] : Array Value) 95) = wz := ⟨_, rfl⟩
  rw [hwz] at hb hk
  have o5 : o ≤ 5 := by omega
  have c0 := hk.cell 0
  have c1 := hk.cell 1
  have c2 := hk.cell 2
  have hsz : w.heap.size < wz.heap.size := hk.lt
  have HB := Lib.hid hb.drew
  have y0 : decide (0 ≤ v) = false := by rw [decide_eq_false_iff_not]; omega
  clear hb hk
  go_enter Tryz.func54, Tryz.ntmps54
  go_upto_region 5 with fail
  first | go_region_with fail | done
  all_goals
    go_wp2_with fail
    go_ret
    exact ⟨rfl, HB.out⟩
set_option maxHeartbeats 4000000 in
/-- a kind is no number -/
theorem proper_kindO (o v : Int) (w : World) (o1 : 1 < o) (o5 : o ≤ 5) :
    Calls Tryz.prog 54 #[.agg #[.int .i64 3, .int .i64 o, .int .i64 v]] w fun e w' => e = .returned (.bool false) ∧ Below w.heap.size w w' := by
  have hb := (Below.refl w.heap.size w).alloc (Nat.le_refl _) (.cells (#[.int .i64 3, .int .i64 o, .int .i64 v] : Array Value) 95)
  have hk := Blk.new w 95 #[.int .i64 3, .int .i64 o, .int .i64 v]
  obtain ⟨wz, hwz⟩ : ∃ wz, w.alloc (.cells (#[.int .i64 3, .int .i64 o, .int .i64 v] : Array Value) 95) = wz := ⟨_, rfl⟩
  rw [hwz] at hb hk
  have o0 : 0 ≤ o := by omega
  have c0 := hk.cell 0
  have c1 := hk.cell 1
  have c2 := hk.cell 2
  have hsz : w.heap.size < wz.heap.size := hk.lt
  have HB := Lib.hid hb.drew
  have y0 : decide (o ≤ 1) = false := by rw [decide_eq_false_iff_not]; omega
  clear hb hk
  go_enter Tryz.func54, Tryz.ntmps54
  go_upto_region 5 with fail
  first | go_region_with fail | done
  all_goals
    go_wp2_with fail
    go_ret
    exact ⟨rfl, HB.out⟩
theorem proper_no (c : SCond) (w : World) (h : ¬ okCnd c) : Calls Tryz.prog 54 #[condV c] w fun e w' => e = .returned (.bool false) ∧ Below w.heap.size w w' := by
  obtain ⟨f, o, v⟩ := c
  show Calls Tryz.prog 54 #[.agg #[.int .i64 f, .int .i64 o, .int .i64 v]] w _
  by_cases h0 : f < 0
  · exact proper_f0 f o v w h0
  by_cases h4 : 4 < f
  · exact proper_f4 f o v w h4
  by_cases o0 : o < 0
  · exact proper_o0 f o v w (by omega) (by omega) o0
  by_cases o5 : 5 < o
  · exact proper_o5 f o v w (by omega) (by omega) o5
  unfold okCnd at h
  simp only [] at h
  by_cases h3 : f = 3
  · subst h3
    by_cases o1 : 1 < o
    · exact proper_kindO o v w o1 (by omega)
    by_cases v0 : v < 0
    · exact proper_kindV o v w (by omega) (by omega) v0
    · exact proper_kindB o v w (by omega) (by omega) (by omega) (by
        by_cases v1 : 11 ≤ v
        · exact v1
        · exact absurd ⟨by omega, by omega, by omega, by omega, fun _ => ⟨by omega, by omega, by omega⟩, fun h => absurd h (by decide), fun h => absurd rfl h⟩ h)
  · by_cases h5 : f = 4
    · subst h5
      refine proper_dateN o v w (by omega) (by omega) ?_
      cases hd : dateB v with
      | false => rfl
      | true => exact absurd ⟨by omega, by omega, by omega, by omega, fun h => absurd h (by decide), fun _ => hd, fun _ h => absurd rfl h⟩ h
    · refine proper_numN f o v w (by omega) (by omega) (by omega) (by omega) h3 h5 ?_
      by_cases hv : v < -1000000000000 ∨ 1000000000000 < v
      · exact hv
      · exact absurd ⟨by omega, by omega, by omega, by omega, fun h => absurd h h3, fun h => absurd h h5, fun _ _ => ⟨by omega, by omega⟩⟩ h
theorem valid1_no (c : SCond) (w : World) (h : ¬ okCnd c) : Calls Tryz.prog 53 #[condV c] w fun e w' => e = .returned (.bool true) ∧ Below w.heap.size w w' := by
  obtain ⟨f, o, v⟩ := c
  show Calls Tryz.prog 53 #[.agg #[.int .i64 f, .int .i64 o, .int .i64 v]] w _
  have hb := (Below.refl w.heap.size w).alloc (Nat.le_refl _) (.cells (#[.int .i64 f, .int .i64 o, .int .i64 v] : Array Value) 95)
  have HB := Lib.hid hb
  have HV : Hid (Calls Tryz.prog 54 #[.agg #[.int .i64 f, .int .i64 o, .int .i64 v]] (w.alloc (.cells (#[.int .i64 f, .int .i64 o, .int .i64 v] : Array Value) 95)) fun e w' => e = .returned (.bool false) ∧ Below (w.alloc (.cells (#[.int .i64 f, .int .i64 o, .int .i64 v] : Array Value) 95)).heap.size (w.alloc (.cells (#[.int .i64 f, .int .i64 o, .int .i64 v] : Array Value) 95)) w') := proper_no ⟨f, o, v⟩ _ h
  clear hb h
  go_enter Tryz.func53, Tryz.ntmps53
  go_wp2_with fail
  refine HV.out.mono ?_
  rintro e wx ⟨rfl, hb2⟩
  have HB2 := Lib.hid (below_two HB.out hb2)
  clear hb2
  go_wp2_with fail
  go_ret
  exact ⟨rfl, HB2.out⟩
set_option maxHeartbeats 4000000 in
theorem idxF_yes (xs : List SCond) (A : Option Addr) (n c B : Nat) (w : World) (hF : ¬ ∀ x, x ∈ xs → okCnd x) (hr : Reads w B 3 A n (cndC xs)) (hB : B ≤ w.heap.size) (hn : n ≤ 10000) :
    Calls Tryz.prog 86 #[.slice A n c, .func (.func 53) #[] #[]] w fun e w' => ∃ k : Nat, e = .returned (.int .i64 (k : Int)) ∧ Below w.heap.size w w' := by
  have hlen : xs.length = n := by have := hr.1; rw [cndC_len] at this; omega
  have HR := Lib.hid hr
  have HX : Hid (¬ ∀ j, j < n → okCnd (xs.getD j default)) := fun hall => hF fun x hx => by
    obtain ⟨j, hj, rfl⟩ := List.mem_iff_getElem.1 hx
    have := hall j (by omega)
    rwa [List.getD_eq_getElem?_getD, List.getElem?_eq_getElem hj] at this
  have HF : Hid (∀ k, okCnd (xs.getD k default) → ∀ w, Calls Tryz.prog 53 #[condV (xs.getD k default)] w fun e w' => e = .returned (.bool false) ∧ Below w.heap.size w w') := fun k h w => valid1_yes _ w h
  have HG : Hid (∀ k, ¬ okCnd (xs.getD k default) → ∀ w, Calls Tryz.prog 53 #[condV (xs.getD k default)] w fun e w' => e = .returned (.bool true) ∧ Below w.heap.size w w') := fun k h w => valid1_no _ w h
  have HCF := Lib.hid enter_v1
  clear hr hF hlen
  obtain ⟨Fu, hFu⟩ : ∃ Fu : FuncId, 53 = Fu := ⟨_, rfl⟩
  rw [hFu] at HF HG HCF ⊢
  clear hFu
  have hcf : ∀ (args : Array Value) (w : World), (callFunc Fu args).run Tryz.prog w = .ok (.enter Fu args) w := HCF.out
  go_enter Tryz.func86, Tryz.ntmps86
  go_wp2_with fail
  go_loopw [8] (fun i wr => ∃ k : Nat, k ≤ n ∧ i = .int .i64 k ∧ Below w.heap.size w wr ∧ ∀ j, j < k → okCnd (xs.getD j default)) (fun i _ => n - (intOf i).toNat)
  case atStart => exact ⟨0, by omega, rfl, Below.refl _ _, fun j h => by omega⟩
  case round =>
    obtain ⟨k, hk, rfl, hbr, hd⟩ := hrel
    have HD := Lib.hid hd
    clear hd
    obtain ⟨wo, rfl⟩ : ∃ wo : World, wo = wr := ⟨_, rfl⟩
    by_cases hlt : k < n
    · have k3 : decide ((k : Int) < (n : Int)) = true := by rw [decide_eq_true_eq]; omega
      obtain ⟨ad, rfl, hbk, c0, c1, c2⟩ := (HR.out.lowQ hB (Nat.le_refl _) hbr).cnd_at hlt
      by_cases hok : okCnd (xs.getD k default)
      · have HK := Lib.hid (HF.out k hok)
        have HD2 : Hid (∀ j, j < k + 1 → okCnd (xs.getD j default)) := fun j hj => by
          by_cases e : j = k
          · rw [e]; exact hok
          · exact HD.out j (by omega)
        clear hok
        generalize xs.getD k default = x at *
        obtain ⟨f, o, v⟩ := x
        simp only [] at c0 c1 c2
        go_wp2_with fail
        refine (HK.out _).mono ?_
        rintro e w1 ⟨rfl, hb⟩
        have hb1 := below_two hbr hb
        clear c0 c1 c2 hb hbr
        go_wp2_with fail
        exact ⟨⟨k + 1, by omega, by go_num, hb1, HD2.out⟩, by simp [intOf]; omega⟩
      · have HK := Lib.hid (HG.out k hok)
        clear hok
        generalize xs.getD k default = x at *
        obtain ⟨f, o, v⟩ := x
        simp only [] at c0 c1 c2
        go_wp2_with fail
        refine (HK.out _).mono ?_
        rintro e w1 ⟨rfl, hb⟩
        have hb1 := below_two hbr hb
        clear c0 c1 c2 hb hbr
        go_wp2_with fail
        go_ret
        exact ⟨k, rfl, hb1⟩
    · exact absurd (fun j hj => HD.out j (by omega)) HX.out
theorem contF_yes (xs : List SCond) (A : Option Addr) (n c B : Nat) (w : World) (hF : ¬ ∀ x, x ∈ xs → okCnd x) (hr : Reads w B 3 A n (cndC xs)) (hB : B ≤ w.heap.size) (hn : n ≤ 10000) :
    Calls Tryz.prog 52 #[.slice A n c, .func (.func 53) #[] #[]] w fun e w' => e = .returned (.bool true) ∧ Below w.heap.size w w' := by
  have HI := Lib.hid (idxF_yes xs A n c B w hF hr hB hn)
  clear hr hF
  go_enter Tryz.func52, Tryz.ntmps52
  go_wp2_with fail
  refine HI.out.mono ?_
  rintro e w1 ⟨k, rfl, hb⟩
  have k0 : decide (0 ≤ (k : Int)) = true := by rw [decide_eq_true_eq]; omega
  have k1 : (0 : Int) ≤ (k : Int) := by omega
  go_wp2_with fail
  go_ret
  exact ⟨rfl, hb⟩
set_option maxHeartbeats 8000000 in
theorem valid_no (q : SQry) (Ab Aw : Option Addr) (nb nw cb cw B : Nat) (w : World) (hq : ¬ OkQ q) (hb : RdBy w B Ab q.by_) (hnb : nb = q.by_.length) (hcb : nb ≤ cb) (hw : Reads w B 3 Aw nw (cndC q.wh)) (hB : B ≤ w.heap.size) (hn : nb ≤ 10000) :
    Calls Tryz.prog 20 #[.agg #[.int .i64 q.verb, .slice Ab nb cb, .slice Aw nw cw]] w fun e w' => e = .returned (.bool false) ∧ Below w.heap.size w w' := by
  obtain ⟨verb, byl, wh⟩ := q
  simp only [] at hb hnb hw ⊢
  have hnw : wh.length = nw := by have := hw.1; rw [cndC_len] at this; omega
  have hb0 := (Below.refl w.heap.size w).alloc (Nat.le_refl _) (.cells (#[.int .i64 verb, .slice Ab nb cb, .slice Aw nw cw] : Array Value) 26)
  have hk0 := Blk.new w 26 #[.int .i64 verb, .slice Ab nb cb, .slice Aw nw cw]
  obtain ⟨wz, hwz⟩ : ∃ wz, w.alloc (.cells (#[.int .i64 verb, .slice Ab nb cb, .slice Aw nw cw] : Array Value) 26) = wz := ⟨_, rfl⟩
  rw [hwz] at hb0 hk0
  have hb1 := hb.low hB (Nat.le_refl _) hb0
  have hw1 := hw.lowQ hB (Nat.le_refl _) hb0
  have HWZ := Lib.hid hwz
  obtain ⟨c0, c1, c2⟩ := rd_cells hk0
  have hlt0 : w.heap.size < wz.heap.size := hk0.lt
  have hBz : B ≤ wz.heap.size := by omega
  have HB0 := Lib.hid hb0
  have HK0 := Lib.hid hk0
  have HBY := Lib.hid hb1
  have HWH := Lib.hid hw1
  have HNB := Lib.hid hnb
  by_cases v0 : verb < 0
  · have x1 : decide (verb < 0) = true := by rw [decide_eq_true_eq]; omega
    clear hb0 hk0 hb1 hw1 hb hw hnb hnw hq
    go_enter Tryz.func20, Tryz.ntmps20
    go_wp2_with fail
    go_ret
    exact ⟨rfl, HB0.out⟩
  by_cases v1 : 1 < verb
  · have x1 : decide (verb < 0) = false := by rw [decide_eq_false_iff_not]; omega
    have x2 : decide (1 < verb) = true := by rw [decide_eq_true_eq]; omega
    clear hb0 hk0 hb1 hw1 hb hw hnb hnw hq
    go_enter Tryz.func20, Tryz.ntmps20
    go_wp2_with fail
    go_ret
    exact ⟨rfl, HB0.out⟩
  by_cases wl : 20 < nw
  · have x1 : decide (verb < 0) = false := by rw [decide_eq_false_iff_not]; omega
    have x2 : decide (1 < verb) = false := by rw [decide_eq_false_iff_not]; omega
    have x3 : decide (20 < nw) = true := by rw [decide_eq_true_eq]; omega
    have x4 : decide ((20 : Int) < (nw : Int)) = true := by rw [decide_eq_true_eq]; omega
    clear hb0 hk0 hb1 hw1 hb hw hnb hnw hq
    go_enter Tryz.func20, Tryz.ntmps20
    go_wp2_with fail
    go_ret
    exact ⟨rfl, HB0.out⟩
  have HBAD : Hid ((∀ j, j < nb → (0 ≤ byl.getD j 0 ∧ byl.getD j 0 ≤ 4) ∧ (byl.take j).contains (byl.getD j 0) = false) → ¬ ∀ x, x ∈ wh → okCnd x) := fun h1 h2 =>
    hq ⟨by simp only []; omega, by simp only []; omega, by simp only []; omega, fun k hk => (h1 k (by rw [hnb]; exact hk)).1, fun k hk => (h1 k (by rw [hnb]; exact hk)).2, h2⟩
  have x1 : decide (verb < 0) = false := by rw [decide_eq_false_iff_not]; omega
  have x2 : decide (1 < verb) = false := by rw [decide_eq_false_iff_not]; omega
  have x3 : decide (20 < nw) = false := by rw [decide_eq_false_iff_not]; omega
  clear hb0 hk0 hb1 hw1 hb hw hnb hnw hq
  go_enter Tryz.func20, Tryz.ntmps20
  go_wp2_with fail
  go_loopw [22] (fun i wr => ∃ k : Nat, k ≤ nb ∧ i = .int .i64 k ∧ wr = wz ∧ ∀ j, j < k → (0 ≤ byl.getD j 0 ∧ byl.getD j 0 ≤ 4) ∧ (byl.take j).contains (byl.getD j 0) = false) (fun i _ => nb - (intOf i).toNat)
  case atStart => exact ⟨0, by omega, rfl, rfl, fun j h => by omega⟩
  case round =>
    obtain ⟨k, hk, rfl, rfl, hd⟩ := hrel
    have HDN := Lib.hid hd
    clear hd
    by_cases hlt : k < nb
    · have k3 : decide ((k : Int) < (nb : Int)) = true := by rw [decide_eq_true_eq]; omega
      have k4 : (k : Int) < (nb : Int) := by omega
      have hkl : k < byl.length := by have := HNB.out; omega
      obtain ⟨g, o, rfl, hg, hc⟩ := HBY.out (by omega)
      have y3 := hc k hkl
      have HC := Lib.hid (Tryz.slices_Contains_int g o k cb byl (byl.getD k 0) wr (by omega) (by omega) hc)
      have HNX : Hid ((0 ≤ byl.getD k 0 ∧ byl.getD k 0 ≤ 4) ∧ (byl.take k).contains (byl.getD k 0) = false → ∀ j, j < k + 1 → (0 ≤ byl.getD j 0 ∧ byl.getD j 0 ≤ 4) ∧ (byl.take j).contains (byl.getD j 0) = false) := fun h j hj => by
        by_cases e : j = k
        · rw [e]; exact h
        · exact HDN.out j (by omega)
      generalize byl.getD k 0 = x at *
      generalize (byl.take k).contains x = bb at *
      by_cases e0 : x < 0
      · have e1 : decide (x < 0) = true := by rw [decide_eq_true_eq]; omega
        clear hc hkl
        go_wp2_with fail
        go_ret
        exact ⟨rfl, HB0.out⟩
      by_cases e4 : 4 < x
      · have e1 : decide (x < 0) = false := by rw [decide_eq_false_iff_not]; omega
        have e2 : decide (4 < x) = true := by rw [decide_eq_true_eq]; omega
        clear hc hkl
        go_wp2_with fail
        go_ret
        exact ⟨rfl, HB0.out⟩
      have e1 : decide (x < 0) = false := by rw [decide_eq_false_iff_not]; omega
      have e2 : decide (4 < x) = false := by rw [decide_eq_false_iff_not]; omega
      clear hc hkl
      go_wp2_with fail
      refine HC.out.mono ?_
      rintro e wx ⟨rfl, rfl⟩
      cases bb with
      | true =>
        go_wp2_with fail
        go_ret
        exact ⟨rfl, HB0.out⟩
      | false =>
        have HNY := Lib.hid (HNX.out ⟨⟨by omega, by omega⟩, rfl⟩)
        clear HNX
        go_wp2_with fail
        go_roundw
        case rel => exact ⟨k + 1, by omega, by go_num, by first | rfl | trivial, HNY.out⟩
        case measure => simp [intOf]; omega
    · have k3 : decide ((k : Int) < (nb : Int)) = false := by rw [decide_eq_false_iff_not]; omega
      have HCF := Lib.hid (contF_yes wh Aw nw cw B wr (HBAD.out fun j hj => HDN.out j (by omega)) HWH.out hBz (by omega))
      go_wp2_with fail
      refine HCF.out.mono ?_
      rintro e wx ⟨rfl, hb⟩
      have HBX := Lib.hid (below_two HB0.out hb)
      clear hb
      go_wp2_with fail
      go_ret
      exact ⟨rfl, HBX.out⟩
end Go.Proofs.YtfnlddloalineaaGreatDoor
namespace Go.Proofs.YtfnlddloalineaaGreatDoor
open Go.RowKit
set_option linter.unusedVariables false
set_option maxRecDepth 100000
set_option maxHeartbeats 800000 in
theorem print_no (q : SQry) (Ab Aw : Option Addr) (nb nw cb cw B : Nat) (w : World) (hq : ¬ OkQ q) (hb : RdBy w B Ab q.by_) (hnb : nb = q.by_.length) (hcb : nb ≤ cb) (hw : Reads w B 3 Aw nw (cndC q.wh)) (hB : B ≤ w.heap.size) (hn : nb ≤ 10000) :
    Calls Tryz.prog 17 #[.agg #[.int .i64 q.verb, .slice Ab nb cb, .slice Aw nw cw]] w fun e w' => e = .returned (.tuple #[.string ⟨#[]⟩, .int .i64 1]) ∧ Below w.heap.size w w' := by
  have hb0 := (Below.refl w.heap.size w).alloc (Nat.le_refl _) (.cells (#[.int .i64 q.verb, .slice Ab nb cb, .slice Aw nw cw] : Array Value) 26)
  have hk0 := Blk.new w 26 #[.int .i64 q.verb, .slice Ab nb cb, .slice Aw nw cw]
  obtain ⟨wz, hwz⟩ : ∃ wz, w.alloc (.cells (#[.int .i64 q.verb, .slice Ab nb cb, .slice Aw nw cw] : Array Value) 26) = wz := ⟨_, rfl⟩
  rw [hwz] at hb0 hk0
  have hlt0 : w.heap.size < wz.heap.size := hk0.lt
  obtain ⟨c0, c1, c2⟩ := rd_cells hk0
  have HV := Lib.hid (valid_no q Ab Aw nb nw cb cw B wz hq (hb.low hB (Nat.le_refl _) hb0) hnb hcb (hw.lowQ hB (Nat.le_refl _) hb0) (by omega) hn)
  have HB0 := Lib.hid hb0
  generalize q.verb = verb at *
  clear hb0 hk0 hb hw hq hnb
  go_enter Tryz.func17, Tryz.ntmps17
  go_wp2_with fail
  refine HV.out.mono ?_
  rintro e w1 ⟨rfl, hb1⟩
  have HB1 := Lib.hid (below_two HB0.out hb1)
  clear hb1 c0 c1 c2 hwz hlt0
  go_wp2_with fail
  refine bodyPost_ret (v := .tuple #[.string ⟨#[]⟩, .int .i64 1]) ?_ rfl ⟨rfl, HB1.out⟩
  simp [results, Tryz.results17, go_sem]
end Go.Proofs.YtfnlddloalineaaGreatDoor
namespace Go.Proofs.YtfnlddloalineaaGreatDoor
open Go.RowKit
set_option linter.unusedVariables false
set_option maxRecDepth 100000
theorem rNumber_any (x : Int) (w : World) (h0 : -1000000000000000 ≤ x) (h1 : x ≤ 1000000000000000) :
    Calls Tryz.prog 84 #[.int .i64 x] w fun e w' => e = .returned (.string ⟨(Lib.itoa x).toArray⟩) ∧ Below w.heap.size w w' := by
  by_cases hx : x < 0
  · obtain ⟨m, hm, rfl⟩ : ∃ m : Nat, 1 ≤ m ∧ x = -(m : Int) := ⟨(-x).toNat, by omega, by omega⟩
    rw [Lib.itoa_neg _ hm]
    have hd : decide (-(m : Int) < 0) = true := by rw [decide_eq_true_eq]; omega
    have hl : (Lib.decDigits m).length ≤ 21 := dec_len_le (by omega)
    have E := Lib.hid (show - -(m : Int) = (m : Int) by omega)
    have HM : Hid (m ≤ 1000000000000000) := by show _ ≤ _; omega
    go_enter Tryz.func84, Tryz.ntmps84
    go_wp2_with fail
    refine (refDigits_int _ m _ (by omega) (by have := HM.out; omega)).mono ?_
    rintro e w1 ⟨rfl, hb⟩
    go_wp2_with fail
    go_ret
    exact ⟨ret_str' (cat_mk _ _), hb⟩
  · obtain ⟨m, rfl⟩ : ∃ m : Nat, x = m := ⟨x.toNat, by omega⟩
    rw [Lib.itoa_nonneg]
    have hd : decide ((m : Int) < 0) = false := by rw [decide_eq_false_iff_not]; omega
    have HM : Hid (m ≤ 1000000000000000) := by show _ ≤ _; omega
    clear h0 h1 hx
    go_enter Tryz.func84, Tryz.ntmps84
    go_wp2_with fail
    refine (refDigits_int m m _ rfl (by have := HM.out; omega)).mono ?_
    rintro e w1 ⟨rfl, hb⟩
    go_wp2_with fail
    go_ret
    exact ⟨rfl, hb⟩
theorem rvalue_num (f o v : Int) (w : World) (n3 : f ≠ 3) (n4 : f ≠ 4) (v0 : -1000000000000 ≤ v) (v1 : v ≤ 1000000000000) :
    Calls Tryz.prog 50 #[.agg #[.int .i64 f, .int .i64 o, .int .i64 v]] w fun e w' => e = .returned (.string ⟨(Lib.itoa v).toArray⟩) ∧ Below w.heap.size w w' := by
  have hb := (Below.refl w.heap.size w).alloc (Nat.le_refl _) (.cells (#[.int .i64 f, .int .i64 o, .int .i64 v] : Array Value) 72)
  have HB := Lib.hid hb
  have HI := Lib.hid (rNumber_any v (w.alloc (.cells (#[.int .i64 f, .int .i64 o, .int .i64 v] : Array Value) 72)) (by omega) (by omega))
  have q3 : (f == 3) = false := by rw [beq_eq_false_iff_ne]; exact n3
  have q4 : (f == 4) = false := by rw [beq_eq_false_iff_ne]; exact n4
  clear n3 n4 hb
  go_enter Tryz.func50, Tryz.ntmps50
  go_wp2_with fail
  refine HI.out.mono ?_
  rintro e w1 ⟨rfl, hw1⟩
  have HB1 := Lib.hid (below_two HB.out hw1)
  clear hw1
  go_wp2_with fail
  go_ret
  exact ⟨rfl, HB1.out⟩
/-- the reference's text of a condition's value -/
theorem rvalue_yes (c : SCond) (w : World) (h : okCnd c) : Calls Tryz.prog 50 #[condV c] w fun e w' => e = .returned (.string ⟨(valT c).toArray⟩) ∧ Below w.heap.size w w' := by
  obtain ⟨f, o, v⟩ := c
  obtain ⟨h0, h4, o0, o5, hk, hd, hn⟩ := h
  show Calls Tryz.prog 50 #[.agg #[.int .i64 f, .int .i64 o, .int .i64 v]] w _
  simp only [] at *
  unfold valT
  simp only []
  by_cases h3 : f = 3
  · subst h3
    obtain ⟨k1, k2, k3⟩ := hk rfl
    obtain ⟨k, rfl⟩ : ∃ k : Nat, v = (k : Int) := ⟨v.toNat, by omega⟩
    rw [if_pos rfl]
    exact rvalue_kind o k w (by omega)
  · rw [if_neg h3]
    by_cases h5 : f = 4
    · subst h5
      rw [if_pos rfl]
      exact rvalue_date o v w
    · rw [if_neg h5]
      exact rvalue_num f o v w h3 h5 (hn h3 h5).1 (hn h3 h5).2
theorem rmval_any (n : Int) (w : World) : Calls Tryz.prog 68 #[.int .i64 n] w fun e w' => e = .returned (.bool (decide (-1000000000000 ≤ n) && decide (n ≤ 1000000000000))) ∧ w = w' := by
  by_cases h0 : -1000000000000 ≤ n
  · by_cases h1 : n ≤ 1000000000000
    · rw [decide_eq_true h0, decide_eq_true h1]; exact rmval_yes n w h0 h1
    · rw [decide_eq_true h0, decide_eq_false h1]
      go_enter Tryz.func68, Tryz.ntmps68
      have y0 : decide (n ≤ 1000000000000) = false := decide_eq_false h1
      go_wp2_with fail
      go_ret
      exact ⟨rfl, rfl⟩
  · rw [decide_eq_false h0]
    go_enter Tryz.func68, Tryz.ntmps68
    have y0 : decide (-1000000000000 ≤ n) = false := decide_eq_false h0
    go_wp2_with fail
    go_ret
    exact ⟨rfl, rfl⟩
/-- the reference's question whether a value is permitted -/
def okVal (c : SCond) : Bool := if c.f = 3 then decide (0 ≤ c.v) && (decide (c.v < 11) && decide (c.o ≤ 1)) else if c.f = 4 then dateB c.v else decide (-1000000000000 ≤ c.v) && decide (c.v ≤ 1000000000000)
theorem okCnd_val (c : SCond) : okCnd c ↔ (0 ≤ c.f ∧ c.f ≤ 4) ∧ (0 ≤ c.o ∧ c.o ≤ 5) ∧ okVal c = true := by
  unfold okCnd okVal
  by_cases h3 : c.f = 3
  · rw [if_pos h3]
    simp only [Bool.and_eq_true, decide_eq_true_eq]
    constructor
    · rintro ⟨a, b, c', d, e, _, _⟩
      have := e h3
      exact ⟨⟨a, b⟩, ⟨c', d⟩, this.2.1, this.2.2, this.1⟩
    · rintro ⟨⟨a, b⟩, ⟨c', d⟩, e1, e2, e3⟩
      exact ⟨a, b, c', d, fun _ => ⟨e3, e1, e2⟩, fun h => by omega, fun h => absurd h3 h⟩
  · rw [if_neg h3]
    by_cases h4 : c.f = 4
    · rw [if_pos h4]
      constructor
      · rintro ⟨a, b, c', d, _, e, _⟩
        exact ⟨⟨a, b⟩, ⟨c', d⟩, e h4⟩
      · rintro ⟨⟨a, b⟩, ⟨c', d⟩, e⟩
        exact ⟨a, b, c', d, fun h => absurd h h3, fun _ => e, fun _ h => absurd h4 h⟩
    · rw [if_neg h4]
      simp only [Bool.and_eq_true, decide_eq_true_eq]
      constructor
      · rintro ⟨a, b, c', d, _, _, e⟩
        exact ⟨⟨a, b⟩, ⟨c', d⟩, e h3 h4⟩
      · rintro ⟨⟨a, b⟩, ⟨c', d⟩, e⟩
        exact ⟨a, b, c', d, fun h => absurd h h3, fun h => absurd h h4, fun _ _ => e⟩
theorem rproper_n (f o v : Int) (w : World) (n3 : f ≠ 3) (n4 : f ≠ 4) :
    Calls Tryz.prog 56 #[.agg #[.int .i64 f, .int .i64 o, .int .i64 v]] w fun e w' => e = .returned (.bool (decide (-1000000000000 ≤ v) && decide (v ≤ 1000000000000))) ∧ Below w.heap.size w w' := by
  have HB := Lib.hid ((Below.refl w.heap.size w).alloc (Nat.le_refl _) (.cells (#[.int .i64 f, .int .i64 o, .int .i64 v] : Array Value) 72))
  have HV := Lib.hid (rmval_any v (w.alloc (.cells (#[.int .i64 f, .int .i64 o, .int .i64 v] : Array Value) 72)))
  have q3 : (f == 3) = false := by rw [beq_eq_false_iff_ne]; exact n3
  have q4 : (f == 4) = false := by rw [beq_eq_false_iff_ne]; exact n4
  clear n3 n4
  generalize (decide (-1000000000000 ≤ v) && decide (v ≤ 1000000000000)) = bb at *
  go_enter Tryz.func56, Tryz.ntmps56
  go_wp2_with fail
  refine HV.out.mono ?_
  rintro e wx ⟨rfl, rfl⟩
  go_wp2_with fail
  go_ret
  exact ⟨rfl, HB.out⟩
theorem rproper_d (o v : Int) (w : World) :
    Calls Tryz.prog 56 #[.agg #[.int .i64 4, .int .i64 o, .int .i64 v]] w fun e w' => e = .returned (.bool (dateB v)) ∧ Below w.heap.size w w' := by
  have HB := Lib.hid ((Below.refl w.heap.size w).alloc (Nat.le_refl _) (.cells (#[.int .i64 4, .int .i64 o, .int .i64 v] : Array Value) 72))
  have HV := Lib.hid (refDvalid_any v (w.alloc (.cells (#[.int .i64 4, .int .i64 o, .int .i64 v] : Array Value) 72)))
  generalize dateB v = bb at *
  go_enter Tryz.func56, Tryz.ntmps56
  go_wp2_with fail
  refine HV.out.mono ?_
  rintro e wx ⟨rfl, rfl⟩
  go_wp2_with fail
  go_ret
  exact ⟨rfl, HB.out⟩
end Go.Proofs.YtfnlddloalineaaGreatDoor
namespace Go.Proofs.YtfnlddloalineaaGreatDoor
open Go.RowKit
set_option linter.unusedVariables false
set_option maxRecDepth 100000
set_option maxHeartbeats 4000000 in
theorem rproper_k1 (o v : Int) (w : World) (v0 : 0 ≤ v) (v1 : v < 11) :
    Calls Tryz.prog 56 #[.agg #[.int .i64 3, .int .i64 o, .int .i64 v]] w fun e w' => e = .returned (.bool (decide (o ≤ 1))) ∧ Below w.heap.size w w' := by
  have hb := (Below.refl w.heap.size w).alloc (Nat.le_refl _) (.cells (#[.int .i64 3, .int .i64 o, .int .i64 v] : Array Value) 72)
  have hk := Blk.new w 72 #[.int .i64 3, .int .i64 o, .int .i64 v]
  obtain ⟨wz, hwz⟩ : ∃ wz, w.alloc (.cells (#[.int .i64 3, .int .i64 o, .int .i64 v] : Array Value) 72) = wz := ⟨_, rfl⟩
  rw [hwz] at hb hk
  obtain ⟨c0, c1, c2⟩ := rd_cells hk
  have hsz : w.heap.size < wz.heap.size := hk.lt
  have HB := Lib.hid (((hb.alloc hb.size (.cells (kdL.map strV).toArray 9))).drew)
  clear hb hk
  go_enter Tryz.func56, Tryz.ntmps56
  go_upto_region 3 with fail
  go_region_with (go_at_call 82; refine (ref_kd_any _).mono ?_; rintro e wx ⟨rfl, rfl⟩)
  all_goals
    go_wp2_with fail
    go_ret
    exact ⟨rfl, HB.out⟩
set_option maxHeartbeats 4000000 in
theorem rproper_k2 (o v : Int) (w : World) (v0 : 0 ≤ v) (v1 : 11 ≤ v) :
    Calls Tryz.prog 56 #[.agg #[.int .i64 3, .int .i64 o, .int .i64 v]] w fun e w' => e = .returned (.bool false) ∧ Below w.heap.size w w' := by
  have hb := (Below.refl w.heap.size w).alloc (Nat.le_refl _) (.cells (#[.int .i64 3, .int .i64 o, .int .i64 v] : Array Value) 72)
  have hk := Blk.new w 72 #[.int .i64 3, .int .i64 o, .int .i64 v]
  obtain ⟨wz, hwz⟩ : ∃ wz, w.alloc (.cells (#[.int .i64 3, .int .i64 o, .int .i64 v] : Array Value) 72) = wz := ⟨_, rfl⟩
  rw [hwz] at hb hk
  obtain ⟨c0, c1, c2⟩ := rd_cells hk
  have hsz : w.heap.size < wz.heap.size := hk.lt
  have HB := Lib.hid (((hb.alloc hb.size (.cells (kdL.map strV).toArray 9))).drew)
  have y0 : decide (v < 11) = false := by rw [decide_eq_false_iff_not]; omega
  clear hb hk
  go_enter Tryz.func56, Tryz.ntmps56
  go_upto_region 3 with fail
  first | go_region_with (go_at_call 82; refine (ref_kd_any _).mono ?_; rintro e wx ⟨rfl, rfl⟩) | done
  all_goals
    go_wp2_with fail
    go_ret
    exact ⟨rfl, HB.out⟩
set_option maxHeartbeats 4000000 in
theorem rproper_k3 (o v : Int) (w : World) (v0 : v < 0) :
    Calls Tryz.prog 56 #[.agg #[.int .i64 3, .int .i64 o, .int .i64 v]] w fun e w' => e = .returned (.bool false) ∧ Below w.heap.size w w' := by
  have hb := (Below.refl w.heap.size w).alloc (Nat.le_refl _) (.cells (#[.int .i64 3, .int .i64 o, .int .i64 v] : Array Value) 72)
  have hk := Blk.new w 72 #[.int .i64 3, .int .i64 o, .int .i64 v]
  obtain ⟨wz, hwz⟩ : ∃ wz, w.alloc (.cells (#[.int .i64 3, .int .i64 o, .int .i64 v] : Array Value) 72) = wz := ⟨_, rfl⟩
  rw [hwz] at hb hk
  obtain ⟨c0, c1, c2⟩ := rd_cells hk
  have hsz : w.heap.size < wz.heap.size := hk.lt
  have HB := Lib.hid hb.drew
  have y0 : decide (0 ≤ v) = false := by rw [decide_eq_false_iff_not]; omega
  clear hb hk
  go_enter Tryz.func56, Tryz.ntmps56
  go_upto_region 3 with fail
  first | go_region_with fail | done
  all_goals
    go_wp2_with fail
    go_ret
    exact ⟨rfl, HB.out⟩
theorem rproper_any (c : SCond) (w : World) : Calls Tryz.prog 56 #[condV c] w fun e w' => e = .returned (.bool (okVal c)) ∧ Below w.heap.size w w' := by
  obtain ⟨f, o, v⟩ := c
  show Calls Tryz.prog 56 #[.agg #[.int .i64 f, .int .i64 o, .int .i64 v]] w _
  unfold okVal
  simp only []
  by_cases h3 : f = 3
  · subst h3
    rw [if_pos rfl]
    by_cases v0 : 0 ≤ v
    · by_cases v1 : v < 11
      · rw [decide_eq_true v0, decide_eq_true v1]
        exact rproper_k1 o v w v0 v1
      · rw [decide_eq_false v1, Bool.false_and, Bool.and_false]
        exact rproper_k2 o v w v0 (by omega)
    · rw [decide_eq_false v0, Bool.false_and]
      exact rproper_k3 o v w (by omega)
  · rw [if_neg h3]
    by_cases h4 : f = 4
    · subst h4
      rw [if_pos rfl]
      exact rproper_d o v w
    · rw [if_neg h4]
      exact rproper_n f o v w h3 h4
theorem ref_fd_low (w : World) : Calls Tryz.prog 48 #[] w fun e w' => e = .returned (.slice (some ⟨w.heap.size, 0, none⟩) 5 5) ∧ Below w.heap.size w w' :=
  (ref_fd_any w).mono fun e w' ⟨h1, h2⟩ => ⟨h1, by rw [h2]; exact (Below.refl _ _).alloc (Nat.le_refl _) _⟩
theorem ref_op_low (w : World) : Calls Tryz.prog 49 #[] w fun e w' => e = .returned (.slice (some ⟨w.heap.size, 0, none⟩) 6 6) ∧ Below w.heap.size w w' :=
  (ref_op_any w).mono fun e w' ⟨h1, h2⟩ => ⟨h1, by rw [h2]; exact (Below.refl _ _).alloc (Nat.le_refl _) _⟩
theorem ref_vb_low (w : World) : Calls Tryz.prog 38 #[] w fun e w' => e = .returned (.slice (some ⟨w.heap.size, 0, none⟩) 2 2) ∧ Below w.heap.size w w' :=
  (ref_vb_any w).mono fun e w' ⟨h1, h2⟩ => ⟨h1, by rw [h2]; exact (Below.refl _ _).alloc (Nat.le_refl _) _⟩
/-- what stays while the reference looks at a query -/
structure RvI (w : World) (verb : Int) (Ab Aw : Option Addr) (nb nw cb cw : Nat) (x : World) : Prop where
  below : Below w.heap.size w x
  lt : w.heap.size < x.heap.size
  c0 : x.cell? ⟨w.heap.size, 0, none⟩ = some (.int .i64 verb)
  c1 : x.cell? ⟨w.heap.size, 1, none⟩ = some (.slice Ab nb cb)
  c2 : x.cell? ⟨w.heap.size, 2, none⟩ = some (.slice Aw nw cw)
theorem RvI.same {w : World} {verb : Int} {Ab Aw : Option Addr} {nb nw cb cw : Nat} {x y : World} (h : RvI w verb Ab Aw nb nw cb cw x) (hb : Below x.heap.size x y) : RvI w verb Ab Aw nb nw cb cw y := by
  have h1 := h.lt
  have h2 := hb.size
  exact ⟨below_two h.below hb, by omega, (hb.cell (by simp only []; omega)).trans h.c0, (hb.cell (by simp only []; omega)).trans h.c1, (hb.cell (by simp only []; omega)).trans h.c2⟩
end Go.Proofs.YtfnlddloalineaaGreatDoor
