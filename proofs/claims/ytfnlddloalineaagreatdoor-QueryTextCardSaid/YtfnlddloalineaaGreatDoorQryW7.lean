/-
  The program's reader: value.
-/
import Derived.Test.YtfnlddloalineaaGreatDoorQryW6
namespace Go.Proofs.YtfnlddloalineaaGreatDoor
open Go.RowKit
set_option linter.unusedVariables false
def datP (s : List UInt8) : Int × Int := if (datF s && datD s) = true then (if dayOk (decVal (s.take 4)) (decVal ((s.take 7).drop 5)) (decVal (s.drop 8)) = true then (dayN (decVal (s.take 4)) (decVal ((s.take 7).drop 5)) (decVal (s.drop 8)), 0) else (0, 2)) else (0, 3)
theorem datP_eq (s : List UInt8) : twoV (datP s) = datR s := by
  unfold datP datR ofR twoV
  split
  · split <;> rfl
  · rfl
def kndP (x : List UInt8) : Int × Int := if idxW kdL x < 0 then (0, 17) else (idxW kdL x, 0)
/-- the value of a condition for a field, or the error -/
def valO (f : Int) (x : List UInt8) : Int × Int := if f = 3 then kndP x else if f = 4 then datP x else intR x
def ValSays (B R : Nat) (ws : List (List UInt8)) (ps : List Int) (len : Int) (o : Int × Int) (w : World) (e : Ending) (w' : World) : Prop := e = .returned (twoV o) ∧ Rdr w' B R ws ps len ∧ w.grownBy w' (some R)
def ValAny (B R : Nat) (x : List UInt8) (ws : List (List UInt8)) (p : Int) (ps : List Int) (len : Int) (o : Int × Int) (w : World) (e : Ending) (w' : World) : Prop :=
  (o.2 = 0 ∧ ValSays B R ws ps len o w e w') ∨ (o.2 ≠ 0 ∧ ValSays B R (x :: ws) (p :: ps) len o w e w')
theorem kd_cells (w : World) : ∀ j, j < kdL.length → (w.alloc (.cells (kdL.map strV).toArray 9)).cell? ⟨w.heap.size, j, none⟩ = some (.string ⟨(kdL.getD j []).toArray⟩) := fun j hj => word_cell (Blk.new w 9 (kdL.map strV).toArray) hj
set_option maxRecDepth 100000 in
set_option maxHeartbeats 1000000 in
theorem value_none (f : Int) (ps : List Int) (len : Int) (B R : Nat) (w : World) (h : Rdr w B R [] ps len) :
    Calls Tryz.prog 101 #[.pointer (some ⟨R, 0, none⟩), .int .i64 f] w (ValSays B R [] ps len (0, 3) w) := by
  by_cases hf : f = 3
  · subst hf
    have hb := (Below.refl w.heap.size w).alloc (Nat.le_refl _) (.cells (kdL.map strV).toArray 9)
    have hr := Rdr.below h hb
    have HN := Lib.hid (fun v => name_none ps len B R (w.alloc (.cells (kdL.map strV).toArray 9)) v 17 hr)
    have HR := Lib.hid hr
    have HG := Lib.hid (grown_of_below hb (some R))
    clear h hb hr
    go_enter Tryz.func101, Tryz.ntmps101
    go_wp2_with fail
    refine (kd_any _).mono ?_
    rintro e w1 ⟨rfl, rfl⟩
    go_wp2_with fail
    refine (HN.out _).mono ?_
    rintro e wx ⟨rfl, rfl⟩
    go_wp2_with fail
    go_ret2
    exact ⟨rfl, HR.out, HG.out⟩
  · have q1 : (f == 3) = false := by rw [beq_eq_false_iff_ne]; exact hf
    have HM := Lib.hid (more_any [] ps len B R w h)
    rw [show decide (0 < ([] : List (List UInt8)).length) = false from rfl] at HM
    have HR := Lib.hid h
    clear h hf
    go_enter Tryz.func101, Tryz.ntmps101
    go_wp2_with fail
    refine HM.out.mono ?_
    rintro e wx ⟨rfl, rfl⟩
    go_wp2_with fail
    go_ret2
    exact ⟨rfl, HR.out, World.grownBy.refl _ _⟩
set_option maxRecDepth 100000 in
set_option maxHeartbeats 1000000 in
theorem value_some (f : Int) (x : List UInt8) (ws : List (List UInt8)) (p : Int) (ps : List Int) (len : Int) (B R : Nat) (w : World) (hE : Env w) (hEE : EnvE w) (hl : x.length ≤ 2000) (h : Rdr w B R (x :: ws) (p :: ps) len) :
    Calls Tryz.prog 101 #[.pointer (some ⟨R, 0, none⟩), .int .i64 f] w (ValAny B R x ws p ps len (valO f x) w) := by
  by_cases hf : f = 3
  · subst hf
    have hb := (Below.refl w.heap.size w).alloc (Nat.le_refl _) (.cells (kdL.map strV).toArray 9)
    have hr := Rdr.below h hb
    have HR := Lib.hid hr
    have HG := Lib.hid (grown_of_below hb (some R))
    have hv : valO 3 x = kndP x := rfl
    by_cases hi : idxW kdL x < 0
    · have e1 : valO 3 x = (0, 17) := by rw [hv]; unfold kndP; rw [if_pos hi]
      have HN := Lib.hid (fun c => name_bad x ws (p :: ps) len B R (w.alloc (.cells (kdL.map strV).toArray 9)) kdL w.heap.size 11 c 17 hr (kd_cells w) (by decide) (by decide) hi)
      rw [e1]
      clear h hb hr hv hi e1
      go_enter Tryz.func101, Tryz.ntmps101
      go_wp2_with fail
      refine (kd_any _).mono ?_
      rintro e w1 ⟨rfl, rfl⟩
      go_wp2_with fail
      refine (HN.out _).mono ?_
      rintro e wx ⟨rfl, rfl⟩
      go_wp2_with fail
      go_ret2
      exact Or.inr ⟨by decide, rfl, HR.out, HG.out⟩
    · have e1 : valO 3 x = (idxW kdL x, 0) := by rw [hv]; unfold kndP; rw [if_neg hi]
      have HN := Lib.hid (fun c => name_ok x ws p ps len B R (w.alloc (.cells (kdL.map strV).toArray 9)) kdL w.heap.size 11 c 17 hr (kd_cells w) (by decide) (by decide) hi)
      rw [show kdL.take 11 = kdL from rfl] at HN
      rw [e1]
      clear h hb hr hv hi e1
      generalize idxW kdL x = i at *
      go_enter Tryz.func101, Tryz.ntmps101
      go_wp2_with fail
      refine (kd_any _).mono ?_
      rintro e w1 ⟨rfl, rfl⟩
      go_wp2_with fail
      refine (HN.out _).mono ?_
      rintro e w2 ⟨rfl, hr2, hg2⟩
      have HR2 := Lib.hid hr2
      have HG2 := Lib.hid (World.grownBy.trans HG.out hg2)
      clear hr2 hg2
      go_wp2_with fail
      go_ret2
      exact Or.inl ⟨rfl, rfl, HR2.out, HG2.out⟩
  · have q1 : (f == 3) = false := by rw [beq_eq_false_iff_ne]; exact hf
    have HM := Lib.hid (more_any (x :: ws) (p :: ps) len B R w h)
    rw [show decide (0 < (x :: ws).length) = true by simp] at HM
    have HNX := Lib.hid (next_any x ws (p :: ps) len B R w h)
    have HR := Lib.hid h
    clear h
    have HVD : Hid (f = 4 → valO f x = datP x) := fun h4 => by unfold valO; rw [if_neg hf, if_pos h4]
    have HVI : Hid (f ≠ 4 → valO f x = intR x) := fun h4 => by unfold valO; rw [if_neg hf, if_neg h4]
    clear hf
    by_cases h4 : f = 4
    · have q2 : (f == 4) = true := by rw [beq_iff_eq]; exact h4
      have HC : Hid (Calls Tryz.prog 128 #[.string ⟨x.toArray⟩] w fun e w' => e = .returned (twoV (valO f x)) ∧ Below w.heap.size w w') := by
        show Calls _ _ _ _ _
        rw [HVD.out h4, datP_eq]
        exact dparse_any x w
      clear HVD HVI
      generalize valO f x = o at *
      obtain ⟨on, oe⟩ := o
      unfold twoV at HC
      simp only [] at HC
      by_cases he : oe = 0
      · subst he
        go_enter Tryz.func101, Tryz.ntmps101
        go_wp2_with fail
        refine HM.out.mono ?_
        rintro e wx ⟨rfl, rfl⟩
        go_wp2_with fail
        refine HNX.out.mono ?_
        rintro e wx ⟨rfl, rfl⟩
        go_wp2_with fail
        refine HC.out.mono ?_
        rintro e w1 ⟨rfl, hb⟩
        have HT := Lib.hid (take_any x ws p ps len B R w1 (Rdr.below HR.out hb))
        have HG := Lib.hid (grown_of_below hb (some R))
        clear hb
        go_wp2_with fail
        refine HT.out.mono ?_
        rintro e w2 ⟨⟨v, rfl⟩, hr2, hg2⟩
        have HR2 := Lib.hid hr2
        have HG2 := Lib.hid (World.grownBy.trans HG.out hg2)
        clear hr2 hg2
        go_wp2_with fail
        go_ret2
        exact Or.inl ⟨rfl, rfl, HR2.out, HG2.out⟩
      · have q3 : (oe == 0) = false := by rw [beq_eq_false_iff_ne]; exact he
        have HNE := Lib.hid he
        clear he
        go_enter Tryz.func101, Tryz.ntmps101
        go_wp2_with fail
        refine HM.out.mono ?_
        rintro e wx ⟨rfl, rfl⟩
        go_wp2_with fail
        refine HNX.out.mono ?_
        rintro e wx ⟨rfl, rfl⟩
        go_wp2_with fail
        refine HC.out.mono ?_
        rintro e w1 ⟨rfl, hb⟩
        have HR2 := Lib.hid (Rdr.below HR.out hb)
        have HG := Lib.hid (grown_of_below hb (some R))
        clear hb
        go_wp2_with fail
        go_ret2
        exact Or.inr ⟨HNE.out, rfl, HR2.out, HG.out⟩
    · have q2 : (f == 4) = false := by rw [beq_eq_false_iff_ne]; exact h4
      have HC : Hid (Calls Tryz.prog 127 #[.string ⟨x.toArray⟩] w fun e w' => e = .returned (twoV (valO f x)) ∧ Below w.heap.size w w') := by
        show Calls _ _ _ _ _
        rw [HVI.out h4]
        exact integer_any x w hE hEE hl
      clear HVD HVI
      generalize valO f x = o at *
      obtain ⟨on, oe⟩ := o
      unfold twoV at HC
      simp only [] at HC
      by_cases he : oe = 0
      · subst he
        go_enter Tryz.func101, Tryz.ntmps101
        go_wp2_with fail
        refine HM.out.mono ?_
        rintro e wx ⟨rfl, rfl⟩
        go_wp2_with fail
        refine HNX.out.mono ?_
        rintro e wx ⟨rfl, rfl⟩
        go_wp2_with fail
        refine HC.out.mono ?_
        rintro e w1 ⟨rfl, hb⟩
        have HT := Lib.hid (take_any x ws p ps len B R w1 (Rdr.below HR.out hb))
        have HG := Lib.hid (grown_of_below hb (some R))
        clear hb
        go_wp2_with fail
        refine HT.out.mono ?_
        rintro e w2 ⟨⟨v, rfl⟩, hr2, hg2⟩
        have HR2 := Lib.hid hr2
        have HG2 := Lib.hid (World.grownBy.trans HG.out hg2)
        clear hr2 hg2
        go_wp2_with fail
        go_ret2
        exact Or.inl ⟨rfl, rfl, HR2.out, HG2.out⟩
      · have q3 : (oe == 0) = false := by rw [beq_eq_false_iff_ne]; exact he
        have HNE := Lib.hid he
        clear he
        go_enter Tryz.func101, Tryz.ntmps101
        go_wp2_with fail
        refine HM.out.mono ?_
        rintro e wx ⟨rfl, rfl⟩
        go_wp2_with fail
        refine HNX.out.mono ?_
        rintro e wx ⟨rfl, rfl⟩
        go_wp2_with fail
        refine HC.out.mono ?_
        rintro e w1 ⟨rfl, hb⟩
        have HR2 := Lib.hid (Rdr.below HR.out hb)
        have HG := Lib.hid (grown_of_below hb (some R))
        clear hb
        go_wp2_with fail
        go_ret2
        exact Or.inr ⟨HNE.out, rfl, HR2.out, HG.out⟩
end Go.Proofs.YtfnlddloalineaaGreatDoor
