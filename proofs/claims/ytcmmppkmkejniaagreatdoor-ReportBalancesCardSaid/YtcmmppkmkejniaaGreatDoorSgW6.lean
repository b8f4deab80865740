/-
  Print, the reference's Print.
-/
import Derived.Test.YtcmmppkmkejniaaGreatDoorSgW5
import Derived.Test.YtcmmppkmkejniaaGreatDoorBld
namespace Go.Proofs.YtcmmppkmkejniaaGreatDoor
open Go.RowKit
set_option linter.unusedVariables false
theorem bld_below {T e : TypeId} {B b : Nat} {bs : List Value} {w w' : World} (h : Lib.IsBuilder T e B b bs w) (hb : Below w.heap.size w w') : Lib.IsBuilder T e B b bs w' := by
  have key : ∀ p, Lib.BuilderAt T e B b p bs w → Lib.BuilderAt T e B b p bs w' := by
    intro p hp
    have hl := hp.lt
    obtain ⟨h1, v, h2, h3, h4⟩ := hp
    exact ⟨h1, v, (hb.block b hl).trans h2, own_below h3 hb, h4⟩
  exact h.imp (key _) (key _)
theorem okRow_bds {b : Int} {r : SRow} (h : okRow b r = true) : r.name.length ≤ 16 ∧ (0 ≤ r.level ∧ r.level ≤ 9) ∧ (0 ≤ r.from_ ∧ r.from_ ≤ 99999) ∧ (0 ≤ r.to_ ∧ r.to_ ≤ 99999) := by
  obtain ⟨h1, h2, h3, h4⟩ := okRow_iff.1 h
  refine ⟨name_le h1, by omega, ?_, ?_⟩
  · by_cases hl : r.to_ < r.from_
    · have := h3 hl; omega
    · have := h4 (by omega); omega
  · by_cases hl : r.to_ < r.from_
    · have := h3 hl; omega
    · have := h4 (by omega); omega
theorem validR_row {rs : List SRow} {k : Nat} (h : validR rs = true) (hk : k < rs.length) : okRow (lvl rs k) (rs.getD k default) = true := by
  unfold validR at h
  rw [Bool.and_eq_true] at h
  exact validF_lvl.1 h.1 k hk
theorem validR_len {rs : List SRow} (h : validR rs = true) : rs.length ≤ 300 := by
  unfold validR at h
  rw [Bool.and_eq_true, decide_eq_true_eq] at h
  exact h.2
theorem line_len {b : Int} {r : SRow} (h : okRow b r = true) : (lineL r).length ≤ 96 := by
  have hb := okRow_bds h
  have := lineL_len (r := r) (by omega) (by omega) (by omega) (by omega) (by omega) (by omega)
  omega
theorem textL_len {rs : List SRow} (h : validR rs = true) : ∀ k, k ≤ rs.length → (textL (rs.take k)).length ≤ k * 97 := by
  intro k
  induction k with
  | zero => intro _; simp [textL]
  | succ k ih =>
    intro hk
    have h0 := line_len (validR_row h (show k < rs.length by omega))
    have := ih (by omega)
    rw [textL_step (by omega), List.length_append, List.length_append]
    generalize lineL (rs.getD k default) = L at *
    simp
    omega
def prS (rs : List SRow) : List UInt8 := if validR rs then textL rs else []
def prE (rs : List SRow) : Int := if validR rs then 0 else 1
theorem tup_se {a b : ByteArray} {x y : Int} (h : a = b) (h' : x = y) : Ending.returned (.tuple #[.string a, .int .i64 x]) = .returned (.tuple #[.string b, .int .i64 y]) := by rw [h, h']
set_option maxRecDepth 100000 in
set_option maxHeartbeats 4000000 in
theorem print_any (rs : List SRow) (A : Option Addr) (n c : Nat) (B : Nat) (w : World) (hE : Env w) (hr : Reads w B 5 A n (rowsCells rs)) (hB : B ≤ w.heap.size) (hn63 : n ≤ 9223372036854775807) (hnc : n ≤ c) (hnm : ∀ r ∈ rs, r.name.length ≤ 3000) :
    Calls Tryz.prog 20 #[.slice A n c] w fun e w' => e = .returned (.tuple #[.string ⟨(prS rs).toArray⟩, .int .i64 (prE rs)]) ∧ Below w.heap.size w w' := by
  have HL := Lib.hid (rows_len hr)
  have HR := Lib.hid hr
  have HV := Lib.hid (valid_any rs A n c B w hr hB hn63 hnc hnm)
  clear hr hnm
  cases hv : validR rs
  · have F : Hid (prS rs = [] ∧ prE rs = 1) := by
      show _ ∧ _
      unfold prS prE; rw [hv]; exact ⟨rfl, rfl⟩
    go_enter Tryz.func20, Tryz.ntmps20
    have HVF := Lib.hid hv
    clear hv
    go_wp2_with fail
    refine HV.out.mono ?_
    rintro e w1 ⟨rfl, hb⟩
    rw [HVF.out]
    go_wp2_with fail
    go_ret2
    exact ⟨tup_se (by rw [F.out.1]) F.out.2.symm, hb⟩
  · have F : Hid (prS rs = textL rs ∧ prE rs = 0) := by
      show _ ∧ _
      unfold prS prE; rw [hv]; exact ⟨rfl, rfl⟩
    have HT := Lib.hid (textL_len hv)
    have hnl := validR_len hv
    have HVF := Lib.hid hv
    clear hv
    have hn3 : n ≤ 300 := by have := HL.out; omega
    clear hnl
    go_enter Tryz.func20, Tryz.ntmps20
    go_wp2_with fail
    refine HV.out.mono ?_
    rintro e w1 ⟨rfl, hb⟩
    rw [HVF.out]
    have HB1 := Lib.hid hb
    have hwb : w.heap.size ≤ w1.heap.size := hb.size
    clear hb
    go_wp2_with fail
    go_loopw [12] (fun i wr => ∃ k : Nat, k ≤ n ∧ i = .int .i64 k ∧ Lib.IsBuilder 79 5 w1.heap.size w1.heap.size (Lib.byteCells (textL (rs.take k))) wr ∧ Below w1.heap.size w1 wr) (fun i _ => n - (intOf i).toNat)
    case atStart => exact ⟨0, Nat.zero_le _, rfl, Lib.fresh_isBuilder _ _ _, (Below.refl _ _).alloc (Nat.le_refl _) _⟩
    case round =>
      obtain ⟨k, hk, rfl, hbd, hbr⟩ := hrel
      obtain ⟨wo, rfl⟩ : ∃ wo : World, wo = wr := ⟨_, rfl⟩
      have HBD := Lib.hid hbd
      clear hbd
      by_cases hlt : k < n
      · have k3 : decide ((k : Int) < (n : Int)) = true := by rw [decide_eq_true_eq]; omega
        have hbw := below_two HB1.out hbr
        obtain ⟨ad, rfl, hab, c0, c1, c2, c3, c4⟩ := (HR.out.low hB (Nat.le_refl _) hbw).row_at hlt
        have hkl : k < rs.length := by rw [HL.out]; exact hlt
        have hok := okRow_bds (validR_row HVF.out hkl)
        have hll := line_len (validR_row HVF.out hkl)
        have HS : Hid (textL (rs.take (k + 1)) = textL (rs.take k) ++ (lineL (rs.getD k default) ++ [10])) := by
          show _ = _
          exact textL_step hkl
        have htl := HT.out k (by omega)
        generalize rs.getD k default = r at *
        generalize textL (rs.take k) = T at *
        have hE1 := hE.after (hbw.alloc hbw.size (.cells #[.string ⟨r.name.toArray⟩, .int .i64 r.level, .int .i64 r.from_, .int .i64 r.to_, .bool r.neg] 39))
        have HP := Lib.hid (line_any r (wo.alloc (.cells #[.string ⟨r.name.toArray⟩, .int .i64 r.level, .int .i64 r.from_, .int .i64 r.to_, .bool r.neg] 39)) hE1 (by omega) (by omega) (by omega) (by omega) (by omega) (by omega) (by omega))
        have hba := hbr.alloc hbr.size (.cells #[.string ⟨r.name.toArray⟩, .int .i64 r.level, .int .i64 r.from_, .int .i64 r.to_, .bool r.neg] 39)
        have HBA := Lib.hid hba
        have hbd1 := bld_below HBD.out ((Below.refl wo.heap.size wo).alloc (Nat.le_refl _) (.cells #[.string ⟨r.name.toArray⟩, .int .i64 r.level, .int .i64 r.from_, .int .i64 r.to_, .bool r.neg] 39))
        have HBD1 := Lib.hid hbd1
        clear hba hbd1 HBD hbr hbw hE1
        obtain ⟨nm, lv, fr, to_, ng⟩ := r
        clear hok
        go_wp2_with fail
        refine HP.out.mono ?_
        rintro e w2 ⟨rfl, hb2⟩
        have hbd2 := bld_below HBD1.out hb2
        have HBD2 := Lib.hid hbd2
        have hb12 := below_two HBA.out hb2
        have HB12 := Lib.hid hb12
        have hsz2 : w1.heap.size ≤ w2.heap.size := hb12.size
        clear hbd2 hb12 hb2 HBD1 HBA c0 c1 c2 c3 c4 HP
        generalize lineL ⟨nm, lv, fr, to_, ng⟩ = L at *
        have n1 : ¬9223372036854775807 < L.length + 1 := by omega
        go_wp2_with fail
        have HW := Lib.hid (bldWrite w1.heap.size w1.heap.size (Lib.byteCells T) (⟨L.toArray⟩ ++ ⟨#[10]⟩) w2 HBD2.out (by
          rw [Lib.byteCells_length, ByteArray.size_append, mk_size]
          show T.length + (L.length + 1) ≤ _
          omega) hsz2)
        trace_state
        (with_reducible refine HW.out.mono ?_)
        rintro e w3 ⟨rfl, hbd3, hb3⟩
        have hcat : Lib.byteCells T ++ Lib.strCells (⟨L.toArray⟩ ++ ⟨#[10]⟩) = Lib.byteCells (T ++ (L ++ [10])) := by
          rw [Lib.byteCells_append, Lib.strCells_eq]; congr 2
        rw [hcat, ← HS.out] at hbd3
        have HBD3 := Lib.hid hbd3
        have HB3 := Lib.hid (HB12.out.trans hb3)
        clear hbd3 hb3 hcat
        go_wp2_with fail
        go_roundw
        case rel => exact ⟨k + 1, by omega, by go_num, .inr HBD3.out, HB3.out⟩
        case measure => simp [intOf]; omega
      · have k3 : decide ((k : Int) < (n : Int)) = false := by rw [decide_eq_false_iff_not]; omega
        have hbd := HBD.out
        rw [List.take_of_length_le (show rs.length ≤ k by rw [HL.out]; omega)] at hbd
        have HBD1 := Lib.hid hbd
        have hsz : w1.heap.size ≤ wo.heap.size := hbr.size
        have HBR := Lib.hid hbr
        clear hbd HBD hbr
        go_wp2_with fail
        refine (Any.Builder_String_any bldLays169 bldExtra _ _ (textL rs) _ HBD1.out hsz).mono ?_
        rintro e w2 ⟨rfl, hb2⟩
        go_wp2_with fail
        go_ret2
        exact ⟨tup_se (by rw [F.out.1]) F.out.2.symm, below_two HB1.out (HBR.out.trans hb2)⟩
end Go.Proofs.YtcmmppkmkejniaaGreatDoor
