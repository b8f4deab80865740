/-
  query.integer.
-/
import Derived.Test.YtfnlddloalineaaGreatDoorQryW5
import Derived.Test.YtfnlddloalineaaGreatDoorDecPz
import Derived.Test.YtfnlddloalineaaGreatDoorDatW8
import Derived.Test.YtfnlddloalineaaGreatDoorShelf2
import Derived.Lib.AtoiAll
import Derived.Lib.AtoiAllCases
namespace Go.Proofs.YtfnlddloalineaaGreatDoor
open Go.RowKit
set_option linter.unusedVariables false
theorem trim_any (l cs : List UInt8) (w : World) (hl : l.length ≤ 9223372036854775807) (hc : cs.length < 4294967281) (ha : ∀ b ∈ cs, b.toNat < 128) :
    Calls Tryz.prog 154 #[.string ⟨l.toArray⟩, .string ⟨cs.toArray⟩] w fun e w' => e = .returned (.string ⟨(Lib.trimS l cs).toArray⟩) ∧ Below w.heap.size w w' :=
  Any.strings_Trim_laid Tryz.l (by kernel_rfl) ⟨l.toArray⟩ ⟨cs.toArray⟩ w (by rw [mk_size]; exact hl) (by rw [mk_size]; exact hc) (fun j b hj => ha b (List.mem_of_getElem? hj))
theorem below_bytes {w w' : World} {e : TypeId} (h : w' = w ∨ ∃ t, w' = Lib.bytesWorld w e t) : Below w.heap.size w w' := by
  rcases h with rfl | ⟨t, rfl⟩
  · exact Below.refl _ _
  · unfold Lib.bytesWorld
    exact Lib.bytesWorld_below w e t
theorem atoi_yes (l : List UInt8) (v : Int) (w : World) (h : Lib.atoiAll l = .ok v) (hl : l.length ≤ 140737488355328) :
    Calls Tryz.prog 155 #[.string ⟨l.toArray⟩] w fun e w' => e = .returned (.tuple #[.int .i64 v, .nilIface]) ∧ Below w.heap.size w w' := by
  refine (Tryz.strconv_Atoi_ok ⟨l.toArray⟩ (by rw [mk_size]; omega) v h w).mono ?_
  rintro e w1 ⟨rfl, hw⟩
  exact ⟨rfl, below_bytes hw⟩
theorem atoi_no (l : List UInt8) (w : World) (hEE : EnvE w) (h : ∀ v, Lib.atoiAll l ≠ .ok v) (hl : l.length ≤ 140737488355328) :
    Calls Tryz.prog 155 #[.string ⟨l.toArray⟩] w fun e w' => ∃ n N, e = .returned (.tuple #[.int .i64 n, .iface 237 (.pointer (some ⟨N, 0, none⟩))]) ∧ Below w.heap.size w w' := by
  cases hc : Lib.atoiAll l
  · rename_i v
    exact absurd hc (h v)
  · obtain ⟨tp, p, hv⟩ := hEE.esyn
    refine (Tryz.strconv_Atoi_syntax_var ⟨l.toArray⟩ (by rw [mk_size]; omega) hc tp p w hv).mono ?_
    rintro e w1 ⟨N, rfl, _, _, hb⟩
    exact ⟨_, N, rfl, hb⟩
  · obtain ⟨tp, p, hv⟩ := hEE.erange
    refine (Tryz.strconv_Atoi_range_var ⟨l.toArray⟩ (by rw [mk_size]; omega) hc tp p w hv).mono ?_
    rintro e w1 ⟨N, rfl, _, _, hb⟩
    exact ⟨_, N, rfl, hb⟩
/-- what stands behind the sign of a word -/
def sgnD (s : List UInt8) : List UInt8 := Lib.trimPrefix s [45]
/-- a word of the form of an integer -/
def intF (s : List UInt8) : Bool := !(sgnD s).isEmpty && ((sgnD s).all isDig && !(((sgnD s).getD 0 0 == 48) && !(s == [48])))
def intN (s : List UInt8) : Option Int := match Lib.atoiAll s with
  | .ok v => if -1000000000000 ≤ v ∧ v ≤ 1000000000000 then some v else none
  | _ => none
def intR (s : List UInt8) : Int × Int := if intF s = true then (match intN s with | some v => (v, 0) | none => (0, 2)) else (0, 3)
def twoV (p : Int × Int) : Value := .tuple #[.int .i64 p.1, .int .i64 p.2]
theorem intR_no {s : List UInt8} (h : intF s = false) : twoV (intR s) = .tuple #[.int .i64 0, .int .i64 3] := by unfold intR; rw [h]; rfl
theorem intR_bad {s : List UInt8} (h : intF s = true) (h' : intN s = none) : twoV (intR s) = .tuple #[.int .i64 0, .int .i64 2] := by unfold intR; rw [if_pos h, h']; rfl
theorem intR_ok {s : List UInt8} {v : Int} (h : intF s = true) (h' : intN s = some v) : twoV (intR s) = .tuple #[.int .i64 v, .int .i64 0] := by unfold intR; rw [if_pos h, h']; rfl
theorem byteEqQ (a b : UInt8) : (((a.toNat : Nat) : Int) == ((b.toNat : Nat) : Int)) = (a == b) := by
  rw [Bool.eq_iff_iff, beq_iff_eq, beq_iff_eq]
  constructor
  · intro h; exact UInt8.toNat_inj.1 (by omega)
  · intro h; rw [h]
set_option maxRecDepth 100000 in
set_option maxHeartbeats 1000000 in
theorem integer_any (s : List UInt8) (w : World) (hE : Env w) (hEE : EnvE w) (hl : s.length ≤ 2000) : Calls Tryz.prog 127 #[.string ⟨s.toArray⟩] w fun e w' => e = .returned (twoV (intR s)) ∧ Below w.heap.size w w' := by
  have HTP : Hid (Calls Tryz.prog 153 #[.string ⟨s.toArray⟩, .string ⟨#[45]⟩] w fun e w' => e = .returned (.string ⟨(sgnD s).toArray⟩) ∧ w' = w) := Tryz.strings_TrimPrefix ⟨s.toArray⟩ ⟨#[45]⟩ w
  have HF : Hid (intF s = (!(sgnD s).isEmpty && ((sgnD s).all isDig && !(((sgnD s).getD 0 0 == 48) && !(s == [48]))))) := rfl
  have hdl : (sgnD s).length ≤ 2000 := by
    unfold sgnD Lib.trimPrefix
    split
    · rw [List.length_drop]; omega
    · omega
  have HNO : Hid (intF s = false → twoV (intR s) = .tuple #[.int .i64 0, .int .i64 3]) := fun h => intR_no h
  have HAT : Hid (intF s = true → (∃ v, Lib.atoiAll s = .ok v ∧ ((-1000000000000 ≤ v ∧ v ≤ 1000000000000 ∧ twoV (intR s) = .tuple #[.int .i64 v, .int .i64 0]) ∨ (¬ (-1000000000000 ≤ v ∧ v ≤ 1000000000000) ∧ twoV (intR s) = .tuple #[.int .i64 0, .int .i64 2]))) ∨ ((∀ v, Lib.atoiAll s ≠ .ok v) ∧ twoV (intR s) = .tuple #[.int .i64 0, .int .i64 2])) := fun h => by
    cases ha : Lib.atoiAll s
    · rename_i v
      refine .inl ⟨v, rfl, ?_⟩
      by_cases hb : -1000000000000 ≤ v ∧ v ≤ 1000000000000
      · exact .inl ⟨hb.1, hb.2, intR_ok h (by unfold intN; rw [ha]; exact if_pos hb)⟩
      · exact .inr ⟨hb, intR_bad h (by unfold intN; rw [ha]; exact if_neg hb)⟩
    · exact .inr ⟨fun v e => (by cases e), intR_bad h (by unfold intN; rw [ha])⟩
    · exact .inr ⟨fun v e => (by cases e), intR_bad h (by unfold intN; rw [ha])⟩
  generalize twoV (intR s) = OUT at *
  generalize sgnD s = t at *
  have HTR : Hid (∀ w, Calls Tryz.prog 154 #[.string ⟨t.toArray⟩, .string ⟨#[48, 49, 50, 51, 52, 53, 54, 55, 56, 57]⟩] w fun e w' => e = .returned (.string ⟨(Lib.trimS t digs).toArray⟩) ∧ Below w.heap.size w w') := fun w => trim_any t digs w (by omega) (by decide) (by decide)
  by_cases he : t = []
  · have F := Lib.hid (HNO.out (by rw [HF.out, he]; rfl))
    subst he
    clear HNO HAT HF HTR
    go_enter Tryz.func127, Tryz.ntmps127
    go_wp2_with fail
    refine HTP.out.mono ?_
    rintro e wx ⟨rfl, rfl⟩
    go_wp2_with fail
    go_ret2
    exact ⟨by rw [F.out]; rfl, Below.refl _ _⟩
  have he1 : (t == []) = false := by rw [beq_eq_false_iff_ne]; exact he
  have he2 : t.isEmpty = false := by cases t with | nil => exact absurd rfl he | cons a b => rfl
  cases hd : t.all isDig
  · have F := Lib.hid (HNO.out (by rw [HF.out, hd, he2]; rfl))
    have hne : Lib.trimS t digs ≠ [] := fun h => by rw [trim_digs.1 h] at hd; cases hd
    have q1 : (Lib.trimS t digs == []) = false := by rw [beq_eq_false_iff_ne]; exact hne
    have q2 : (Lib.trimS t digs != []) = true := by rw [bne, q1]; rfl
    have q3 : (Lib.trimS t digs).isEmpty = false := by
      cases h : Lib.trimS t digs with
      | nil => exact absurd h hne
      | cons a b => rfl
    clear HNO HAT HF hd hne
    generalize Lib.trimS t digs = u at *
    go_enter Tryz.func127, Tryz.ntmps127
    go_wp2_with fail
    refine HTP.out.mono ?_
    rintro e wx ⟨rfl, rfl⟩
    go_wp2_with fail
    refine (HTR.out _).mono ?_
    rintro e w1 ⟨rfl, hb⟩
    go_wp2_with fail
    go_ret2
    exact ⟨by rw [F.out]; rfl, hb⟩
  · have hu : Lib.trimS t digs = [] := trim_digs.2 hd
    rw [hu] at HTR
    clear hu
    have hpos : 0 < t.length := by
      cases t with
      | nil => exact absurd rfl he
      | cons a b => simp
    have hsz : 0 < (⟨t.toArray⟩ : ByteArray).size := by rw [mk_size]; exact hpos
    have hg : (((⟨t.toArray⟩ : ByteArray)[0].toNat : Int) == 48) = (t.getD 0 0 == 48) := by
      rw [mk_getD]
      exact byteEqQ _ 48
    have b1 : (0 : Int) < (t.length : Int) := by omega
    have hcond : ((t.getD 0 0 == 48) = false) ∨ ((t.getD 0 0 == 48) = true ∧ s = [48]) ∨ ((t.getD 0 0 == 48) = true ∧ s ≠ [48]) := by
      cases h : (t.getD 0 0 == 48)
      · exact .inl rfl
      · by_cases h' : s = [48]
        · exact .inr (.inl ⟨rfl, h'⟩)
        · exact .inr (.inr ⟨rfl, h'⟩)
    rcases hcond with h0 | ⟨h0, h1⟩ | ⟨h0, h1⟩
    · have HAT2 := Lib.hid (HAT.out (by rw [HF.out, hd, he2, h0]; rfl))
      rw [h0] at hg
      clear HNO HAT HF h0 hd he
      go_enter Tryz.func127, Tryz.ntmps127
      go_wp2_with fail
      refine HTP.out.mono ?_
      rintro e wx ⟨rfl, rfl⟩
      go_wp2_with fail
      refine (HTR.out _).mono ?_
      rintro e w1 ⟨rfl, hb⟩
      have HB1 := Lib.hid hb
      clear hb
      go_wp2_with fail
      rcases HAT2.out with ⟨v, ha, hv⟩ | ⟨ha, hv⟩
      · have HA := Lib.hid (atoi_yes s v w1 ha (by omega))
        clear ha
        refine HA.out.mono ?_
        rintro e w2 ⟨rfl, hb⟩
        have HB2 := Lib.hid (below_two HB1.out hb)
        clear hb HA
        rcases hv with ⟨v1, v2, ho⟩ | ⟨hv, ho⟩
        · have F := Lib.hid ho
          have z1 : decide (v < -1000000000000) = false := by rw [decide_eq_false_iff_not]; omega
          have z2 : decide (1000000000000 < v) = false := by rw [decide_eq_false_iff_not]; omega
          clear ho
          go_wp2_with fail
          go_ret2
          exact ⟨by rw [F.out]; rfl, HB2.out⟩
        · have F := Lib.hid ho
          clear ho
          by_cases hlo : v < -1000000000000
          · have z1 : decide (v < -1000000000000) = true := by rw [decide_eq_true_eq]; exact hlo
            clear hv
            go_wp2_with fail
            go_ret2
            exact ⟨by rw [F.out]; rfl, HB2.out⟩
          · have z1 : decide (v < -1000000000000) = false := by rw [decide_eq_false_iff_not]; exact hlo
            have z2 : decide (1000000000000 < v) = true := by rw [decide_eq_true_eq]; omega
            clear hv
            go_wp2_with fail
            go_ret2
            exact ⟨by rw [F.out]; rfl, HB2.out⟩
      · have HA := Lib.hid (atoi_no s w1 (hEE.below HB1.out hE.size) ha (by omega))
        have F := Lib.hid hv
        clear ha hv
        refine HA.out.mono ?_
        rintro e w2 ⟨m, M, rfl, hb⟩
        have HB2 := Lib.hid (below_two HB1.out hb)
        clear hb HA
        go_wp2_with fail
        go_ret2
        exact ⟨by rw [F.out]; rfl, HB2.out⟩
    · have HAT2 := Lib.hid (HAT.out (by rw [HF.out, hd, he2, h0, h1]; rfl))
      rw [h0] at hg
      clear HNO HAT HF h0 hd he
      subst h1
      go_enter Tryz.func127, Tryz.ntmps127
      go_wp2_with fail
      refine HTP.out.mono ?_
      rintro e wx ⟨rfl, rfl⟩
      go_wp2_with fail
      refine (HTR.out _).mono ?_
      rintro e w1 ⟨rfl, hb⟩
      have HB1 := Lib.hid hb
      clear hb
      go_wp2_with fail
      rcases HAT2.out with ⟨v, ha, hv⟩ | ⟨ha, hv⟩
      · have HA := Lib.hid (atoi_yes [48] v w1 ha (by simp))
        clear ha
        refine HA.out.mono ?_
        rintro e w2 ⟨rfl, hb⟩
        have HB2 := Lib.hid (below_two HB1.out hb)
        clear hb HA
        rcases hv with ⟨v1, v2, ho⟩ | ⟨hv, ho⟩
        · have F := Lib.hid ho
          have z1 : decide (v < -1000000000000) = false := by rw [decide_eq_false_iff_not]; omega
          have z2 : decide (1000000000000 < v) = false := by rw [decide_eq_false_iff_not]; omega
          clear ho
          go_wp2_with fail
          go_ret2
          exact ⟨by rw [F.out]; rfl, HB2.out⟩
        · have F := Lib.hid ho
          clear ho
          by_cases hlo : v < -1000000000000
          · have z1 : decide (v < -1000000000000) = true := by rw [decide_eq_true_eq]; exact hlo
            clear hv
            go_wp2_with fail
            go_ret2
            exact ⟨by rw [F.out]; rfl, HB2.out⟩
          · have z1 : decide (v < -1000000000000) = false := by rw [decide_eq_false_iff_not]; exact hlo
            have z2 : decide (1000000000000 < v) = true := by rw [decide_eq_true_eq]; omega
            clear hv
            go_wp2_with fail
            go_ret2
            exact ⟨by rw [F.out]; rfl, HB2.out⟩
      · have HA := Lib.hid (atoi_no [48] w1 (hEE.below HB1.out hE.size) ha (by simp))
        have F := Lib.hid hv
        clear ha hv
        refine HA.out.mono ?_
        rintro e w2 ⟨m, M, rfl, hb⟩
        have HB2 := Lib.hid (below_two HB1.out hb)
        clear hb HA
        go_wp2_with fail
        go_ret2
        exact ⟨by rw [F.out]; rfl, HB2.out⟩
    · have F := Lib.hid (HNO.out (by
        have e : (s == [48]) = false := by rw [beq_eq_false_iff_ne]; exact h1
        rw [HF.out, hd, he2, h0, e]; rfl))
      have q1 : (s == [48]) = false := by rw [beq_eq_false_iff_ne]; exact h1
      have q2 : (s != [48]) = true := by rw [bne, q1]; rfl
      rw [h0] at hg
      clear HNO HAT HF h0 hd he h1
      go_enter Tryz.func127, Tryz.ntmps127
      go_wp2_with fail
      refine HTP.out.mono ?_
      rintro e wx ⟨rfl, rfl⟩
      go_wp2_with fail
      refine (HTR.out _).mono ?_
      rintro e w1 ⟨rfl, hb⟩
      have HB1 := Lib.hid hb
      clear hb
      go_wp2_with fail
      go_ret2
      exact ⟨by rw [F.out]; rfl, HB1.out⟩
end Go.Proofs.YtfnlddloalineaaGreatDoor
