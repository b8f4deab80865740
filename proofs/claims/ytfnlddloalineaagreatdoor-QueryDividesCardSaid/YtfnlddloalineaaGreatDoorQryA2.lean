/-
  query.integer.
  The program's reader: value.
  The program's reader: cond, where the field is missing or unknown.
  The program's reader: cond, where the operator is missing or unknown.
  The program's reader: cond, where the value falls or stands.
-/
import Derived.Test.YtfnlddloalineaaGreatDoorQryA1
import Derived.Test.YtfnlddloalineaaGreatDoorDecPz
import Derived.Test.YtfnlddloalineaaGreatDoorDatA
import Derived.Test.YtfnlddloalineaaGreatDoorShelf2
import Derived.Lib.AtoiAll
import Derived.Lib.AtoiAllCases
namespace Go.Proofs.YtfnlddloalineaaGreatDoor
open Go.RowKit
set_option linter.unusedVariables false
theorem trim_any (l cs : List UInt8) (w : World) (hl : l.length ≤ 9223372036854775807) (hc : cs.length < 4294967281) (ha : ∀ b ∈ cs, b.toNat < 128) :
    Calls Tryz.prog 154 #[.string ⟨l.toArray⟩, .string ⟨cs.toArray⟩] w fun e w' => e = .returned (.string ⟨(Lib.trimS l cs).toArray⟩) ∧ Below w.heap.size w w' :=
  Any.strings_Trim_laid Tryz.l (by kernel_rfl) ⟨l.toArray⟩ ⟨cs.toArray⟩ w (by rw [mk_size]; exact hl) (by rw [mk_size]; exact hc) (fun j b hj => ha b (List.mem_of_getElem? hj))
theorem below_bytes {w w' : World} {e : TypeId} (h : w' = w ∨ ∃ t, w' = Lib.bytesWorld w e t) : Below w.heap.size w w' := by
  rcases h with rfl | ⟨t, rfl⟩
  · exact Below.refl _ _
  · unfold Lib.bytesWorld
    exact Lib.bytesWorld_below w e t
theorem atoi_yes (l : List UInt8) (v : Int) (w : World) (h : Lib.atoiAll l = .ok v) (hl : l.length ≤ 140737488355328) :
    Calls Tryz.prog 155 #[.string ⟨l.toArray⟩] w fun e w' => e = .returned (.tuple #[.int .i64 v, .nilIface]) ∧ Below w.heap.size w w' := by
  refine (Tryz.strconv_Atoi_ok ⟨l.toArray⟩ (by rw [mk_size]; omega) v h w).mono ?_
  rintro e w1 ⟨rfl, hw⟩
  exact ⟨rfl, below_bytes hw⟩
theorem atoi_no (l : List UInt8) (w : World) (hEE : EnvE w) (h : ∀ v, Lib.atoiAll l ≠ .ok v) (hl : l.length ≤ 140737488355328) :
    Calls Tryz.prog 155 #[.string ⟨l.toArray⟩] w fun e w' => ∃ n N, e = .returned (.tuple #[.int .i64 n, .iface 237 (.pointer (some ⟨N, 0, none⟩))]) ∧ Below w.heap.size w w' := by
  cases hc : Lib.atoiAll l
  · rename_i v
    exact absurd hc (h v)
  · obtain ⟨tp, p, hv⟩ := hEE.esyn
    refine (Tryz.strconv_Atoi_syntax_var ⟨l.toArray⟩ (by rw [mk_size]; omega) hc tp p w hv).mono ?_
    rintro e w1 ⟨N, rfl, _, _, hb⟩
    exact ⟨_, N, rfl, hb⟩
  · obtain ⟨tp, p, hv⟩ := hEE.erange
    refine (Tryz.strconv_Atoi_range_var ⟨l.toArray⟩ (by rw [mk_size]; omega) hc tp p w hv).mono ?_
    rintro e w1 ⟨N, rfl, _, _, hb⟩
    exact ⟨_, N, rfl, hb⟩
/-- what stands behind the sign of a word -/
def sgnD (s : List UInt8) : List UInt8 := Lib.trimPrefix s [45]
/-- a word of the form of an integer -/
def intF (s : List UInt8) : Bool := !(sgnD s).isEmpty && ((sgnD s).all isDig && !(((sgnD s).getD 0 0 == 48) && !(s == [48])))
def intN (s : List UInt8) : Option Int := match Lib.atoiAll s with
  | .ok v => if -1000000000000 ≤ v ∧ v ≤ 1000000000000 then some v else none
  | _ => none
def intR (s : List UInt8) : Int × Int := if intF s = true then (match intN s with | some v => (v, 0) | none => (0, 2)) else (0, 3)
def twoV (p : Int × Int) : Value := .tuple #[.int .i64 p.1, .int .i64 p.2]
theorem intR_no {s : List UInt8} (h : intF s = false) : twoV (intR s) = .tuple #[.int .i64 0, .int .i64 3] := by unfold intR; rw [h]; rfl
theorem intR_bad {s : List UInt8} (h : intF s = true) (h' : intN s = none) : twoV (intR s) = .tuple #[.int .i64 0, .int .i64 2] := by unfold intR; rw [if_pos h, h']; rfl
theorem intR_ok {s : List UInt8} {v : Int} (h : intF s = true) (h' : intN s = some v) : twoV (intR s) = .tuple #[.int .i64 v, .int .i64 0] := by unfold intR; rw [if_pos h, h']; rfl
theorem byteEqQ (a b : UInt8) : (((a.toNat : Nat) : Int) == ((b.toNat : Nat) : Int)) = (a == b) := by
  rw [Bool.eq_iff_iff, beq_iff_eq, beq_iff_eq]
  constructor
  · intro h; exact UInt8.toNat_inj.1 (by omega)
  · intro h; rw [h]
set_option maxRecDepth 100000 in
set_option maxHeartbeats 1000000 in
theorem integer_any (s : List UInt8) (w : World) (hE : Env w) (hEE : EnvE w) (hl : s.length ≤ 2000) : Calls Tryz.prog 127 #[.string ⟨s.toArray⟩] w fun e w' => e = .returned (twoV (intR s)) ∧ Below w.heap.size w w' := by
  have HTP : Hid (Calls Tryz.prog 153 #[.string ⟨s.toArray⟩, .string ⟨#[45]⟩] w fun e w' => e = .returned (.string ⟨(sgnD s).toArray⟩) ∧ w' = w) := Tryz.strings_TrimPrefix ⟨s.toArray⟩ ⟨#[45]⟩ w
  have HF : Hid (intF s = (!(sgnD s).isEmpty && ((sgnD s).all isDig && !(((sgnD s).getD 0 0 == 48) && !(s == [48]))))) := rfl
  have hdl : (sgnD s).length ≤ 2000 := by
    unfold sgnD Lib.trimPrefix
    split
    · rw [List.length_drop]; omega
    · omega
  have HNO : Hid (intF s = false → twoV (intR s) = .tuple #[.int .i64 0, .int .i64 3]) := fun h => intR_no h
  have HAT : Hid (intF s = true → (∃ v, Lib.atoiAll s = .ok v ∧ ((-1000000000000 ≤ v ∧ v ≤ 1000000000000 ∧ twoV (intR s) = .tuple #[.int .i64 v, .int .i64 0]) ∨ (¬ (-1000000000000 ≤ v ∧ v ≤ 1000000000000) ∧ twoV (intR s) = .tuple #[.int .i64 0, .int .i64 2]))) ∨ ((∀ v, Lib.atoiAll s ≠ .ok v) ∧ twoV (intR s) = .tuple #[.int .i64 0, .int .i64 2])) := fun h => by
    cases ha : Lib.atoiAll s
    · rename_i v
      refine .inl ⟨v, rfl, ?_⟩
      by_cases hb : -1000000000000 ≤ v ∧ v ≤ 1000000000000
      · exact .inl ⟨hb.1, hb.2, intR_ok h (by unfold intN; rw [ha]; exact if_pos hb)⟩
      · exact .inr ⟨hb, intR_bad h (by unfold intN; rw [ha]; exact if_neg hb)⟩
    · exact .inr ⟨fun v e => (by cases e), intR_bad h (by unfold intN; rw [ha])⟩
    · exact .inr ⟨fun v e => (by cases e), intR_bad h (by unfold intN; rw [ha])⟩
  generalize twoV (intR s) = OUT at *
  generalize sgnD s = t at *
  have HTR : Hid (∀ w, Calls Tryz.prog 154 #[.string ⟨t.toArray⟩, .string ⟨#[48, 49, 50, 51, 52, 53, 54, 55, 56, 57]⟩] w fun e w' => e = .returned (.string ⟨(Lib.trimS t digs).toArray⟩) ∧ Below w.heap.size w w') := fun w => trim_any t digs w (by omega) (by decide) (by decide)
  by_cases he : t = []
  · have F := Lib.hid (HNO.out (by rw [HF.out, he]; rfl))
    subst he
    clear HNO HAT HF HTR
    go_enter Tryz.func127, Tryz.ntmps127
    go_wp2_with fail
    refine HTP.out.mono ?_
    rintro e wx ⟨rfl, rfl⟩
    go_wp2_with fail
    go_ret2
    exact ⟨by rw [F.out]; rfl, Below.refl _ _⟩
  have he1 : (t == []) = false := by rw [beq_eq_false_iff_ne]; exact he
  have he2 : t.isEmpty = false := by cases t with | nil => exact absurd rfl he | cons a b => rfl
  cases hd : t.all isDig
  · have F := Lib.hid (HNO.out (by rw [HF.out, hd, he2]; rfl))
    have hne : Lib.trimS t digs ≠ [] := fun h => by rw [trim_digs.1 h] at hd; cases hd
    have q1 : (Lib.trimS t digs == []) = false := by rw [beq_eq_false_iff_ne]; exact hne
    have q2 : (Lib.trimS t digs != []) = true := by rw [bne, q1]; rfl
    have q3 : (Lib.trimS t digs).isEmpty = false := by
      cases h : Lib.trimS t digs with
      | nil => exact absurd h hne
      | cons a b => rfl
    clear HNO HAT HF hd hne
    generalize Lib.trimS t digs = u at *
    go_enter Tryz.func127, Tryz.ntmps127
    go_wp2_with fail
    refine HTP.out.mono ?_
    rintro e wx ⟨rfl, rfl⟩
    go_wp2_with fail
    refine (HTR.out _).mono ?_
    rintro e w1 ⟨rfl, hb⟩
    go_wp2_with fail
    go_ret2
    exact ⟨by rw [F.out]; rfl, hb⟩
  · have hu : Lib.trimS t digs = [] := trim_digs.2 hd
    rw [hu] at HTR
    clear hu
    have hpos : 0 < t.length := by
      cases t with
      | nil => exact absurd rfl he
      | cons a b => simp
    have hsz : 0 < (⟨t.toArray⟩ : ByteArray).size := by rw [mk_size]; exact hpos
    have hg : (((⟨t.toArray⟩ : ByteArray)[0].toNat : Int) == 48) = (t.getD 0 0 == 48) := by
      rw [mk_getD]
      exact byteEqQ _ 48
    have b1 : (0 : Int) < (t.length : Int) := by omega
    have hcond : ((t.getD 0 0 == 48) = false) ∨ ((t.getD 0 0 == 48) = true ∧ s = [48]) ∨ ((t.getD 0 0 == 48) = true ∧ s ≠ [48]) := by
      cases h : (t.getD 0 0 == 48)
      · exact .inl rfl
      · by_cases h' : s = [48]
        · exact .inr (.inl ⟨rfl, h'⟩)
        · exact .inr (.inr ⟨rfl, h'⟩)
    rcases hcond with h0 | ⟨h0, h1⟩ | ⟨h0, h1⟩
    · have HAT2 := Lib.hid (HAT.out (by rw [HF.out, hd, he2, h0]; rfl))
      rw [h0] at hg
      clear HNO HAT HF h0 hd he
      go_enter Tryz.func127, Tryz.ntmps127
      go_wp2_with fail
      refine HTP.out.mono ?_
      rintro e wx ⟨rfl, rfl⟩
      go_wp2_with fail
      refine (HTR.out _).mono ?_
      rintro e w1 ⟨rfl, hb⟩
      have HB1 := Lib.hid hb
      clear hb
      go_wp2_with fail
      rcases HAT2.out with ⟨v, ha, hv⟩ | ⟨ha, hv⟩
      · have HA := Lib.hid (atoi_yes s v w1 ha (by omega))
        clear ha
        refine HA.out.mono ?_
        rintro e w2 ⟨rfl, hb⟩
        have HB2 := Lib.hid (below_two HB1.out hb)
        clear hb HA
        rcases hv with ⟨v1, v2, ho⟩ | ⟨hv, ho⟩
        · have F := Lib.hid ho
          have z1 : decide (v < -1000000000000) = false := by rw [decide_eq_false_iff_not]; omega
          have z2 : decide (1000000000000 < v) = false := by rw [decide_eq_false_iff_not]; omega
          clear ho
          go_wp2_with fail
          go_ret2
          exact ⟨by rw [F.out]; rfl, HB2.out⟩
        · have F := Lib.hid ho
          clear ho
          by_cases hlo : v < -1000000000000
          · have z1 : decide (v < -1000000000000) = true := by rw [decide_eq_true_eq]; exact hlo
            clear hv
            go_wp2_with fail
            go_ret2
            exact ⟨by rw [F.out]; rfl, HB2.out⟩
          · have z1 : decide (v < -1000000000000) = false := by rw [decide_eq_false_iff_not]; exact hlo
            have z2 : decide (1000000000000 < v) = true := by rw [decide_eq_true_eq]; omega
            clear hv
            go_wp2_with fail
            go_ret2
            exact ⟨by rw [F.out]; rfl, HB2.out⟩
      · have HA := Lib.hid (atoi_no s w1 (hEE.below HB1.out hE.size) ha (by omega))
        have F := Lib.hid hv
        clear ha hv
        refine HA.out.mono ?_
        rintro e w2 ⟨m, M, rfl, hb⟩
        have HB2 := Lib.hid (below_two HB1.out hb)
        clear hb HA
        go_wp2_with fail
        go_ret2
        exact ⟨by rw [F.out]; rfl, HB2.out⟩
    · have HAT2 := Lib.hid (HAT.out (by rw [HF.out, hd, he2, h0, h1]; rfl))
      rw [h0] at hg
      clear HNO HAT HF h0 hd he
      subst h1
      go_enter Tryz.func127, Tryz.ntmps127
      go_wp2_with fail
      refine HTP.out.mono ?_
      rintro e wx ⟨rfl, rfl⟩
      go_wp2_with fail
      refine (HTR.out _).mono ?_
      rintro e w1 ⟨rfl, hb⟩
      have HB1 := Lib.hid hb
      clear hb
      go_wp2_with fail
      rcases HAT2.out with ⟨v, ha, hv⟩ | ⟨ha, hv⟩
      · have HA := Lib.hid (atoi_yes [48] v w1 ha (by simp))
        clear ha
        refine HA.out.mono ?_
        rintro e w2 ⟨rfl, hb⟩
        have HB2 := Lib.hid (below_two HB1.out hb)
        clear hb HA
        rcases hv with ⟨v1, v2, ho⟩ | ⟨hv, ho⟩
        · have F := Lib.hid ho
          have z1 : decide (v < -1000000000000) = false := by rw [decide_eq_false_iff_not]; omega
          have z2 : decide (1000000000000 < v) = false := by rw [decide_eq_false_iff_not]; omega
          clear ho
          go_wp2_with fail
          go_ret2
          exact ⟨by rw [F.out]; rfl, HB2.out⟩
        · have F := Lib.hid ho
          clear ho
          by_cases hlo : v < -1000000000000
          · have z1 : decide (v < -1000000000000) = true := by rw [decide_eq_true_eq]; exact hlo
            clear hv
            go_wp2_with fail
            go_ret2
            exact ⟨by rw [F.out]; rfl, HB2.out⟩
          · have z1 : decide (v < -1000000000000) = false := by rw [decide_eq_false_iff_not]; exact hlo
            have z2 : decide (1000000000000 < v) = true := by rw [decide_eq_true_eq]; omega
            clear hv
            go_wp2_with fail
            go_ret2
            exact ⟨by rw [F.out]; rfl, HB2.out⟩
      · have HA := Lib.hid (atoi_no [48] w1 (hEE.below HB1.out hE.size) ha (by simp))
        have F := Lib.hid hv
        clear ha hv
        refine HA.out.mono ?_
        rintro e w2 ⟨m, M, rfl, hb⟩
        have HB2 := Lib.hid (below_two HB1.out hb)
        clear hb HA
        go_wp2_with fail
        go_ret2
        exact ⟨by rw [F.out]; rfl, HB2.out⟩
    · have F := Lib.hid (HNO.out (by
        have e : (s == [48]) = false := by rw [beq_eq_false_iff_ne]; exact h1
        rw [HF.out, hd, he2, h0, e]; rfl))
      have q1 : (s == [48]) = false := by rw [beq_eq_false_iff_ne]; exact h1
      have q2 : (s != [48]) = true := by rw [bne, q1]; rfl
      rw [h0] at hg
      clear HNO HAT HF h0 hd he h1
      go_enter Tryz.func127, Tryz.ntmps127
      go_wp2_with fail
      refine HTP.out.mono ?_
      rintro e wx ⟨rfl, rfl⟩
      go_wp2_with fail
      refine (HTR.out _).mono ?_
      rintro e w1 ⟨rfl, hb⟩
      have HB1 := Lib.hid hb
      clear hb
      go_wp2_with fail
      go_ret2
      exact ⟨by rw [F.out]; rfl, HB1.out⟩
end Go.Proofs.YtfnlddloalineaaGreatDoor
namespace Go.Proofs.YtfnlddloalineaaGreatDoor
open Go.RowKit
set_option linter.unusedVariables false
def datP (s : List UInt8) : Int × Int := if (datF s && datD s) = true then (if dayOk (decVal (s.take 4)) (decVal ((s.take 7).drop 5)) (decVal (s.drop 8)) = true then (dayN (decVal (s.take 4)) (decVal ((s.take 7).drop 5)) (decVal (s.drop 8)), 0) else (0, 2)) else (0, 3)
theorem datP_eq (s : List UInt8) : twoV (datP s) = datR s := by
  unfold datP datR ofR twoV
  split
  · split <;> rfl
  · rfl
def kndP (x : List UInt8) : Int × Int := if idxW kdL x < 0 then (0, 17) else (idxW kdL x, 0)
/-- the value of a condition for a field, or the error -/
def valO (f : Int) (x : List UInt8) : Int × Int := if f = 3 then kndP x else if f = 4 then datP x else intR x
def ValSays (B R : Nat) (ws : List (List UInt8)) (ps : List Int) (len : Int) (o : Int × Int) (w : World) (e : Ending) (w' : World) : Prop := e = .returned (twoV o) ∧ Rdr w' B R ws ps len ∧ w.grownBy w' (some R)
def ValAny (B R : Nat) (x : List UInt8) (ws : List (List UInt8)) (p : Int) (ps : List Int) (len : Int) (o : Int × Int) (w : World) (e : Ending) (w' : World) : Prop :=
  (o.2 = 0 ∧ ValSays B R ws ps len o w e w') ∨ (o.2 ≠ 0 ∧ ValSays B R (x :: ws) (p :: ps) len o w e w')
theorem kd_cells (w : World) : ∀ j, j < kdL.length → (w.alloc (.cells (kdL.map strV).toArray 9)).cell? ⟨w.heap.size, j, none⟩ = some (.string ⟨(kdL.getD j []).toArray⟩) := fun j hj => word_cell (Blk.new w 9 (kdL.map strV).toArray) hj
set_option maxRecDepth 100000 in
set_option maxHeartbeats 1000000 in
theorem value_none (f : Int) (ps : List Int) (len : Int) (B R : Nat) (w : World) (h : Rdr w B R [] ps len) :
    Calls Tryz.prog 101 #[.pointer (some ⟨R, 0, none⟩), .int .i64 f] w (ValSays B R [] ps len (0, 3) w) := by
  by_cases hf : f = 3
  · subst hf
    have hb := (Below.refl w.heap.size w).alloc (Nat.le_refl _) (.cells (kdL.map strV).toArray 9)
    have hr := Rdr.below h hb
    have HN := Lib.hid (fun v => name_none ps len B R (w.alloc (.cells (kdL.map strV).toArray 9)) v 17 hr)
    have HR := Lib.hid hr
    have HG := Lib.hid (grown_of_below hb (some R))
    clear h hb hr
    go_enter Tryz.func101, Tryz.ntmps101
    go_wp2_with fail
    refine (kd_any _).mono ?_
    rintro e w1 ⟨rfl, rfl⟩
    go_wp2_with fail
    refine (HN.out _).mono ?_
    rintro e wx ⟨rfl, rfl⟩
    go_wp2_with fail
    go_ret2
    exact ⟨rfl, HR.out, HG.out⟩
  · have q1 : (f == 3) = false := by rw [beq_eq_false_iff_ne]; exact hf
    have HM := Lib.hid (more_any [] ps len B R w h)
    rw [show decide (0 < ([] : List (List UInt8)).length) = false from rfl] at HM
    have HR := Lib.hid h
    clear h hf
    go_enter Tryz.func101, Tryz.ntmps101
    go_wp2_with fail
    refine HM.out.mono ?_
    rintro e wx ⟨rfl, rfl⟩
    go_wp2_with fail
    go_ret2
    exact ⟨rfl, HR.out, World.grownBy.refl _ _⟩
set_option maxRecDepth 100000 in
set_option maxHeartbeats 1000000 in
theorem value_some (f : Int) (x : List UInt8) (ws : List (List UInt8)) (p : Int) (ps : List Int) (len : Int) (B R : Nat) (w : World) (hE : Env w) (hEE : EnvE w) (hl : x.length ≤ 2000) (h : Rdr w B R (x :: ws) (p :: ps) len) :
    Calls Tryz.prog 101 #[.pointer (some ⟨R, 0, none⟩), .int .i64 f] w (ValAny B R x ws p ps len (valO f x) w) := by
  by_cases hf : f = 3
  · subst hf
    have hb := (Below.refl w.heap.size w).alloc (Nat.le_refl _) (.cells (kdL.map strV).toArray 9)
    have hr := Rdr.below h hb
    have HR := Lib.hid hr
    have HG := Lib.hid (grown_of_below hb (some R))
    have hv : valO 3 x = kndP x := rfl
    by_cases hi : idxW kdL x < 0
    · have e1 : valO 3 x = (0, 17) := by rw [hv]; unfold kndP; rw [if_pos hi]
      have HN := Lib.hid (fun c => name_bad x ws (p :: ps) len B R (w.alloc (.cells (kdL.map strV).toArray 9)) kdL w.heap.size 11 c 17 hr (kd_cells w) (by decide) (by decide) hi)
      rw [e1]
      clear h hb hr hv hi e1
      go_enter Tryz.func101, Tryz.ntmps101
      go_wp2_with fail
      refine (kd_any _).mono ?_
      rintro e w1 ⟨rfl, rfl⟩
      go_wp2_with fail
      refine (HN.out _).mono ?_
      rintro e wx ⟨rfl, rfl⟩
      go_wp2_with fail
      go_ret2
      exact Or.inr ⟨by decide, rfl, HR.out, HG.out⟩
    · have e1 : valO 3 x = (idxW kdL x, 0) := by rw [hv]; unfold kndP; rw [if_neg hi]
      have HN := Lib.hid (fun c => name_ok x ws p ps len B R (w.alloc (.cells (kdL.map strV).toArray 9)) kdL w.heap.size 11 c 17 hr (kd_cells w) (by decide) (by decide) hi)
      rw [show kdL.take 11 = kdL from rfl] at HN
      rw [e1]
      clear h hb hr hv hi e1
      generalize idxW kdL x = i at *
      go_enter Tryz.func101, Tryz.ntmps101
      go_wp2_with fail
      refine (kd_any _).mono ?_
      rintro e w1 ⟨rfl, rfl⟩
      go_wp2_with fail
      refine (HN.out _).mono ?_
      rintro e w2 ⟨rfl, hr2, hg2⟩
      have HR2 := Lib.hid hr2
      have HG2 := Lib.hid (World.grownBy.trans HG.out hg2)
      clear hr2 hg2
      go_wp2_with fail
      go_ret2
      exact Or.inl ⟨rfl, rfl, HR2.out, HG2.out⟩
  · have q1 : (f == 3) = false := by rw [beq_eq_false_iff_ne]; exact hf
    have HM := Lib.hid (more_any (x :: ws) (p :: ps) len B R w h)
    rw [show decide (0 < (x :: ws).length) = true by simp] at HM
    have HNX := Lib.hid (next_any x ws (p :: ps) len B R w h)
    have HR := Lib.hid h
    clear h
    have HVD : Hid (f = 4 → valO f x = datP x) := fun h4 => by unfold valO; rw [if_neg hf, if_pos h4]
    have HVI : Hid (f ≠ 4 → valO f x = intR x) := fun h4 => by unfold valO; rw [if_neg hf, if_neg h4]
    clear hf
    by_cases h4 : f = 4
    · have q2 : (f == 4) = true := by rw [beq_iff_eq]; exact h4
      have HC : Hid (Calls Tryz.prog 128 #[.string ⟨x.toArray⟩] w fun e w' => e = .returned (twoV (valO f x)) ∧ Below w.heap.size w w') := by
        show Calls _ _ _ _ _
        rw [HVD.out h4, datP_eq]
        exact dparse_any x w
      clear HVD HVI
      generalize valO f x = o at *
      obtain ⟨on, oe⟩ := o
      unfold twoV at HC
      simp only [] at HC
      by_cases he : oe = 0
      · subst he
        go_enter Tryz.func101, Tryz.ntmps101
        go_wp2_with fail
        refine HM.out.mono ?_
        rintro e wx ⟨rfl, rfl⟩
        go_wp2_with fail
        refine HNX.out.mono ?_
        rintro e wx ⟨rfl, rfl⟩
        go_wp2_with fail
        refine HC.out.mono ?_
        rintro e w1 ⟨rfl, hb⟩
        have HT := Lib.hid (take_any x ws p ps len B R w1 (Rdr.below HR.out hb))
        have HG := Lib.hid (grown_of_below hb (some R))
        clear hb
        go_wp2_with fail
        refine HT.out.mono ?_
        rintro e w2 ⟨⟨v, rfl⟩, hr2, hg2⟩
        have HR2 := Lib.hid hr2
        have HG2 := Lib.hid (World.grownBy.trans HG.out hg2)
        clear hr2 hg2
        go_wp2_with fail
        go_ret2
        exact Or.inl ⟨rfl, rfl, HR2.out, HG2.out⟩
      · have q3 : (oe == 0) = false := by rw [beq_eq_false_iff_ne]; exact he
        have HNE := Lib.hid he
        clear he
        go_enter Tryz.func101, Tryz.ntmps101
        go_wp2_with fail
        refine HM.out.mono ?_
        rintro e wx ⟨rfl, rfl⟩
        go_wp2_with fail
        refine HNX.out.mono ?_
        rintro e wx ⟨rfl, rfl⟩
        go_wp2_with fail
        refine HC.out.mono ?_
        rintro e w1 ⟨rfl, hb⟩
        have HR2 := Lib.hid (Rdr.below HR.out hb)
        have HG := Lib.hid (grown_of_below hb (some R))
        clear hb
        go_wp2_with fail
        go_ret2
        exact Or.inr ⟨HNE.out, rfl, HR2.out, HG.out⟩
    · have q2 : (f == 4) = false := by rw [beq_eq_false_iff_ne]; exact h4
      have HC : Hid (Calls Tryz.prog 127 #[.string ⟨x.toArray⟩] w fun e w' => e = .returned (twoV (valO f x)) ∧ Below w.heap.size w w') := by
        show Calls _ _ _ _ _
        rw [HVI.out h4]
        exact integer_any x w hE hEE hl
      clear HVD HVI
      generalize valO f x = o at *
      obtain ⟨on, oe⟩ := o
      unfold twoV at HC
      simp only [] at HC
      by_cases he : oe = 0
      · subst he
        go_enter Tryz.func101, Tryz.ntmps101
        go_wp2_with fail
        refine HM.out.mono ?_
        rintro e wx ⟨rfl, rfl⟩
        go_wp2_with fail
        refine HNX.out.mono ?_
        rintro e wx ⟨rfl, rfl⟩
        go_wp2_with fail
        refine HC.out.mono ?_
        rintro e w1 ⟨rfl, hb⟩
        have HT := Lib.hid (take_any x ws p ps len B R w1 (Rdr.below HR.out hb))
        have HG := Lib.hid (grown_of_below hb (some R))
        clear hb
        go_wp2_with fail
        refine HT.out.mono ?_
        rintro e w2 ⟨⟨v, rfl⟩, hr2, hg2⟩
        have HR2 := Lib.hid hr2
        have HG2 := Lib.hid (World.grownBy.trans HG.out hg2)
        clear hr2 hg2
        go_wp2_with fail
        go_ret2
        exact Or.inl ⟨rfl, rfl, HR2.out, HG2.out⟩
      · have q3 : (oe == 0) = false := by rw [beq_eq_false_iff_ne]; exact he
        have HNE := Lib.hid he
        clear he
        go_enter Tryz.func101, Tryz.ntmps101
        go_wp2_with fail
        refine HM.out.mono ?_
        rintro e wx ⟨rfl, rfl⟩
        go_wp2_with fail
        refine HNX.out.mono ?_
        rintro e wx ⟨rfl, rfl⟩
        go_wp2_with fail
        refine HC.out.mono ?_
        rintro e w1 ⟨rfl, hb⟩
        have HR2 := Lib.hid (Rdr.below HR.out hb)
        have HG := Lib.hid (grown_of_below hb (some R))
        clear hb
        go_wp2_with fail
        go_ret2
        exact Or.inr ⟨HNE.out, rfl, HR2.out, HG.out⟩
end Go.Proofs.YtfnlddloalineaaGreatDoor
namespace Go.Proofs.YtfnlddloalineaaGreatDoor
open Go.RowKit
set_option linter.unusedVariables false
set_option maxRecDepth 100000
def CndErr (B R : Nat) (ws : List (List UInt8)) (ps : List Int) (len E : Int) (w : World) (e : Ending) (w' : World) : Prop :=
  (∃ a b c : Int, e = .returned (.tuple #[.agg #[.int .i64 a, .int .i64 b, .int .i64 c], .int .i64 E])) ∧ Rdr w' B R ws ps len ∧ w.grownBy w' (some R)
theorem set3 {w : World} {g : Nat} {T : TypeId} {a b c a' b' c' : Value} (h : Blk w g T #[a, b, c]) : Blk (((w.setCell ⟨g, 0, none⟩ a').setCell ⟨g, 1, none⟩ b').setCell ⟨g, 2, none⟩ c') g T #[a', b', c'] := by
  have := ((h.set_ 0 a').set_ 1 b').set_ 2 c'
  simpa using this
/-- the first name falls: missing, or unknown -/
theorem cond_fell (ws : List (List UInt8)) (ps : List Int) (len : Int) (B R : Nat) (E : Int) (w : World) (h : Rdr w B R ws ps len) (hE : (E != 0) = true)
    (hnm : ∀ w1 : World, Rdr w1 B R ws ps len → (∀ j, j < fdL.length → w1.cell? ⟨w.heap.size + 1 + 1, j, none⟩ = some (.string ⟨(fdL.getD j []).toArray⟩)) →
      Calls Tryz.prog 70 #[.pointer (some ⟨R, 0, none⟩), .slice (some ⟨w.heap.size + 1 + 1, 0, none⟩) 5 5, .int .i64 17] w1 fun e w' => e = .returned (.tuple #[.int .i64 0, .int .i64 E]) ∧ w1 = w') :
    Calls Tryz.prog 74 #[.pointer (some ⟨R, 0, none⟩)] w (CndErr B R ws ps len E w) := by
  have hb0 := ((Below.refl w.heap.size w).alloc (Nat.le_refl _) (.cells (#[.int .i64 0, .int .i64 0, .int .i64 0] : Array Value) 95)).alloc (by simp) (.cells (#[.int .i64 0, .int .i64 0, .int .i64 0] : Array Value) 95)
  have hb1 := hb0.alloc hb0.size (.cells (fdL.map strV).toArray 9)
  have hr := Rdr.below h hb1
  have hl := Blk.new ((w.alloc (.cells (#[.int .i64 0, .int .i64 0, .int .i64 0] : Array Value) 95)).alloc (.cells (#[.int .i64 0, .int .i64 0, .int .i64 0] : Array Value) 95)) 9 (fdL.map strV).toArray
  rw [World.size_alloc, World.size_alloc] at hl
  have HN := Lib.hid (hnm _ hr (fun j hj => word_cell hl hj))
  have hz := ((Blk.new w 95 #[.int .i64 0, .int .i64 0, .int .i64 0]).alloc (.cells (#[.int .i64 0, .int .i64 0, .int .i64 0] : Array Value) 95)).alloc (.cells (fdL.map strV).toArray 9)
  have hc := (Blk.new (w.alloc (.cells (#[.int .i64 0, .int .i64 0, .int .i64 0] : Array Value) 95)) 95 #[.int .i64 0, .int .i64 0, .int .i64 0]).alloc (.cells (fdL.map strV).toArray 9)
  rw [World.size_alloc] at hc
  have HB1 := Lib.hid hb1
  have HZ := Lib.hid hz
  have HC := Lib.hid hc
  have H := Lib.hid h
  clear hb0 hb1 hr hz hc h hl hnm
  go_enter Tryz.func74, Tryz.ntmps74
  go_wp2_with fail
  refine (fd_any _).mono ?_
  rintro e w1 ⟨rfl, hw1⟩
  rw [← hw1] at HB1 HZ HC HN
  clear hw1
  go_wp2_with fail
  refine HN.out.mono ?_
  rintro e wx ⟨rfl, rfl⟩
  obtain ⟨x0, x1, x2⟩ := rd_cells HC.out
  have fx := HC.out.frozen
  obtain ⟨z0, z1, z2⟩ := rd_cells HZ.out
  have fz := HZ.out.frozen
  go_wp2_with fail
  have hbs := (((HB1.out.setCell (p := ⟨w.heap.size + 1, 0, none⟩) (by simp) (.int .i64 0)).setCell (p := ⟨w.heap.size, 0, none⟩) (Nat.le_refl _) (.int .i64 0)).setCell (p := ⟨w.heap.size, 1, none⟩) (Nat.le_refl _) (.int .i64 0)).setCell (p := ⟨w.heap.size, 2, none⟩) (Nat.le_refl _) (.int .i64 0)
  have hzs := set3 (a' := .int .i64 0) (b' := .int .i64 0) (c' := .int .i64 0) (HZ.out.far (p := ⟨w.heap.size + 1, 0, none⟩) (by simp) (.int .i64 0))
  clear z0 z1 z2
  obtain ⟨z0, z1, z2⟩ := rd_cells hzs
  refine bodyPost_ret (v := .tuple #[.agg #[.int .i64 0, .int .i64 0, .int .i64 0], .int .i64 E]) ?_ rfl ⟨⟨0, 0, 0, rfl⟩, Rdr.below H.out hbs, grown_of_below hbs _⟩
  simp [results, Tryz.results74, go_sem, z0, z1, z2]
theorem cond_none (ps : List Int) (len : Int) (B R : Nat) (w : World) (h : Rdr w B R [] ps len) :
    Calls Tryz.prog 74 #[.pointer (some ⟨R, 0, none⟩)] w (CndErr B R [] ps len 3 w) :=
  cond_fell [] ps len B R 3 w h (by decide) (fun w1 hr _ => name_none ps len B R w1 _ 17 hr)
theorem cond_unknown (x : List UInt8) (ws : List (List UInt8)) (ps : List Int) (len : Int) (B R : Nat) (w : World) (h : Rdr w B R (x :: ws) ps len) (hx : idxW fdL x < 0) :
    Calls Tryz.prog 74 #[.pointer (some ⟨R, 0, none⟩)] w (CndErr B R (x :: ws) ps len 17 w) :=
  cond_fell (x :: ws) ps len B R 17 w h (by decide) (fun w1 hr hc => name_bad x ws ps len B R w1 fdL _ 5 5 17 hr hc (by decide) (by decide) hx)
end Go.Proofs.YtfnlddloalineaaGreatDoor
namespace Go.Proofs.YtfnlddloalineaaGreatDoor
open Go.RowKit
set_option linter.unusedVariables false
set_option maxRecDepth 100000
theorem grown_new {w w1 : World} {row : Option Nat} (h : w.grownBy w1 row) {g : Nat} (hg : w.heap.size ≤ g) (j : Nat) (v : Value) : w.grownBy (w1.setCell ⟨g, j, none⟩ v) row :=
  ⟨h.os, h.tape, h.output, by have := h.size; simpa using this, fun i hi hne => (Below.heap_setCell w1 ⟨g, j, none⟩ v i (fun e => by simp only [] at e; omega)).trans (h.block i hi hne)⟩
/-- how many operators a field has -/
def opN (f : Int) : Nat := if f = 3 then 2 else 6
theorem cond_op_fell (x : List UInt8) (ws : List (List UInt8)) (p : Int) (ps : List Int) (len : Int) (B R : Nat) (E : Int) (w : World) (h : Rdr w B R (x :: ws) (p :: ps) len) (hE : (E != 0) = true) (hx : ¬ idxW fdL x < 0)
    (hnm : ∀ (w1 : World) (G : Nat), Rdr w1 B R ws ps len → (∀ j, j < opL.length → w1.cell? ⟨G, j, none⟩ = some (.string ⟨(opL.getD j []).toArray⟩)) →
      Calls Tryz.prog 70 #[.pointer (some ⟨R, 0, none⟩), .slice (some ⟨G, 0, none⟩) (opN (idxW fdL x)) 6, .int .i64 3] w1 fun e w' => e = .returned (.tuple #[.int .i64 0, .int .i64 E]) ∧ w1 = w') :
    Calls Tryz.prog 74 #[.pointer (some ⟨R, 0, none⟩)] w (CndErr B R ws ps len E w) := by
  have hRw : R < w.heap.size ∧ B ≤ w.heap.size := by obtain ⟨_, _, _, _, hk, _, _, _, _, _, _, h7⟩ := h; exact ⟨hk.lt, h7⟩
  obtain ⟨hRw, hBw⟩ := hRw
  have hb0 := ((Below.refl w.heap.size w).alloc (Nat.le_refl _) (.cells (#[.int .i64 0, .int .i64 0, .int .i64 0] : Array Value) 95)).alloc (by simp) (.cells (#[.int .i64 0, .int .i64 0, .int .i64 0] : Array Value) 95)
  have hb1 := hb0.alloc hb0.size (.cells (fdL.map strV).toArray 9)
  have hr := Rdr.below h hb1
  have hl := Blk.new ((w.alloc (.cells (#[.int .i64 0, .int .i64 0, .int .i64 0] : Array Value) 95)).alloc (.cells (#[.int .i64 0, .int .i64 0, .int .i64 0] : Array Value) 95)) 9 (fdL.map strV).toArray
  rw [World.size_alloc, World.size_alloc] at hl
  have HN := Lib.hid (name_ok x ws p ps len B R _ fdL (w.heap.size + 1 + 1) 5 5 17 hr (fun j hj => word_cell hl hj) (by decide) (by decide) hx)
  rw [show fdL.take 5 = fdL from rfl] at HN
  have hz := ((Blk.new w 95 #[.int .i64 0, .int .i64 0, .int .i64 0]).alloc (.cells (#[.int .i64 0, .int .i64 0, .int .i64 0] : Array Value) 95)).alloc (.cells (fdL.map strV).toArray 9)
  have hc := (Blk.new (w.alloc (.cells (#[.int .i64 0, .int .i64 0, .int .i64 0] : Array Value) 95)) 95 #[.int .i64 0, .int .i64 0, .int .i64 0]).alloc (.cells (fdL.map strV).toArray 9)
  rw [World.size_alloc] at hc
  have HG1 := Lib.hid (grown_of_below hb1 (some R))
  have HZ := Lib.hid hz
  have HC := Lib.hid hc
  have HNM := Lib.hid hnm
  clear hb0 hb1 hr hz hc h hl hnm hx
  generalize idxW fdL x = fi at *
  go_enter Tryz.func74, Tryz.ntmps74
  go_wp2_with fail
  refine (fd_any _).mono ?_
  rintro e w1 ⟨rfl, hw1⟩
  rw [← hw1] at HG1 HZ HC HN
  clear hw1
  go_wp2_with fail
  refine HN.out.mono ?_
  rintro e w2 ⟨rfl, hr2, hg2⟩
  have hz2 := HZ.out.grown hg2 (fun e => by injection e; omega)
  have hc2 := HC.out.grown hg2 (fun e => by injection e; omega)
  have HG2 := Lib.hid (World.grownBy.trans HG1.out hg2)
  have HR2 := Lib.hid hr2
  obtain ⟨x0, x1, x2⟩ := rd_cells hc2
  have fx := hc2.frozen
  have HZ2 := Lib.hid hz2
  have HC2 := Lib.hid hc2
  clear hr2 hg2 HZ HC HG1 hz2 hc2 HN
  have HR3 := Lib.hid (HR2.out.low ((Below.refl B w2).setCell (p := ⟨w.heap.size + 1, 0, none⟩) (by simp only []; omega) (.int .i64 fi)))
  have HG3 := Lib.hid (grown_new HG2.out (g := w.heap.size + 1) (by omega) 0 (.int .i64 fi))
  have HZ3 := Lib.hid (HZ2.out.far (p := ⟨w.heap.size + 1, 0, none⟩) (by simp) (.int .i64 fi))
  have HC3 : Hid (Blk (w2.setCell ⟨w.heap.size + 1, 0, none⟩ (.int .i64 fi)) (w.heap.size + 1) 95 #[.int .i64 fi, .int .i64 0, .int .i64 0]) := by
    show Blk _ _ _ _
    have := HC2.out.set_ 0 (.int .i64 fi)
    simpa using this
  clear HR2 HG2 HZ2 HC2
  go_wp2_with fail
  refine (op_any _).mono ?_
  rintro e w4 ⟨rfl, hw4⟩
  generalize w2.setCell ⟨w.heap.size + 1, 0, none⟩ (.int .i64 fi) = w3 at *
  have hb4 := (Below.refl w3.heap.size w3).alloc (Nat.le_refl _) (.cells (opL.map strV).toArray 9)
  have hr4 := HR3.out.below hb4
  have hl4 := Blk.new w3 9 (opL.map strV).toArray
  have hg4 := World.grownBy.trans HG3.out (grown_of_below hb4 (some R))
  have hz4 := HZ3.out.alloc (.cells (opL.map strV).toArray 9)
  have hc4 := HC3.out.alloc (.cells (opL.map strV).toArray 9)
  rw [← hw4] at hb4 hr4 hl4 hg4 hz4 hc4
  have HN4 := Lib.hid (HNM.out w4 w3.heap.size hr4 (fun j hj => word_cell hl4 hj))
  have HR4 := Lib.hid hr4
  have HG4 := Lib.hid hg4
  have HZ4 := Lib.hid hz4
  have HC4 := Lib.hid hc4
  clear x0 x1 x2 fx hb4 hr4 hl4 hg4 hz4 hc4 HR3 HG3 HZ3 HC3 HNM hw4
  obtain ⟨x0, x1, x2⟩ := rd_cells HC4.out
  have fx := HC4.out.frozen
  obtain ⟨z0, z1, z2⟩ := rd_cells HZ4.out
  have fz := HZ4.out.frozen
  have HEND : Hid (∀ ws' : World, ws' = (((w4.setCell ⟨w.heap.size + 1, 1, none⟩ (.int .i64 0)).setCell ⟨w.heap.size, 0, none⟩ (.int .i64 fi)).setCell ⟨w.heap.size, 1, none⟩ (.int .i64 0)).setCell ⟨w.heap.size, 2, none⟩ (.int .i64 0) → Rdr ws' B R ws ps len ∧ w.grownBy ws' (some R) ∧ Blk ws' w.heap.size 95 #[.int .i64 fi, .int .i64 0, .int .i64 0]) := by
    show ∀ _, _
    rintro ws' rfl
    refine ⟨HR4.out.low (((((Below.refl B w4).setCell (p := ⟨w.heap.size + 1, 1, none⟩) (by simp only []; omega) _).setCell (p := ⟨w.heap.size, 0, none⟩) hBw _).setCell (p := ⟨w.heap.size, 1, none⟩) hBw _).setCell (p := ⟨w.heap.size, 2, none⟩) hBw _), grown_new (grown_new (grown_new (grown_new HG4.out (by omega) _ _) (Nat.le_refl _) _ _) (Nat.le_refl _) _ _) (Nat.le_refl _) _ _, set3 (HZ4.out.far (p := ⟨w.heap.size + 1, 1, none⟩) (by simp) _)⟩
  by_cases h3 : fi = 3
  · subst h3
    rw [show opN 3 = 2 from rfl] at HN4
    go_wp2_with fail
    refine HN4.out.mono ?_
    rintro e wx ⟨rfl, rfl⟩
    go_wp2_with fail
    obtain ⟨hr, hg, hz⟩ := HEND.out _ rfl
    clear z0 z1 z2
    obtain ⟨z0, z1, z2⟩ := rd_cells hz
    refine bodyPost_ret (v := .tuple #[.agg #[.int .i64 3, .int .i64 0, .int .i64 0], .int .i64 E]) ?_ rfl ⟨⟨3, 0, 0, rfl⟩, hr, hg⟩
    simp [results, Tryz.results74, go_sem, z0, z1, z2]
  · have q1 : (fi == 3) = false := by rw [beq_eq_false_iff_ne]; exact h3
    rw [show opN fi = 6 by unfold opN; rw [if_neg h3]] at HN4
    clear h3
    go_wp2_with fail
    refine HN4.out.mono ?_
    rintro e wx ⟨rfl, rfl⟩
    go_wp2_with fail
    obtain ⟨hr, hg, hz⟩ := HEND.out _ rfl
    clear z0 z1 z2
    obtain ⟨z0, z1, z2⟩ := rd_cells hz
    refine bodyPost_ret (v := .tuple #[.agg #[.int .i64 fi, .int .i64 0, .int .i64 0], .int .i64 E]) ?_ rfl ⟨⟨fi, 0, 0, rfl⟩, hr, hg⟩
    simp [results, Tryz.results74, go_sem, z0, z1, z2]
end Go.Proofs.YtfnlddloalineaaGreatDoor
namespace Go.Proofs.YtfnlddloalineaaGreatDoor
open Go.RowKit
set_option linter.unusedVariables false
set_option maxRecDepth 100000
def CndSays (B R : Nat) (ws : List (List UInt8)) (ps : List Int) (len a b c E : Int) (w : World) (e : Ending) (w' : World) : Prop :=
  e = .returned (.tuple #[.agg #[.int .i64 a, .int .i64 b, .int .i64 c], .int .i64 E]) ∧ Rdr w' B R ws ps len ∧ w.grownBy w' (some R)
theorem cond_val (x o : List UInt8) (ws vs : List (List UInt8)) (p p2 : Int) (ps vps : List Int) (len : Int) (B R : Nat) (n E : Int) (w : World) (h : Rdr w B R (x :: o :: ws) (p :: p2 :: ps) len) (hx : ¬ idxW fdL x < 0) (ho : ¬ idxW (opL.take (opN (idxW fdL x))) o < 0)
    (hval : ∀ w1 : World, Rdr w1 B R ws ps len → w.grownBy w1 (some R) → Calls Tryz.prog 101 #[.pointer (some ⟨R, 0, none⟩), .int .i64 (idxW fdL x)] w1 fun e w' => e = .returned (.tuple #[.int .i64 n, .int .i64 E]) ∧ Rdr w' B R vs vps len ∧ w1.grownBy w' (some R)) :
    Calls Tryz.prog 74 #[.pointer (some ⟨R, 0, none⟩)] w (CndSays B R vs vps len (idxW fdL x) (idxW (opL.take (opN (idxW fdL x))) o) n E w) := by
  have hRw : R < w.heap.size ∧ B ≤ w.heap.size := by obtain ⟨_, _, _, _, hk, _, _, _, _, _, _, h7⟩ := h; exact ⟨hk.lt, h7⟩
  obtain ⟨hRw, hBw⟩ := hRw
  have hb0 := ((Below.refl w.heap.size w).alloc (Nat.le_refl _) (.cells (#[.int .i64 0, .int .i64 0, .int .i64 0] : Array Value) 95)).alloc (by simp) (.cells (#[.int .i64 0, .int .i64 0, .int .i64 0] : Array Value) 95)
  have hb1 := hb0.alloc hb0.size (.cells (fdL.map strV).toArray 9)
  have hr := Rdr.below h hb1
  have hl := Blk.new ((w.alloc (.cells (#[.int .i64 0, .int .i64 0, .int .i64 0] : Array Value) 95)).alloc (.cells (#[.int .i64 0, .int .i64 0, .int .i64 0] : Array Value) 95)) 9 (fdL.map strV).toArray
  rw [World.size_alloc, World.size_alloc] at hl
  have HN := Lib.hid (name_ok x (o :: ws) p (p2 :: ps) len B R _ fdL (w.heap.size + 1 + 1) 5 5 17 hr (fun j hj => word_cell hl hj) (by decide) (by decide) hx)
  rw [show fdL.take 5 = fdL from rfl] at HN
  have hz := ((Blk.new w 95 #[.int .i64 0, .int .i64 0, .int .i64 0]).alloc (.cells (#[.int .i64 0, .int .i64 0, .int .i64 0] : Array Value) 95)).alloc (.cells (fdL.map strV).toArray 9)
  have hc := (Blk.new (w.alloc (.cells (#[.int .i64 0, .int .i64 0, .int .i64 0] : Array Value) 95)) 95 #[.int .i64 0, .int .i64 0, .int .i64 0]).alloc (.cells (fdL.map strV).toArray 9)
  rw [World.size_alloc] at hc
  have HG1 := Lib.hid (grown_of_below hb1 (some R))
  have HZ := Lib.hid hz
  have HC := Lib.hid hc
  have HVL := Lib.hid hval
  have HNM : Hid (∀ (w1 : World) (G : Nat), Rdr w1 B R (o :: ws) (p2 :: ps) len → (∀ j, j < opL.length → w1.cell? ⟨G, j, none⟩ = some (.string ⟨(opL.getD j []).toArray⟩)) → Calls Tryz.prog 70 #[.pointer (some ⟨R, 0, none⟩), .slice (some ⟨G, 0, none⟩) (opN (idxW fdL x)) 6, .int .i64 3] w1 (NameSays B R ws ps len (idxW (opL.take (opN (idxW fdL x))) o) w1)) := fun w1 G hr hc => name_ok o ws p2 ps len B R w1 opL G (opN (idxW fdL x)) 6 3 hr hc (by unfold opN; split <;> decide) (by decide) ho
  clear hb0 hb1 hr hz hc h hl hval hx ho
  generalize idxW (opL.take (opN (idxW fdL x))) o = oi at *
  generalize idxW fdL x = fi at *
  go_enter Tryz.func74, Tryz.ntmps74
  go_wp2_with fail
  refine (fd_any _).mono ?_
  rintro e w1 ⟨rfl, hw1⟩
  rw [← hw1] at HG1 HZ HC HN
  clear hw1
  go_wp2_with fail
  refine HN.out.mono ?_
  rintro e w2 ⟨rfl, hr2, hg2⟩
  have hz2 := HZ.out.grown hg2 (fun e => by injection e; omega)
  have hc2 := HC.out.grown hg2 (fun e => by injection e; omega)
  have HG2 := Lib.hid (World.grownBy.trans HG1.out hg2)
  have HR2 := Lib.hid hr2
  obtain ⟨x0, x1, x2⟩ := rd_cells hc2
  have fx := hc2.frozen
  have HZ2 := Lib.hid hz2
  have HC2 := Lib.hid hc2
  clear hr2 hg2 HZ HC HG1 hz2 hc2 HN
  have HR3 := Lib.hid (HR2.out.low ((Below.refl B w2).setCell (p := ⟨w.heap.size + 1, 0, none⟩) (by simp only []; omega) (.int .i64 fi)))
  have HG3 := Lib.hid (grown_new HG2.out (g := w.heap.size + 1) (by omega) 0 (.int .i64 fi))
  have HZ3 := Lib.hid (HZ2.out.far (p := ⟨w.heap.size + 1, 0, none⟩) (by simp) (.int .i64 fi))
  have HC3 : Hid (Blk (w2.setCell ⟨w.heap.size + 1, 0, none⟩ (.int .i64 fi)) (w.heap.size + 1) 95 #[.int .i64 fi, .int .i64 0, .int .i64 0]) := by
    show Blk _ _ _ _
    have := HC2.out.set_ 0 (.int .i64 fi)
    simpa using this
  clear HR2 HG2 HZ2 HC2
  go_wp2_with fail
  refine (op_any _).mono ?_
  rintro e w4 ⟨rfl, hw4⟩
  generalize w2.setCell ⟨w.heap.size + 1, 0, none⟩ (.int .i64 fi) = w3 at *
  have hb4 := (Below.refl w3.heap.size w3).alloc (Nat.le_refl _) (.cells (opL.map strV).toArray 9)
  have hr4 := HR3.out.below hb4
  have hl4 := Blk.new w3 9 (opL.map strV).toArray
  have hg4 := World.grownBy.trans HG3.out (grown_of_below hb4 (some R))
  have hz4 := HZ3.out.alloc (.cells (opL.map strV).toArray 9)
  have hc4 := HC3.out.alloc (.cells (opL.map strV).toArray 9)
  rw [← hw4] at hb4 hr4 hl4 hg4 hz4 hc4
  have HN4 := Lib.hid (HNM.out w4 w3.heap.size hr4 (fun j hj => word_cell hl4 hj))
  have HR4 := Lib.hid hr4
  have HG4 := Lib.hid hg4
  have HZ4 := Lib.hid hz4
  have HC4 := Lib.hid hc4
  clear x0 x1 x2 fx hb4 hr4 hl4 hg4 hz4 hc4 HR3 HG3 HZ3 HC3 HNM hw4
  obtain ⟨x0, x1, x2⟩ := rd_cells HC4.out
  have fx := HC4.out.frozen
  obtain ⟨z0, z1, z2⟩ := rd_cells HZ4.out
  have fz := HZ4.out.frozen
  by_cases h3 : fi = 3
  · subst h3
    rw [show opN 3 = 2 from rfl] at HN4
    go_wp2_with fail
    refine HN4.out.mono ?_
    rintro e w5 ⟨rfl, hr5, hg5⟩
    have hc5 := HC4.out.grown hg5 (fun e => by injection e; omega)
    have hz5 := HZ4.out.grown hg5 (fun e => by injection e; omega)
    have HG5 := Lib.hid (grown_new (World.grownBy.trans HG4.out hg5) (g := w.heap.size + 1) (by omega) 1 (.int .i64 oi))
    have HR5 := Lib.hid (hr5.low ((Below.refl B w5).setCell (p := ⟨w.heap.size + 1, 1, none⟩) (by simp only []; omega) (.int .i64 oi)))
    have HZ5 := Lib.hid (hz5.far (p := ⟨w.heap.size + 1, 1, none⟩) (by simp) (.int .i64 oi))
    have HC5 : Hid (Blk (w5.setCell ⟨w.heap.size + 1, 1, none⟩ (.int .i64 oi)) (w.heap.size + 1) 95 #[.int .i64 3, .int .i64 oi, .int .i64 0]) := by
      show Blk _ _ _ _
      have := hc5.set_ 1 (.int .i64 oi)
      simpa using this
    have HV := Lib.hid (HVL.out _ HR5.out HG5.out)
    clear x0 x1 x2 fx z0 z1 z2 fz
    obtain ⟨x0, x1, x2⟩ := rd_cells hc5
    have fx := hc5.frozen
    clear hr5 hg5 hc5 hz5 HN4 HR4 HG4 HZ4 HC4 HVL
    go_wp2_with fail
    refine HV.out.mono ?_
    rintro e w7 ⟨rfl, hr7, hg7⟩
    have hc7 := HC5.out.grown hg7 (fun e => by injection e; omega)
    have hz7 := HZ5.out.grown hg7 (fun e => by injection e; omega)
    have HG7 := Lib.hid (World.grownBy.trans HG5.out hg7)
    have HR7 := Lib.hid hr7
    have HZ7 := Lib.hid hz7
    clear x0 x1 x2 fx
    obtain ⟨x0, x1, x2⟩ := rd_cells hc7
    have fx := hc7.frozen
    obtain ⟨z0, z1, z2⟩ := rd_cells hz7
    have fz := hz7.frozen
    clear hr7 hg7 hc7 hz7 HV HR5 HG5 HZ5 HC5
    go_wp2_with fail
    have hrF := HR7.out.low (((((Below.refl B w7).setCell (p := ⟨w.heap.size + 1, 2, none⟩) (by simp only []; omega) (.int .i64 n)).setCell (p := ⟨w.heap.size, 0, none⟩) hBw (.int .i64 3)).setCell (p := ⟨w.heap.size, 1, none⟩) hBw (.int .i64 oi)).setCell (p := ⟨w.heap.size, 2, none⟩) hBw (.int .i64 n))
    have hgF := grown_new (grown_new (grown_new (grown_new HG7.out (g := w.heap.size + 1) (by omega) 2 (.int .i64 n)) (g := w.heap.size) (Nat.le_refl _) 0 (.int .i64 3)) (g := w.heap.size) (Nat.le_refl _) 1 (.int .i64 oi)) (g := w.heap.size) (Nat.le_refl _) 2 (.int .i64 n)
    have hzF := set3 (a' := .int .i64 3) (b' := .int .i64 oi) (c' := .int .i64 n) (HZ7.out.far (p := ⟨w.heap.size + 1, 2, none⟩) (by simp) (.int .i64 n))
    clear z0 z1 z2
    obtain ⟨z0, z1, z2⟩ := rd_cells hzF
    refine bodyPost_ret (v := .tuple #[.agg #[.int .i64 3, .int .i64 oi, .int .i64 n], .int .i64 E]) ?_ rfl ⟨rfl, hrF, hgF⟩
    simp [results, Tryz.results74, go_sem, z0, z1, z2]
  · have q1 : (fi == 3) = false := by rw [beq_eq_false_iff_ne]; exact h3
    rw [show opN fi = 6 by unfold opN; rw [if_neg h3]] at HN4
    clear h3
    go_wp2_with fail
    refine HN4.out.mono ?_
    rintro e w5 ⟨rfl, hr5, hg5⟩
    have hc5 := HC4.out.grown hg5 (fun e => by injection e; omega)
    have hz5 := HZ4.out.grown hg5 (fun e => by injection e; omega)
    have HG5 := Lib.hid (grown_new (World.grownBy.trans HG4.out hg5) (g := w.heap.size + 1) (by omega) 1 (.int .i64 oi))
    have HR5 := Lib.hid (hr5.low ((Below.refl B w5).setCell (p := ⟨w.heap.size + 1, 1, none⟩) (by simp only []; omega) (.int .i64 oi)))
    have HZ5 := Lib.hid (hz5.far (p := ⟨w.heap.size + 1, 1, none⟩) (by simp) (.int .i64 oi))
    have HC5 : Hid (Blk (w5.setCell ⟨w.heap.size + 1, 1, none⟩ (.int .i64 oi)) (w.heap.size + 1) 95 #[.int .i64 fi, .int .i64 oi, .int .i64 0]) := by
      show Blk _ _ _ _
      have := hc5.set_ 1 (.int .i64 oi)
      simpa using this
    have HV := Lib.hid (HVL.out _ HR5.out HG5.out)
    clear x0 x1 x2 fx z0 z1 z2 fz
    obtain ⟨x0, x1, x2⟩ := rd_cells hc5
    have fx := hc5.frozen
    clear hr5 hg5 hc5 hz5 HN4 HR4 HG4 HZ4 HC4 HVL
    go_wp2_with fail
    refine HV.out.mono ?_
    rintro e w7 ⟨rfl, hr7, hg7⟩
    have hc7 := HC5.out.grown hg7 (fun e => by injection e; omega)
    have hz7 := HZ5.out.grown hg7 (fun e => by injection e; omega)
    have HG7 := Lib.hid (World.grownBy.trans HG5.out hg7)
    have HR7 := Lib.hid hr7
    have HZ7 := Lib.hid hz7
    clear x0 x1 x2 fx
    obtain ⟨x0, x1, x2⟩ := rd_cells hc7
    have fx := hc7.frozen
    obtain ⟨z0, z1, z2⟩ := rd_cells hz7
    have fz := hz7.frozen
    clear hr7 hg7 hc7 hz7 HV HR5 HG5 HZ5 HC5
    go_wp2_with fail
    have hrF := HR7.out.low (((((Below.refl B w7).setCell (p := ⟨w.heap.size + 1, 2, none⟩) (by simp only []; omega) (.int .i64 n)).setCell (p := ⟨w.heap.size, 0, none⟩) hBw (.int .i64 fi)).setCell (p := ⟨w.heap.size, 1, none⟩) hBw (.int .i64 oi)).setCell (p := ⟨w.heap.size, 2, none⟩) hBw (.int .i64 n))
    have hgF := grown_new (grown_new (grown_new (grown_new HG7.out (g := w.heap.size + 1) (by omega) 2 (.int .i64 n)) (g := w.heap.size) (Nat.le_refl _) 0 (.int .i64 fi)) (g := w.heap.size) (Nat.le_refl _) 1 (.int .i64 oi)) (g := w.heap.size) (Nat.le_refl _) 2 (.int .i64 n)
    have hzF := set3 (a' := .int .i64 fi) (b' := .int .i64 oi) (c' := .int .i64 n) (HZ7.out.far (p := ⟨w.heap.size + 1, 2, none⟩) (by simp) (.int .i64 n))
    clear z0 z1 z2
    obtain ⟨z0, z1, z2⟩ := rd_cells hzF
    refine bodyPost_ret (v := .tuple #[.agg #[.int .i64 fi, .int .i64 oi, .int .i64 n], .int .i64 E]) ?_ rfl ⟨rfl, hrF, hgF⟩
    simp [results, Tryz.results74, go_sem, z0, z1, z2]
end Go.Proofs.YtfnlddloalineaaGreatDoor
