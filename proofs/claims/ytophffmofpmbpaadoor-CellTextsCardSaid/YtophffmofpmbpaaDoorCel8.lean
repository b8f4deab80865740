/-
  cell.number.
-/
import Derived.Test.YtophffmofpmbpaaDoorCelPz
import Derived.Test.YtophffmofpmbpaaDoorCel7
import Derived.Lib.AtoiAll
import Derived.Lib.AtoiAllCases
namespace Go.Proofs.YtophffmofpmbpaaDoor
open Go.RowKit
set_option linter.unusedVariables false
theorem below_bytes {w w' : World} {e : TypeId} (h : w' = w ∨ ∃ t, w' = Lib.bytesWorld w e t) : Below w.heap.size w w' := by
  rcases h with rfl | ⟨t, rfl⟩
  · exact Below.refl _ _
  · unfold Lib.bytesWorld
    exact Lib.bytesWorld_below w e t
theorem atoi_yes (l : List UInt8) (v : Int) (w : World) (h : Lib.atoiAll l = .ok v) (hl : l.length ≤ 140737488355328) :
    Calls Tryd.prog 44 #[.string ⟨l.toArray⟩] w fun e w' => e = .returned (.tuple #[.int .i64 v, .nilIface]) ∧ Below w.heap.size w w' := by
  refine (Tryd.strconv_Atoi_ok ⟨l.toArray⟩ (by rw [mk_size]; omega) v h w).mono ?_
  rintro e w1 ⟨rfl, hw⟩
  exact ⟨rfl, below_bytes hw⟩
theorem atoi_no (l : List UInt8) (w : World) (hEE : EnvE w) (h : ∀ v, Lib.atoiAll l ≠ .ok v) (hl : l.length ≤ 140737488355328) :
    Calls Tryd.prog 44 #[.string ⟨l.toArray⟩] w fun e w' => ∃ n N, e = .returned (.tuple #[.int .i64 n, .iface 87 (.pointer (some ⟨N, 0, none⟩))]) ∧ Below w.heap.size w w' := by
  cases hc : Lib.atoiAll l
  · rename_i v
    exact absurd hc (h v)
  · obtain ⟨tp, p, hv⟩ := hEE.esyn
    refine (Tryd.strconv_Atoi_syntax_var ⟨l.toArray⟩ (by rw [mk_size]; omega) hc tp p w hv).mono ?_
    rintro e w1 ⟨N, rfl, _, _, hb⟩
    exact ⟨_, N, rfl, hb⟩
  · obtain ⟨tp, p, hv⟩ := hEE.erange
    refine (Tryd.strconv_Atoi_range_var ⟨l.toArray⟩ (by rw [mk_size]; omega) hc tp p w hv).mono ?_
    rintro e w1 ⟨N, rfl, _, _, hb⟩
    exact ⟨_, N, rfl, hb⟩
/-- the number that a word is, or -1 -/
def numW (l : List UInt8) : Int := match Lib.atoiAll l with
  | .ok v => if 0 ≤ v ∧ Lib.decDigits v.toNat = l then v else -1
  | _ => -1
theorem numW_ok {l : List UInt8} {v : Int} (h : Lib.atoiAll l = .ok v) : numW l = if 0 ≤ v ∧ Lib.decDigits v.toNat = l then v else -1 := by
  unfold numW; rw [h]
theorem numW_no {l : List UInt8} (h : ∀ v, Lib.atoiAll l ≠ .ok v) : numW l = -1 := by
  unfold numW
  cases hc : Lib.atoiAll l
  · rename_i v
    exact absurd hc (h v)
  · rfl
  · rfl
theorem numW_bd (l : List UInt8) : -1 ≤ numW l ∧ numW l ≤ 9223372036854775807 := by
  by_cases h : ∃ v, Lib.atoiAll l = .ok v
  · obtain ⟨v, h⟩ := h
    have := Lib.atoiAll_bounds h
    rw [numW_ok h]
    split <;> omega
  · rw [numW_no (fun v hv => h ⟨v, hv⟩)]; omega
theorem numW_pos {l : List UInt8} (h : 0 ≤ numW l) : Lib.decDigits (numW l).toNat = l := by
  by_cases hv : ∃ v, Lib.atoiAll l = .ok v
  · obtain ⟨v, hv⟩ := hv
    rw [numW_ok hv] at h ⊢
    split at h
    · rename_i hc; rw [if_pos hc]; exact hc.2
    · omega
  · rw [numW_no (fun v h2 => hv ⟨v, h2⟩)] at h; omega
set_option maxRecDepth 100000 in
set_option maxHeartbeats 4000000 in
theorem cnumber_any (l : List UInt8) (w : World) (hE : Env w) (hEE : EnvE w) (hl : l.length ≤ 140737488355328) :
    Calls Tryd.prog 35 #[.string ⟨l.toArray⟩] w fun e w' => e = .returned (.int .i64 (numW l)) ∧ Below w.heap.size w w' := by
  by_cases hv : ∃ v, Lib.atoiAll l = .ok v
  · obtain ⟨v, hv⟩ := hv
    have hbd := Lib.atoiAll_bounds hv
    have F0 := numW_ok hv
    have HV := Lib.hid hv
    clear hv
    by_cases h0 : 0 ≤ v
    · obtain ⟨m, rfl⟩ : ∃ m : Nat, v = m := ⟨v.toNat, by omega⟩
      have b1 : decide ((m : Int) < 0) = false := by rw [decide_eq_false_iff_not]; omega
      by_cases he : Lib.decDigits m = l
      · have F : Hid (numW l = m) := by show _ = _; rw [F0, if_pos ⟨h0, he⟩]
        have he' : (Lib.decDigits m == l) = true := by rw [he]; simp
        clear F0 he h0
        go_enter Tryd.func35, Tryd.ntmps35
        go_wp2_with fail
        refine (atoi_yes l m w HV.out hl).mono ?_
        rintro e w1 ⟨rfl, hb1⟩
        have hE1 := hE.after hb1
        go_wp2_with fail
        refine (itoa_nat m m w1 rfl (by omega) hE1).mono ?_
        rintro e w2 ⟨rfl, hb2⟩
        generalize Lib.decDigits m = D at *
        go_wp2_with fail
        go_ret
        exact ⟨ret_int F.out.symm, below_two hb1 hb2⟩
      · have F : Hid (numW l = -1) := by show _ = _; rw [F0, if_neg (by rintro ⟨_, h⟩; exact he h)]
        have he' : (Lib.decDigits m == l) = false := by rw [beq_eq_false_iff_ne]; exact he
        clear F0 he h0
        go_enter Tryd.func35, Tryd.ntmps35
        go_wp2_with fail
        refine (atoi_yes l m w HV.out hl).mono ?_
        rintro e w1 ⟨rfl, hb1⟩
        have hE1 := hE.after hb1
        go_wp2_with fail
        refine (itoa_nat m m w1 rfl (by omega) hE1).mono ?_
        rintro e w2 ⟨rfl, hb2⟩
        generalize Lib.decDigits m = D at *
        go_wp2_with fail
        go_ret
        exact ⟨ret_int F.out.symm, below_two hb1 hb2⟩
    · have F : Hid (numW l = -1) := by show _ = _; rw [F0, if_neg (by rintro ⟨h, _⟩; exact h0 h)]
      have b1 : decide (v < 0) = true := by rw [decide_eq_true_eq]; omega
      clear F0 h0
      go_enter Tryd.func35, Tryd.ntmps35
      go_wp2_with fail
      refine (atoi_yes l v w HV.out hl).mono ?_
      rintro e w1 ⟨rfl, hb1⟩
      go_wp2_with fail
      go_ret
      exact ⟨ret_int F.out.symm, hb1⟩
  · have hno : ∀ v, Lib.atoiAll l ≠ .ok v := fun v h => hv ⟨v, h⟩
    have F := Lib.hid (numW_no hno)
    have HNO := Lib.hid hno
    clear hv hno
    go_enter Tryd.func35, Tryd.ntmps35
    go_wp2_with fail
    refine (atoi_no l w hEE HNO.out hl).mono ?_
    rintro e w1 ⟨n, N, rfl, hb1⟩
    go_wp2_with fail
    go_ret
    exact ⟨ret_int F.out.symm, hb1⟩
end Go.Proofs.YtophffmofpmbpaaDoor
