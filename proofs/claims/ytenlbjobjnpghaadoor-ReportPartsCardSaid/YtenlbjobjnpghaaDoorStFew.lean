/-
  Few (for seats without Print; in seat 50 the same stands in XStW7).
-/
import Derived.Test.YtenlbjobjnpghaaDoorStW4
namespace Go.Proofs.YtenlbjobjnpghaaDoor
open Go.RowKit
set_option linter.unusedVariables false
theorem okRow_bds {b : Int} {r : SRow} (h : okRow b r = true) : r.name.length ≤ 16 ∧ (0 ≤ r.level ∧ r.level ≤ 9) ∧ (0 ≤ r.from_ ∧ r.from_ ≤ 99999) ∧ (0 ≤ r.to_ ∧ r.to_ ≤ 99999) := by
  obtain ⟨h1, h2, h3, h4⟩ := okRow_iff.1 h
  refine ⟨name_le h1, by omega, ?_, ?_⟩
  · by_cases hl : r.to_ < r.from_
    · have := h3 hl; omega
    · have := h4 (by omega); omega
  · by_cases hl : r.to_ < r.from_
    · have := h3 hl; omega
    · have := h4 (by omega); omega
theorem validR_row {rs : List SRow} {k : Nat} (h : validR rs = true) (hk : k < rs.length) : okRow (lvl rs k) (rs.getD k default) = true := by
  unfold validR at h
  rw [Bool.and_eq_true] at h
  exact validF_lvl.1 h.1 k hk
theorem validR_len {rs : List SRow} (h : validR rs = true) : rs.length ≤ 300 := by
  unfold validR at h
  rw [Bool.and_eq_true, decide_eq_true_eq] at h
  exact h.2
def fewB (rs : List SRow) : Bool := rs.all (fun r => decide (r.name.length ≤ 60)) && decide (rs.length ≤ 310)
theorem fewB_iff {rs : List SRow} : fewB rs = true ↔ (∀ r ∈ rs, r.name.length ≤ 60) ∧ rs.length ≤ 310 := by
  unfold fewB; simp
theorem few_any (rs : List SRow) (A : Option Addr) (n c : Nat) (B : Nat) (w : World) (hr : Reads w B 5 A n (rowsCells rs)) (hn63 : n ≤ 9223372036854775807) :
    Calls Tryd.prog 25 #[.slice A n c] w fun e w' => e = .returned (.bool (fewB rs)) ∧ w = w' := by
  have HL := Lib.hid (rows_len hr)
  have HR := Lib.hid hr
  clear hr
  go_enter Tryd.func25, Tryd.ntmps25
  go_wp2_with fail
  go_loop [3] (fun i => ∃ k : Nat, k ≤ n ∧ i = .int .i64 k ∧ ∀ r ∈ rs.take k, r.name.length ≤ 60) (fun i => n - (intOf i).toNat)
  case atStart => exact ⟨0, Nat.zero_le _, rfl, by simp⟩
  case round =>
    obtain ⟨k, hk, rfl, hd⟩ := hrel
    have HD := Lib.hid hd
    clear hd
    by_cases hlt : k < n
    · have k3 : decide ((k : Int) < (n : Int)) = true := by rw [decide_eq_true_eq]; omega
      obtain ⟨ad, rfl, hab, c0, c1, c2, c3, c4⟩ := HR.out.row_at hlt
      have hkl : k < rs.length := by rw [HL.out]; exact hlt
      by_cases h60 : 60 < (rs.getD k default).name.length
      · have F : Hid (fewB rs = false) := by
          show _ = _
          cases h : fewB rs
          · rfl
          · have := (fewB_iff.1 h).1 _ (getD_mem' hkl)
            omega
        have hd : decide ((60 : Int) < ((rs.getD k default).name.length : Int)) = true := by rw [decide_eq_true_eq]; omega
        clear hkl
        generalize rs.getD k default = r at *
        go_wp2_with fail
        go_ret
        exact ⟨ret_bool F.out.symm, rfl⟩
      · have F : Hid (∀ r ∈ rs.take (k + 1), r.name.length ≤ 60) := by
          show ∀ _, _
          intro r hr
          rw [List.take_succ_eq_append_getElem hkl] at hr
          rcases List.mem_append.1 hr with hr | hr
          · exact HD.out r hr
          · obtain rfl := List.mem_singleton.1 hr
            have e : rs.getD k default = rs[k] := by simp [List.getD, hkl]
            rw [← e]; omega
        have hd : decide ((60 : Int) < ((rs.getD k default).name.length : Int)) = false := by rw [decide_eq_false_iff_not]; omega
        clear hkl
        generalize rs.getD k default = r at *
        go_wp2_with fail
        go_round
        case rel => exact ⟨k + 1, by omega, by go_num, F.out⟩
        case measure => simp [intOf]; omega
    · have k3 : decide ((k : Int) < (n : Int)) = false := by rw [decide_eq_false_iff_not]; omega
      have F : Hid (fewB rs = decide ((n : Int) ≤ 310)) := by
        show _ = _
        have hd := HD.out
        rw [List.take_of_length_le (show rs.length ≤ k by rw [HL.out]; omega)] at hd
        rw [Bool.eq_iff_iff, fewB_iff, decide_eq_true_eq]
        have := HL.out
        constructor
        · rintro ⟨_, h⟩; omega
        · intro h; exact ⟨hd, by omega⟩
      go_wp2_with fail
      go_ret
      exact ⟨ret_bool (by rw [F.out]), rfl⟩
end Go.Proofs.YtenlbjobjnpghaaDoor
