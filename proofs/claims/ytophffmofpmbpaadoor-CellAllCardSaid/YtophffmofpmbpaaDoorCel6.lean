/-
  number of the reference, Text of both.
-/
import Derived.Test.YtophffmofpmbpaaDoorCel5
namespace Go.Proofs.YtophffmofpmbpaaDoor
open Go.RowKit
set_option linter.unusedVariables false
theorem dig_at : ∀ r : Nat, r < 10 → (⟨#[48, 49, 50, 51, 52, 53, 54, 55, 56, 57]⟩ : ByteArray).extract r (r + 1) = ⟨[UInt8.ofNat (48 + r)].toArray⟩ := by
  intro r hr
  match r, hr with
  | 0, _ => rfl
  | 1, _ => rfl
  | 2, _ => rfl
  | 3, _ => rfl
  | 4, _ => rfl
  | 5, _ => rfl
  | 6, _ => rfl
  | 7, _ => rfl
  | 8, _ => rfl
  | 9, _ => rfl
/-- what is still to be written ahead of some digits -/
def dgo (m : Nat) (ys : List UInt8) : List UInt8 := if m = 0 ∧ ys ≠ [] then ys else Lib.decDigits m ++ ys
theorem dgo_step {m : Nat} {ys : List UInt8} (h : ¬ (m = 0 ∧ ys ≠ [])) : dgo m ys = dgo (m / 10) (UInt8.ofNat (48 + m % 10) :: ys) := by
  unfold dgo
  rw [if_neg h]
  by_cases h10 : m < 10
  · rw [if_pos ⟨by omega, by simp⟩, Lib.decDigits_one h10, show m % 10 = m by omega]; rfl
  · rw [if_neg (by omega), dec_step (by omega)]; simp
set_option maxRecDepth 100000 in
set_option maxHeartbeats 4000000 in
theorem refNumber_any (x : Int) (N : Nat) (w : World) (hx : x = N) (hN : N ≤ 1000) : Calls Tryd.prog 33 #[.int .i64 x] w fun e w' => e = .returned (.string ⟨(Lib.decDigits N).toArray⟩) ∧ w = w' := by
  subst hx
  go_enter Tryd.func33, Tryd.ntmps33
  go_wp2_with fail
  go_loop [0, 4] (fun a s => ∃ (m : Nat) (ys : List UInt8), m ≤ 1000 ∧ ys.length + m ≤ 1100 ∧ a = .int .i64 m ∧ s = .string ⟨ys.toArray⟩ ∧ Lib.decDigits N = dgo m ys) (fun a s => (intOf a).toNat + (if strLen s = 0 then 1 else 0))
  case atStart => exact ⟨N, [], hN, by simp; omega, rfl, rfl, by unfold dgo; simp⟩
  case round =>
    obtain ⟨m, ys, hm, hl, rfl, rfl, hd⟩ := hrel
    have HD := Lib.hid hd
    clear hd
    obtain ⟨r, hr⟩ : ∃ r, m % 10 = r := ⟨_, rfl⟩
    obtain ⟨q, hq⟩ : ∃ q, m / 10 = q := ⟨_, rfl⟩
    have hr10 : r < 10 := by omega
    have hqm : q ≤ m := by omega
    have hq0 : 0 < m → q < m := by omega
    have HQ0 := Lib.hid hq0
    have m1 : (m : Int) % 10 = (r : Int) := by omega
    have m2 : (m : Int) / 10 = (q : Int) := by omega
    have hx := dig_at r hr10
    have b0 : (0 : Int) ≤ (m : Int) := by omega
    have b1 : (r : Int) ≤ 9 := by omega
    have b2 : (0 : Int) ≤ (r : Int) := by omega
    by_cases h0 : m = 0 ∧ ys ≠ []
    · obtain ⟨rfl, hne⟩ := h0
      have F : Hid (Lib.decDigits N = ys) := by show _ = _; rw [HD.out]; unfold dgo; rw [if_pos ⟨rfl, hne⟩]
      have e1 : ys.isEmpty = false := by cases ys <;> simp_all
      clear m1 m2 hx hr hq hq0
      go_wp2_with fail
      go_ret
      exact ⟨ret_str F.out.symm, rfl⟩
    · have F := dgo_step h0
      rw [hr, hq] at F
      have FD : Hid (Lib.decDigits N = dgo q (UInt8.ofNat (48 + r) :: ys)) := by show _ = _; rw [HD.out, F]
      have HX : Hid (ByteArray.mk [UInt8.ofNat (48 + r)].toArray ++ ⟨ys.toArray⟩ = ⟨(UInt8.ofNat (48 + r) :: ys).toArray⟩) := cat_mk [UInt8.ofNat (48 + r)] ys
      clear F hr hq hq0
      generalize UInt8.ofNat (48 + r) = dd at *
      by_cases hm0 : m = 0
      · have hys : ys = [] := by
          cases hys : ys
          · rfl
          · exact absurd ⟨hm0, by rw [hys]; simp⟩ h0
        subst hys
        subst hm0
        obtain rfl : q = 0 := by omega
        obtain rfl : r = 0 := by simp at m1; omega
        have hx0 : ByteArray.extract ⟨#[48, 49, 50, 51, 52, 53, 54, 55, 56, 57]⟩ 0 1 = ⟨#[dd]⟩ := hx
        have HX0 : ByteArray.mk #[dd] ++ ByteArray.mk #[] = ByteArray.mk #[dd] := HX.out
        clear h0
        go_wp2_with fail
        go_round
        case rel => exact ⟨0, [dd], by omega, by simp, by first | rfl | go_num, by first | rfl | (rw [hx0]; exact congrArg Value.string HX0) | (congr 1; rw [hx0]; exact HX0), FD.out⟩
        case measure => simp [intOf, strLen, ByteArray.size]
      · have d1 : decide ((0 : Int) < (m : Int)) = true := by rw [decide_eq_true_eq]; omega
        have n1 : ¬9223372036854775807 < 1 + ys.length := by omega
        have n2 : ¬9223372036854775807 < ys.length + 1 := by omega
        clear h0
        go_wp2_with fail
        go_round
        case rel => exact ⟨q, dd :: ys, by omega, by have := HQ0.out (by omega); simp; omega, by first | rfl | go_num, by first | rfl | (congr 1), FD.out⟩
        case measure => have := HQ0.out (by omega); simp [intOf, strLen, ByteArray.size]; omega
end Go.Proofs.YtophffmofpmbpaaDoor
