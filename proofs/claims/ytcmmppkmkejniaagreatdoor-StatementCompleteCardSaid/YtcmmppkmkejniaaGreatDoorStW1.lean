/-
  The small functions of the statements: named, title; the reference's Title.
-/
import Derived.Test.YtcmmppkmkejniaaGreatDoorKit
import Derived.Test.YtcmmppkmkejniaaGreatDoorStr
import Derived.Test.YtcmmppkmkejniaaGreatDoorStPlain
import Derived.Test.YtcmmppkmkejniaaGreatDoorShelf
import Derived.Test.YtcmmppkmkejniaaGreatDoorOwn
import Derived.LoopTactic
import Derived.WalkSpells
import Derived.WalkLawsBesides
import Derived.Deep.QuietTactic
import Derived.BigQuiet
import Derived.Outline
namespace Go.Proofs.YtcmmppkmkejniaaGreatDoor
open Go.RowKit
set_option linter.unusedVariables false
def rowCells (r : SRow) : List Value := [.string ⟨r.name.toArray⟩, .int .i64 r.level, .int .i64 r.from_, .int .i64 r.to_, .bool r.neg]
def rowV (r : SRow) : Value := .agg #[.string ⟨r.name.toArray⟩, .int .i64 r.level, .int .i64 r.from_, .int .i64 r.to_, .bool r.neg]
def rowsCells (rs : List SRow) : List Value := rs.flatMap rowCells
theorem prB_iff {b : UInt8} : prB b = true ↔ 32 ≤ b.toNat ∧ b.toNat ≤ 126 ∧ b.toNat ≠ 34 := by
  unfold prB
  simp only [Bool.and_eq_true, decide_eq_true_eq, Bool.not_eq_true', beq_eq_false_iff_ne, ne_eq]
  constructor
  · rintro ⟨⟨h1, h2⟩, h3⟩; exact ⟨h1, h2, fun h => h3 (UInt8.toNat_inj.1 h)⟩
  · rintro ⟨h1, h2, h3⟩; exact ⟨⟨h1, h2⟩, fun h => h3 (by rw [h]; rfl)⟩
theorem prB_no {b : UInt8} (h : prB b = false) : b.toNat < 32 ∨ 126 < b.toNat ∨ b.toNat = 34 := by
  by_cases h1 : b.toNat < 32
  · exact .inl h1
  · by_cases h2 : 126 < b.toNat
    · exact .inr (.inl h2)
    · refine .inr (.inr ?_)
      by_cases h3 : b.toNat = 34
      · exact h3
      · exfalso
        have := prB_iff.2 ⟨by omega, by omega, h3⟩
        rw [h] at this; cases this
theorem nameOk_bad {l : List UInt8} {k : Nat} (hk : k < l.length) (h : prB (l.getD k 0) = false) : nameOk l = false := by
  unfold nameOk; rw [all_not_at hk h]; rfl
theorem title_any (r : SRow) (w : World) : Calls Tryz.prog 45 #[rowV r] w fun e w' => e = .returned (.bool (isTitle r)) ∧ Below w.heap.size w w' := by
  unfold isTitle rowV
  go_enter Tryz.func45, Tryz.ntmps45
  go_wp2_with fail
  go_ret
  exact ⟨rfl, (Below.refl _ _).alloc (Nat.le_refl _) _⟩
theorem refTitle_any (r : SRow) (w : World) : Calls Tryz.prog 15 #[rowV r] w fun e w' => e = .returned (.bool (isTitle r)) ∧ Below w.heap.size w w' := by
  unfold isTitle rowV
  go_enter Tryz.func15, Tryz.ntmps15
  go_wp2_with fail
  go_ret
  exact ⟨rfl, (Below.refl _ _).alloc (Nat.le_refl _) _⟩
set_option maxHeartbeats 1000000 in
theorem named_any (l : List UInt8) (w : World) (hl : l.length ≤ 140737488351232) :
    Calls Tryz.prog 44 #[.string ⟨l.toArray⟩] w fun e w' => e = .returned (.bool (nameOk l)) ∧ Below w.heap.size w w' := by
  go_enter Tryz.func44, Tryz.ntmps44
  go_wp2_with fail
  go_loop [6] (fun i => ∃ k : Nat, k ≤ l.length ∧ i = .int .i64 k ∧ (l.take k).all prB = true) (fun i => l.length - (intOf i).toNat)
  case atStart => exact ⟨0, Nat.zero_le _, rfl, rfl⟩
  case round =>
    obtain ⟨k, hk, rfl, hd⟩ := hrel
    have HD := Lib.hid hd
    clear hd
    by_cases hlt : k < l.length
    · have hsz : k < (⟨l.toArray⟩ : ByteArray).size := by rw [mk_size]; exact hlt
      have hg := mk_getD l k hsz
      cases hc : prB (l.getD k 0)
      · have F := Lib.hid (nameOk_bad hlt hc)
        have hno := prB_no hc
        rw [← hg] at hno
        clear hg hc
        rcases hno with g1 | g1 | g1
        · have g2 : ((⟨l.toArray⟩ : ByteArray)[k].toNat : Int) < 32 := by omega
          clear g1
          go_wp2_with fail
          go_ret
          exact ⟨ret_bool F.out.symm, Below.refl _ _⟩
        · have g2 : (126 : Int) < ((⟨l.toArray⟩ : ByteArray)[k].toNat : Int) := by omega
          have g3 : decide (((⟨l.toArray⟩ : ByteArray)[k].toNat : Int) < 32) = false := by rw [decide_eq_false_iff_not]; omega
          clear g1
          go_wp2_with fail
          go_ret
          exact ⟨ret_bool F.out.symm, Below.refl _ _⟩
        · have g2 : (((⟨l.toArray⟩ : ByteArray)[k].toNat : Int) == 34) = true := by rw [beq_iff_eq]; omega
          have g3 : decide (((⟨l.toArray⟩ : ByteArray)[k].toNat : Int) < 32) = false := by rw [decide_eq_false_iff_not]; omega
          have g4 : decide ((126 : Int) < ((⟨l.toArray⟩ : ByteArray)[k].toNat : Int)) = false := by rw [decide_eq_false_iff_not]; omega
          clear g1
          go_wp2_with fail
          go_ret
          exact ⟨ret_bool F.out.symm, Below.refl _ _⟩
      · have h12 := prB_iff.1 hc
        rw [← hg] at h12
        have g1 : decide (((⟨l.toArray⟩ : ByteArray)[k].toNat : Int) < 32) = false := by rw [decide_eq_false_iff_not]; omega
        have g2 : decide ((126 : Int) < ((⟨l.toArray⟩ : ByteArray)[k].toNat : Int)) = false := by rw [decide_eq_false_iff_not]; omega
        have g3 : (((⟨l.toArray⟩ : ByteArray)[k].toNat : Int) == 34) = false := by rw [beq_eq_false_iff_ne]; omega
        have F := Lib.hid (take_all_succ hlt HD.out hc)
        clear hg hc h12
        go_wp2_with fail
        go_round
        case rel => exact ⟨k + 1, by omega, by go_num, F.out⟩
        case measure => simp [intOf]; omega
    · have hT : l.all prB = true := by have := HD.out; rwa [List.take_of_length_le (by omega)] at this
      have hN : nameOk l = ((decide (1 ≤ l.length) && decide (l.length ≤ 16)) && (!(l.getD 0 0 == 32) && !(l.getD (l.length - 1) 0 == 32))) := by unfold nameOk; rw [hT]; rfl
      by_cases h1 : 1 ≤ l.length
      · by_cases h16 : l.length ≤ 16
        · have hE : nameOk l = (Lib.trimB l 32 == l) := by rw [hN, trimB_id, ends_getD h1, decide_eq_true h1, decide_eq_true h16]; rfl
          have HE := Lib.hid hE
          have hd1 : decide ((1 : Int) ≤ (l.length : Int)) = true := by rw [decide_eq_true_eq]; omega
          have hd2 : decide ((l.length : Int) ≤ 16) = true := by rw [decide_eq_true_eq]; omega
          clear hE hN hT
          go_wp2_with fail
          refine (Tryz.strings_Trim_one ⟨l.toArray⟩ 32 (by decide) _ (by rw [mk_size]; omega)).mono ?_
          rintro e w' ⟨rfl, hw⟩
          have hb : Below w.heap.size w w' := by
            rcases hw with rfl | rfl
            · exact Below.refl _ _
            · exact below_drewN (Below.refl _ _) 1
          have HB := Lib.hid hb
          rw [show (⟨l.toArray⟩ : ByteArray).data.toList = l from by simp]
          clear hw hb
          go_wp2_with fail
          go_ret
          exact ⟨ret_bool HE.out.symm, HB.out⟩
        · have F : Hid (nameOk l = false) := by show _ = _; rw [hN, decide_eq_false h16]; simp
          have hd1 : decide ((1 : Int) ≤ (l.length : Int)) = true := by rw [decide_eq_true_eq]; omega
          have hd2 : decide ((l.length : Int) ≤ 16) = false := by rw [decide_eq_false_iff_not]; omega
          clear hN hT
          go_wp2_with fail
          go_ret
          exact ⟨ret_bool F.out.symm, Below.refl _ _⟩
      · have F : Hid (nameOk l = false) := by show _ = _; rw [hN, decide_eq_false h1]; rfl
        have hd1 : decide ((1 : Int) ≤ (l.length : Int)) = false := by rw [decide_eq_false_iff_not]; omega
        clear hN hT
        go_wp2_with fail
        go_ret
        exact ⟨ret_bool F.out.symm, Below.refl _ _⟩
end Go.Proofs.YtcmmppkmkejniaaGreatDoor
