/-
  The small functions of the tokens: letter, digit, the class of names, run.
-/
import Derived.Test.YtblpgdfjmkefkaaDoorKit
import Derived.Test.YtblpgdfjmkefkaaDoorTokPlain
import Derived.LoopTactic
import Derived.WalkSpells
import Derived.WalkLawsBesides
import Derived.Deep.QuietTactic
import Derived.BigQuiet
import Derived.Outline
namespace Go.Proofs.YtblpgdfjmkefkaaDoor
open Go.RowKit
set_option linter.unusedVariables false
theorem ret_bool {a b : Bool} (h : a = b) : Ending.returned (.bool a) = .returned (.bool b) := by rw [h]
theorem ret_int {a b : Int} (h : a = b) : Ending.returned (.int .i64 a) = .returned (.int .i64 b) := by rw [h]
def lowI (x : Int) : Bool := decide (97 ≤ x) && decide (x ≤ 122)
def digI (x : Int) : Bool := decide (48 ≤ x) && decide (x ≤ 57)
def namI (x : Int) : Bool := lowI x || digI x || decide (x = 95)
theorem lowI_mk (l : List UInt8) (k : Nat) (h : k < (⟨l.toArray⟩ : ByteArray).size) : lowI ((⟨l.toArray⟩ : ByteArray)[k]'h).toNat = isLet (l.getD k 0) := by
  rw [mk_getD]; unfold lowI isLet
  rw [Bool.eq_iff_iff]; simp; omega
theorem digI_mk (l : List UInt8) (k : Nat) (h : k < (⟨l.toArray⟩ : ByteArray).size) : digI ((⟨l.toArray⟩ : ByteArray)[k]'h).toNat = isDig (l.getD k 0) := by
  rw [mk_getD]; unfold digI isDig
  rw [Bool.eq_iff_iff]; simp; omega
theorem digI_of (b : UInt8) : digI b.toNat = isDig b := by
  unfold digI isDig
  rw [Bool.eq_iff_iff]; simp; omega
theorem lowI_of (b : UInt8) : lowI b.toNat = isLet b := by
  unfold lowI isLet
  rw [Bool.eq_iff_iff]; simp; omega
theorem namI_of (b : UInt8) : namI b.toNat = isNam b := by
  unfold namI isNam
  rw [lowI_of, digI_of]
  congr 1
  rw [Bool.eq_iff_iff]
  simp only [decide_eq_true_eq, beq_iff_eq]
  constructor
  · intro h; exact UInt8.toNat_inj.1 (by rw [show (95 : UInt8).toNat = 95 from rfl]; omega)
  · rintro rfl; rfl
theorem lowI_iff {x : Int} : lowI x = true ↔ 97 ≤ x ∧ x ≤ 122 := by simp [lowI]
theorem digI_iff {x : Int} : digI x = true ↔ 48 ≤ x ∧ x ≤ 57 := by simp [digI]
theorem lowI_no {x : Int} (h : lowI x = false) : x < 97 ∨ 122 < x := by simp [lowI] at h; omega
theorem digI_no {x : Int} (h : digI x = false) : x < 48 ∨ 57 < x := by simp [digI] at h; omega
theorem letter_any (x : Int) (w : World) : Calls Tryd.prog 28 #[.int .u8 x] w fun e w' => e = .returned (.bool (lowI x)) ∧ w = w' := by
  cases h : lowI x
  · rcases lowI_no h with g | g
    · clear h
      go_enter Tryd.func28, Tryd.ntmps28
      go_wp2_with fail
      go_ret
      exact ⟨rfl, rfl⟩
    · have g3 : decide (x < 97) = false := by rw [decide_eq_false_iff_not]; omega
      clear h
      go_enter Tryd.func28, Tryd.ntmps28
      go_wp2_with fail
      go_ret
      exact ⟨ret_bool (by rw [decide_eq_false_iff_not]; omega), rfl⟩
  · obtain ⟨g1, g2⟩ := lowI_iff.1 h
    clear h
    go_enter Tryd.func28, Tryd.ntmps28
    go_wp2_with fail
    go_ret
    exact ⟨rfl, rfl⟩
theorem digit_any (x : Int) (w : World) : Calls Tryd.prog 25 #[.int .u8 x] w fun e w' => e = .returned (.bool (digI x)) ∧ w = w' := by
  cases h : digI x
  · rcases digI_no h with g | g
    · clear h
      go_enter Tryd.func25, Tryd.ntmps25
      go_wp2_with fail
      go_ret
      exact ⟨rfl, rfl⟩
    · have g3 : decide (x < 48) = false := by rw [decide_eq_false_iff_not]; omega
      clear h
      go_enter Tryd.func25, Tryd.ntmps25
      go_wp2_with fail
      go_ret
      exact ⟨ret_bool (by rw [decide_eq_false_iff_not]; omega), rfl⟩
  · obtain ⟨g1, g2⟩ := digI_iff.1 h
    clear h
    go_enter Tryd.func25, Tryd.ntmps25
    go_wp2_with fail
    go_ret
    exact ⟨rfl, rfl⟩
theorem refLetter_any (x : Int) (w : World) : Calls Tryd.prog 33 #[.int .u8 x] w fun e w' => e = .returned (.bool (lowI x)) ∧ w = w' := by
  cases h : lowI x
  · rcases lowI_no h with g | g
    · clear h
      go_enter Tryd.func33, Tryd.ntmps33
      go_wp2_with fail
      go_ret
      exact ⟨rfl, rfl⟩
    · have g3 : decide (x < 97) = false := by rw [decide_eq_false_iff_not]; omega
      clear h
      go_enter Tryd.func33, Tryd.ntmps33
      go_wp2_with fail
      go_ret
      exact ⟨ret_bool (by rw [decide_eq_false_iff_not]; omega), rfl⟩
  · obtain ⟨g1, g2⟩ := lowI_iff.1 h
    clear h
    go_enter Tryd.func33, Tryd.ntmps33
    go_wp2_with fail
    go_ret
    exact ⟨rfl, rfl⟩
theorem refDigit_any (x : Int) (w : World) : Calls Tryd.prog 26 #[.int .u8 x] w fun e w' => e = .returned (.bool (digI x)) ∧ w = w' := by
  cases h : digI x
  · rcases digI_no h with g | g
    · clear h
      go_enter Tryd.func26, Tryd.ntmps26
      go_wp2_with fail
      go_ret
      exact ⟨rfl, rfl⟩
    · have g3 : decide (x < 48) = false := by rw [decide_eq_false_iff_not]; omega
      clear h
      go_enter Tryd.func26, Tryd.ntmps26
      go_wp2_with fail
      go_ret
      exact ⟨ret_bool (by rw [decide_eq_false_iff_not]; omega), rfl⟩
  · obtain ⟨g1, g2⟩ := digI_iff.1 h
    clear h
    go_enter Tryd.func26, Tryd.ntmps26
    go_wp2_with fail
    go_ret
    exact ⟨rfl, rfl⟩
theorem nam_any (x : Int) (w : World) : Calls Tryd.prog 29 #[.int .u8 x] w fun e w' => e = .returned (.bool (namI x)) ∧ w = w' := by
  unfold namI
  cases h1 : lowI x
  · cases h2 : digI x
    · go_enter Tryd.func29, Tryd.ntmps29
      go_wp2_with fail
      refine (letter_any _ _).mono ?_
      rintro e wx ⟨rfl, rfl⟩
      rw [h1]
      go_wp2_with fail
      refine (digit_any _ _).mono ?_
      rintro e wx ⟨rfl, rfl⟩
      rw [h2]
      go_wp2_with fail
      go_ret
      exact ⟨ret_bool (by rw [Bool.eq_iff_iff]; simp), rfl⟩
    · go_enter Tryd.func29, Tryd.ntmps29
      go_wp2_with fail
      refine (letter_any _ _).mono ?_
      rintro e wx ⟨rfl, rfl⟩
      rw [h1]
      go_wp2_with fail
      refine (digit_any _ _).mono ?_
      rintro e wx ⟨rfl, rfl⟩
      rw [h2]
      go_wp2_with fail
      go_ret
      exact ⟨rfl, rfl⟩
  · go_enter Tryd.func29, Tryd.ntmps29
    go_wp2_with fail
    refine (letter_any _ _).mono ?_
    rintro e wx ⟨rfl, rfl⟩
    rw [h1]
    go_wp2_with fail
    go_ret
    exact ⟨rfl, rfl⟩
/-- how many bytes from the beginning on the function value answers yes to -/
theorem run_any (Fu : FuncId) (p : UInt8 → Bool) (hcf : ∀ (args : Array Value) (w : World), (callFunc Fu args).run Tryd.prog w = .ok (.enter Fu args) w) (hF : ∀ (b : UInt8) (w : World), Calls Tryd.prog Fu #[.int .u8 b.toNat] w fun e w' => e = .returned (.bool (p b)) ∧ w = w') (l : List UInt8) (w : World) (hl : l.length ≤ 9223372036854775806) :
    Calls Tryd.prog 24 #[.string ⟨l.toArray⟩, .func (.func Fu) #[] #[]] w fun e w' => e = .returned (.int .i64 (runL p l)) ∧ w = w' := by
  have HF := Lib.hid hF
  clear hF
  go_enter Tryd.func24, Tryd.ntmps24
  go_wp2_with fail
  go_loop [8] (fun i => ∃ k : Nat, k ≤ l.length ∧ i = .int .i64 k ∧ (l.take k).all p = true) (fun i => l.length - (intOf i).toNat)
  case atStart => exact ⟨0, Nat.zero_le _, rfl, rfl⟩
  case round =>
    obtain ⟨k, hk, rfl, hd⟩ := hrel
    have HD := Lib.hid hd
    clear hd
    by_cases hlt : k < l.length
    · have hsz : k < (⟨l.toArray⟩ : ByteArray).size := by rw [mk_size]; exact hlt
      have hg := mk_getD l k hsz
      have HG := Lib.hid hg
      clear hg
      cases hc : p (l.getD k 0)
      · have F := Lib.hid (runL_eq (p := p) (l := l) (k := k) (by omega) HD.out (fun _ => hc))
        have HC := Lib.hid hc
        clear hc
        go_wp2_with fail
        refine (HF.out _ _).mono ?_
        rintro e wx ⟨rfl, rfl⟩
        rw [HG.out, HC.out]
        go_wp2_with fail
        go_ret
        exact ⟨ret_int (by rw [F.out]), rfl⟩
      · have F := Lib.hid (take_all_succ hlt HD.out hc)
        have HC := Lib.hid hc
        clear hc
        go_wp2_with fail
        refine (HF.out _ _).mono ?_
        rintro e wx ⟨rfl, rfl⟩
        rw [HG.out, HC.out]
        go_wp2_with fail
        go_round
        case rel => exact ⟨k + 1, by omega, by go_num, F.out⟩
        case measure => simp [intOf]; omega
    · have hkn : k = l.length := by omega
      have F := Lib.hid (runL_full.2 (by have := HD.out; rwa [List.take_of_length_le (by omega)] at this))
      clear hkn
      go_wp2_with fail
      go_ret
      exact ⟨ret_int (by rw [F.out]), rfl⟩
theorem enter_digit (args : Array Value) (w : World) : (callFunc 25 args).run Tryd.prog w = .ok (.enter 25 args) w := by
  simp [go_sem]
theorem enter_nam (args : Array Value) (w : World) : (callFunc 29 args).run Tryd.prog w = .ok (.enter 29 args) w := by
  simp [go_sem]
end Go.Proofs.YtblpgdfjmkefkaaDoor
