/-
  The law DecimalParse.
-/
import Derived.Test.YtklpeibmjiolhaaDoorDecW17
import Derived.Test.YtklpeibmjiolhaaDoorDecW20
namespace Go.Proofs.YtklpeibmjiolhaaDoor
open Go.RowKit
set_option linter.unusedVariables false
set_option maxRecDepth 100000 in
theorem lawParse (s : ByteArray) (sc : Int) (w : World) (hE : Env w) (hs : s.size ≤ 9223372036854775807) :
    Calls Tryd.prog 11 #[.string s, .int .i64 sc] w fun e w' => e = .returned (.bool true) ∧ Below w.heap.size w w' := by
  obtain ⟨l, rfl⟩ : ∃ l : List UInt8, s = ⟨l.toArray⟩ := ⟨s.data.toList, rfl⟩
  rw [mk_size] at hs
  by_cases h60 : 60 < l.length
  · have hi : decide ((60 : Int) < (l.length : Int)) = true := by rw [decide_eq_true_eq]; omega
    go_enter Tryd.func11, Tryd.ntmps11
    go_wp2_with fail
    refine (awake_true _ hE).mono ?_
    rintro e w1 ⟨rfl, hb1⟩
    go_wp2_with fail
    refine (awake_true _ (hE.after hb1)).mono ?_
    rintro e w2 ⟨rfl, hb2⟩
    go_wp2_with fail
    go_ret
    exact ⟨rfl, below_two hb1 hb2⟩
  · have hi : decide ((60 : Int) < (l.length : Int)) = false := by rw [decide_eq_false_iff_not]; omega
    have hl : l.length ≤ 60 := by omega
    clear h60
    go_enter Tryd.func11, Tryd.ntmps11
    go_wp2_with fail
    refine (awake_true _ hE).mono ?_
    rintro e w1 ⟨rfl, hb1⟩
    go_wp2_with fail
    refine (parse_any _ _ _ (hE.after hb1) hl).mono ?_
    rintro e w2 ⟨rfl, hb2⟩
    have hb12 := below_two hb1 hb2
    go_wp2_with fail
    refine (refParse_any _ _ _ hl).mono ?_
    rintro e w3 ⟨rfl, hb3⟩
    go_wp2_with fail
    go_ret
    exact ⟨rfl, below_two hb12 hb3⟩
end Go.Proofs.YtklpeibmjiolhaaDoor
