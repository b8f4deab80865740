/-
  The laws StatementParse and StatementInverse.
-/
import Derived.Test.YtfiindecponeoaaDoorStW14a
import Derived.Test.YtfiindecponeoaaDoorStW14b
import Derived.Test.YtfiindecponeoaaDoorStW14c
import Derived.Test.YtfiindecponeoaaDoorStW14d
import Derived.Test.YtfiindecponeoaaDoorStW16
import Derived.Test.YtfiindecponeoaaDoorStW18
namespace Go.Proofs.YtfiindecponeoaaDoor
open Go.RowKit
set_option linter.unusedVariables false
theorem read_any (l : List UInt8) (w : World) (hE : Env w) (hEE : EnvE w) (hl : l.length ≤ 2000) :
    Calls Tryd.prog 26 #[.string ⟨l.toArray⟩] w (ReadSays l w) := by
  cases h : (Lib.cut (Lib.cut l [32, 34]).2.1 [34]).2.2
  · exact read_no1 l w hE hl h
  · by_cases h1 : ∃ v, Lib.atoiAll (Lib.cut l [32, 34]).1 = .ok v
    · obtain ⟨v, hv⟩ := h1
      by_cases hR : (Lib.cut (Lib.cut l [32, 34]).2.1 [34]).2.1 = []
      · exact read_title l w hE hEE hl h v hv hR
      · by_cases h2 : ∃ fv, Lib.atoiAll (Lib.cut (Lib.trimPrefix (Lib.trimSuffix (Lib.cut (Lib.cut l [32, 34]).2.1 [34]).2.1 [32, 45]) [32]) [46, 46]).1 = .ok fv
        · obtain ⟨fv, hf⟩ := h2
          by_cases h3 : ∃ tv, Lib.atoiAll (Lib.cut (Lib.trimPrefix (Lib.trimSuffix (Lib.cut (Lib.cut l [32, 34]).2.1 [34]).2.1 [32, 45]) [32]) [46, 46]).2.1 = .ok tv
          · obtain ⟨tv, ht⟩ := h3
            cases hq : (lineL ⟨(Lib.cut (Lib.cut l [32, 34]).2.1 [34]).1, v, fv, tv, Lib.hasSuffix (Lib.cut (Lib.cut l [32, 34]).2.1 [34]).2.1 [32, 45]⟩ == l)
            · exact read_rowf l w hE hEE hl h v hv hR fv tv hf ht hq
            · exact read_rowt l w hE hEE hl h v hv hR fv tv hf ht hq
          · exact read_ft l w hE hEE hl h v hv hR fv hf (fun x hx => h3 ⟨x, hx⟩)
        · exact read_ff l w hE hEE hl h v hv hR (fun x hx => h2 ⟨x, hx⟩)
    · exact read_no2 l w hE hEE hl h (fun x hx => h1 ⟨x, hx⟩)
theorem parse_any (s : List UInt8) (w : World) (hE : Env w) (hEE : EnvE w) (hs2 : s.length ≤ 30000) (hLN : LN s) :
    Calls Tryd.prog 16 #[.string ⟨s.toArray⟩] w (ParseSays s w) := parse_of read_any s w hE hEE hs2 hLN
theorem pz_len {acc : List SRow} {s : List UInt8} {o : List SRow} {i e : Int} (h : PzR acc s o i e) (hn : acc.length ≤ 300) : o.length ≤ 300 := by
  induction h with
  | done acc => exact hn
  | full => simp
  | bad => simp
  | step h1 _ _ _ ih => exact ih (by simp; omega)
set_option maxRecDepth 100000 in
set_option maxHeartbeats 4000000 in
theorem lawParse (s0 : ByteArray) (w : World) (hE : Env w) (hEE : EnvE w) (hs : s0.size ≤ 9223372036854775807) :
    Calls Tryd.prog 6 #[.string s0] w fun e w' => e = .returned (.bool true) ∧ Below w.heap.size w w' := by
  obtain ⟨s, rfl⟩ : ∃ l : List UInt8, s0 = ⟨l.toArray⟩ := ⟨s0.data.toList, rfl⟩
  rw [mk_size] at hs
  by_cases h2 : 2000 < s.length
  · have hi : decide ((2000 : Int) < (s.length : Int)) = true := by rw [decide_eq_true_eq]; omega
    go_enter Tryd.func6, Tryd.ntmps6
    go_wp2_with fail
    refine (awake_true _ hE).mono ?_
    rintro e w1 ⟨rfl, hb1⟩
    go_wp2_with fail
    refine (awake_true _ (hE.after hb1)).mono ?_
    rintro e w2 ⟨rfl, hb2⟩
    go_wp2_with fail
    go_ret
    exact ⟨rfl, below_two hb1 hb2⟩
  · have hi : decide ((2000 : Int) < (s.length : Int)) = false := by rw [decide_eq_false_iff_not]; omega
    have HES := Lib.hid hE.size
    go_enter Tryd.func6, Tryd.ntmps6
    go_wp2_with fail
    refine (awake_true _ hE).mono ?_
    rintro e w1 ⟨rfl, hb1⟩
    go_wp2_with fail
    refine (parse_any s w1 (hE.after hb1) (hEE.below hb1 HES.out) (by omega) (LN.of_short (by omega))).mono ?_
    rintro e w2 ⟨v1, o1, i1, e1, rfl, hp1, hown1, hb2⟩
    have hb12 := below_two hb1 hb2
    obtain ⟨A1, c1, rfl⟩ := own_slice hown1
    have HR1 := Lib.hid (Reads.of_own hown1)
    have HP1 := Lib.hid hp1
    clear hown1 hp1
    go_wp2_with fail
    refine (refParse_any s w2 (by omega)).mono ?_
    rintro e w3 ⟨v2, o2, i2, e2, rfl, hp2, hown2, hb3⟩
    obtain ⟨rfl, rfl, rfl⟩ := pz_det HP1.out hp2
    have hb13 := below_two hb12 hb3
    obtain ⟨A2, c2, rfl⟩ := own_slice hown2
    have HR2 := Lib.hid (Reads.of_own hown2)
    have HR13 := Lib.hid (HR1.out.below hb3)
    have hln : o1.length ≤ 9223372036854775807 := by
      have := pz_len HP1.out (by simp)
      omega
    have hsz := hb3.size
    clear hown2 hp2 HP1
    have q1 : (i1 == i1) = true := by simp
    have q2 : (e1 == e1) = true := by simp
    go_wp2_with fail
    refine (same_any o1 A1 A2 o1.length c1 c2 _ _ w3 HR13.out HR2.out hsz (Nat.le_refl _) hln).mono ?_
    rintro e w4 ⟨rfl, hb4⟩
    go_wp2_with fail
    go_ret
    exact ⟨rfl, below_two hb13 hb4⟩
end Go.Proofs.YtfiindecponeoaaDoor
