/-
  The reference's next, joined.
-/
import Derived.Test.YtblpgdfjmkefkaaDoorTokW7
namespace Go.Proofs.YtblpgdfjmkefkaaDoor
open Go.RowKit
set_option linter.unusedVariables false
set_option maxRecDepth 100000 in
set_option maxHeartbeats 2000000 in
theorem refNext_sgl2 (l : List UInt8) (a : Nat) (w : World) (ha : a < l.length) (hl : l.length ≤ 9000) (V : Value) (HV : Hid (tokV (refTok l a) = V)) (hsz : a < (⟨l.toArray⟩ : ByteArray).size) (q1 : lowI ((⟨l.toArray⟩ : ByteArray)[a]'hsz).toNat = false) (q2 : digI ((⟨l.toArray⟩ : ByteArray)[a]'hsz).toNat = false) (H3 : Hid (inL dbls ((l.drop a).take 2) = false)) (h2 : ¬ a + 2 ≤ l.length) (b : Bool) (H4 : Hid (sgls.contains (l.getD a 0) = b)) (HN1 : Hid (nextL (l.drop a) = if sgls.contains (l.getD a 0) then (3, 1) else (0, 0))) :
    Calls Tryd.prog 22 #[.string ⟨l.toArray⟩, .int .i64 a] w fun e w' => e = .returned V ∧ Below w.heap.size w w' := by
  have hd : decide ((a : Int) + 2 ≤ (l.length : Int)) = false := by rw [decide_eq_false_iff_not]; omega
  have hlt : l.length < a + 2 := by omega
  clear h2
  go_enter Tryd.func22, Tryd.ntmps22
  go_wp2_with fail
  refine (refLetter_any _ _).mono ?_
  rintro e wx ⟨rfl, rfl⟩
  rw [q1]
  go_wp2_with fail
  refine (refDigit_any _ _).mono ?_
  rintro e wx ⟨rfl, rfl⟩
  rw [q2]
  go_wp2_with fail
  rw [ex_mk, List.drop_take, show a + 1 - a = 1 from by omega]
  have hin1 := refInS ((l.drop a).take 1) (w.alloc (Obj.cells #[Value.int IntKind.i64 0, Value.string { data := #[] }, Value.int IntKind.i64 0] 40))
  rw [World.size_alloc] at hin1
  refine hin1.mono ?_
  rintro e wx ⟨rfl, rfl⟩
  clear hin1
  rw [inS_one ha, H4.out]
  cases b
  · go_wp2_with fail
    refine bodyPost_ret (v := .agg #[.int .i64 0, .string ⟨#[]⟩, .int .i64 0]) (by simp [results, Tryd.results22, go_sem]) rfl ⟨ret_v (Eq.trans (by unfold refTok; rw [HN1.out, H4.out]; rfl) HV.out), ((Below.refl _ _).alloc (Nat.le_refl _) _).alloc (by simp) _⟩
  · go_wp2_with fail
    refine bodyPost_ret (v := .agg #[.int .i64 3, .string ((⟨l.toArray⟩ : ByteArray).extract a (a + 1)), .int .i64 a]) (by simp [results, Tryd.results22, go_sem]) rfl ⟨ret_v (Eq.trans (by rw [ex_mk]; exact tok_of (l := l) (a := a) (q := a + 1) rfl (by omega) (by rw [HN1.out, H4.out, show a + 1 - a = 1 from by omega]; rfl)) HV.out), ((Below.refl _ _).alloc (Nat.le_refl _) _).alloc (by simp) _⟩
theorem refNext_any (l : List UInt8) (a : Nat) (w : World) (ha : a < l.length) (hl : l.length ≤ 9000) :
    Calls Tryd.prog 22 #[.string ⟨l.toArray⟩, .int .i64 a] w fun e w' => e = .returned (tokV (refTok l a)) ∧ Below w.heap.size w w' := by
  have hsz : a < (⟨l.toArray⟩ : ByteArray).size := by rw [mk_size]; exact ha
  have q1 := lowI_mk l a hsz
  have q2 := digI_mk l a hsz
  have h0 : 0 < (l.drop a).length := by rw [List.length_drop]; omega
  have hne := nextL_eq h0
  rw [drop_getD0, Nat.add_zero] at hne
  have HV : Hid (tokV (refTok l a) = tokV (refTok l a)) := rfl
  cases h1 : isLet (l.getD a 0)
  · rw [h1] at q1
    cases h2 : isDig (l.getD a 0)
    · rw [h2] at q2
      rw [h1, h2] at hne
      simp only [Bool.false_eq_true, if_false] at hne
      cases h3 : inL dbls ((l.drop a).take 2)
      · have h3' : dbls.contains ((l.drop a).take 2) = false := h3
        have HN1 : Hid (nextL (l.drop a) = if sgls.contains (l.getD a 0) then (3, 1) else (0, 0)) := by
          show _ = _
          rw [hne, h3']; rfl
        by_cases h5 : a + 2 ≤ l.length
        · exact refNext_sgl l a w ha hl _ HV hsz q1 q2 h3 h5 _ (Lib.hid rfl) HN1
        · exact refNext_sgl2 l a w ha hl _ HV hsz q1 q2 h3 h5 _ (Lib.hid rfl) HN1
      · have h5 : a + 2 ≤ l.length := by
          rcases Nat.lt_or_ge (a + 1) l.length with h | h
          · omega
          · exfalso
            have : (l.drop a).length = 1 := by rw [List.length_drop]; omega
            match hd : l.drop a, this with
            | [c], _ => rw [hd] at h3; simp [inL, dbls] at h3
        have h3' : dbls.contains ((l.drop a).take 2) = true := h3
        exact refNext_dbl l a w ha hl _ HV hsz q1 q2 h3 h5 (by show _ = _; rw [hne, h3']; rfl)
    · rw [h2] at q2
      rw [h1, h2] at hne
      exact refNext_dig l a w ha hl _ HV hsz q1 q2 hne
  · rw [h1] at q1 hne
    exact refNext_name l a w ha hl _ HV hsz q1 hne
end Go.Proofs.YtblpgdfjmkefkaaDoor
