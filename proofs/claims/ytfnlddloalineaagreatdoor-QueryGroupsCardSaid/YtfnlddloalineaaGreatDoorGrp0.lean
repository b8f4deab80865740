/-
  SameInts at two lists of the same length.
-/
import Derived.Test.YtfnlddloalineaaGreatDoorGrpP
namespace Go.Proofs.YtfnlddloalineaaGreatDoor
open Go.RowKit
set_option linter.unusedVariables false
set_option linter.unusedSimpArgs false
set_option maxRecDepth 100000
theorem list_ext0 {l l' : List Int} (hl : l.length = l'.length) (h : ∀ j, j < l.length → l.getD j 0 = l'.getD j 0) : l = l' := by
  apply List.ext_getElem hl
  intro j h1 h2
  have h3 := h j h1
  simpa [List.getD, h1, h2] using h3
set_option maxHeartbeats 4000000 in
theorem sameI_any (l l' : List Int) (A A' : Option Addr) (n c c' B : Nat) (w : World) (h : RdBy w B A l) (h' : RdBy w B A' l') (hn : n = l.length) (hn' : n = l'.length) (hb : n ≤ 9223372036854775807) :
    Calls Tryz.prog 30 #[.slice A n c, .slice A' n c'] w fun e w' => e = .returned (.bool (decide (l = l'))) ∧ ∃ k, w' = w.drewN k := by
  have HA := Lib.hid h
  have HA' := Lib.hid h'
  have HN := Lib.hid hn
  have HN' := Lib.hid hn'
  have q1 : ((n : Int) != (n : Int)) = false := by simp
  clear h h' hn hn'
  generalize hres : decide (l = l') = res
  have HRES := Lib.hid hres
  clear hres
  go_enter Tryz.func30, Tryz.ntmps30
  go_wp2_with fail
  go_loopw [5] (fun i wr => ∃ k m : Nat, k ≤ n ∧ i = .int .i64 k ∧ wr = w.drewN m ∧ ∀ j, j < k → l.getD j 0 = l'.getD j 0) (fun i _ => n - (intOf i).toNat)
  case atStart => exact ⟨0, 0, by omega, rfl, rfl, fun j h => absurd h (Nat.not_lt_zero _)⟩
  case round =>
    obtain ⟨k, m, hk, rfl, rfl, hall⟩ := hrel
    have HALL := Lib.hid hall
    clear hall
    by_cases hlt : k < n
    · have k3 : decide ((k : Int) < (n : Int)) = true := by rw [decide_eq_true_eq]; omega
      have k4 : (k : Int) < (n : Int) := by omega
      have hkl : k < l.length := by have := HN.out; omega
      have hkl' : k < l'.length := by have := HN'.out; omega
      obtain ⟨g, o, rfl, hg, hc⟩ := HA.out (by omega)
      obtain ⟨g', o', rfl, hg', hc'⟩ := HA'.out (by omega)
      have y3 := hc k hkl
      have y3' := hc' k hkl'
      have HX : Hid (∀ x y, l.getD k 0 = x → l'.getD k 0 = y → x = y → ∀ j, j < k + 1 → l.getD j 0 = l'.getD j 0) := fun x y h1 h2 h3 j hj => by
        by_cases e : j = k
        · subst e; rw [h1, h2, h3]
        · exact HALL.out j (by omega)
      have HNE : Hid (∀ x y, l.getD k 0 = x → l'.getD k 0 = y → x ≠ y → false = res) := fun x y h1 h2 h3 => by
        rw [← HRES.out]
        exact (decide_eq_false (fun e => h3 (by rw [← h1, ← h2, e]))).symm
      have HX2 := Lib.hid (HX.out _ _ rfl rfl)
      have HNE2 := Lib.hid (HNE.out _ _ rfl rfl)
      clear HX HNE hc hc' hkl hkl'
      generalize l.getD k 0 = x at *
      generalize l'.getD k 0 = y at *
      by_cases hxy : x = y
      · subst hxy
        have q2 : (x != x) = false := by simp
        have HX3 := Lib.hid (HX2.out (by first | exact rfl | trivial))
        go_wp2_with fail
        go_quiet (fail)
        go_wp2_with fail
        go_roundw
        case rel => exact ⟨k + 1, _, by omega, by go_num, (by first | rfl | exact drewN_two _ _ _), HX3.out⟩
        case measure => simp [intOf]; omega
      · have q2 : (x != y) = true := by simp [hxy]
        have HF := Lib.hid (HNE2.out hxy)
        clear hxy
        go_wp2_with fail
        go_quiet (fail)
        go_wp2_with fail
        go_ret
        exact ⟨by rw [← HF.out]; rfl, _, (by first | rfl | exact drewN_two _ _ _)⟩
    · have k3 : decide ((k : Int) < (n : Int)) = false := by rw [decide_eq_false_iff_not]; omega
      have HF : Hid (true = res) := by
        show _ = _
        rw [← HRES.out]
        exact (decide_eq_true (list_ext0 (by have := HN.out; have := HN'.out; omega) (fun j hj => HALL.out j (by have := HN.out; omega)))).symm
      go_wp2_with fail
      go_ret
      exact ⟨by rw [← HF.out]; rfl, m, rfl⟩
theorem RdBy.take {w : World} {B : Nat} {A : Option Addr} {l : List Int} (h : RdBy w B A l) (k : Nat) : RdBy w B A (l.take k) := fun hn => by
  rw [List.length_take] at hn
  obtain ⟨g, o, e, hg, hc⟩ := h (by omega)
  refine ⟨g, o, e, hg, fun j hj => ?_⟩
  rw [List.length_take] at hj
  have e2 : (l.take k).getD j 0 = l.getD j 0 := by
    rw [List.getD_eq_getElem?_getD, List.getD_eq_getElem?_getD, List.getElem?_take_of_lt (by omega)]
  rw [e2]
  exact hc j (by omega)
theorem res_cases {nb : Nat} {l : List (K5 × Int)} {E : Int} {rs : List (List Int × Int)} (h : (E, rs) = resV true nb l) : (E = 2 ∧ rs = []) ∨ (E = 0 ∧ rs = l.map (fun p => (p.1.l.take nb, p.2)) ∧ ∀ p ∈ l, okM p.2) := by
  unfold resV at h
  rw [if_neg (by decide)] at h
  by_cases h2 : l.all (fun p => moneyB p.2) = true
  · rw [if_pos h2] at h
    obtain ⟨rfl, rfl⟩ := Prod.mk.inj h
    exact .inr ⟨rfl, rfl, fun p hp => moneyB_ok (List.all_eq_true.1 h2 p hp)⟩
  · rw [if_neg h2] at h
    obtain ⟨rfl, rfl⟩ := Prod.mk.inj h
    exact .inl ⟨rfl, rfl⟩
/-- a row of an answer -/
theorem row_of {nb : Nat} {rs : List RRow} {l : List (K5 × Int)} (h : (rs.map fun r => (r.ks, r.val)) = l.map (fun p => (p.1.l.take nb, p.2))) {j : Nat} (hj : j < rs.length) : ∃ p, l[j]? = some p ∧ (rs.getD j default).ks = p.1.l.take nb ∧ (rs.getD j default).val = p.2 := by
  have hl : rs.length = l.length := by
    have h1 := congrArg List.length h
    simpa using h1
  have h1 : (rs.map fun r => (r.ks, r.val))[j]? = (l.map (fun p => (p.1.l.take nb, p.2)))[j]? := by rw [h]
  rw [List.getElem?_map, List.getElem?_map, List.getElem?_eq_getElem hj, List.getElem?_eq_getElem (by omega)] at h1
  simp only [Option.map_some, Option.some.injEq, Prod.mk.injEq] at h1
  have e1 : rs.getD j default = rs[j] := by simp [List.getD, hj]
  rw [e1]
  exact ⟨_, List.getElem?_eq_getElem (by omega), h1⟩
theorem rdby_reads {w : World} {B : Nat} {A : Option Addr} {l : List Int} (h : RdBy w B A l) : Reads w B 1 A l.length (l.map intV) := by
  refine ⟨by rw [List.length_map]; omega, fun hn => ?_⟩
  obtain ⟨g, o, rfl, hg, hc⟩ := h hn
  refine ⟨_, rfl, hg, fun j u hu => ?_⟩
  rw [List.getElem?_map] at hu
  have hj : j < l.length := by
    cases hl : l[j]? with
    | none => rw [hl] at hu; cases hu
    | some x => exact (List.getElem?_eq_some_iff.1 hl).1
  have e : (⟨g, o, none⟩ : Addr).add j = ⟨g, o + j, none⟩ := by unfold Addr.add; split <;> simp_all
  rw [e, hc j hj]
  rw [List.getElem?_eq_getElem hj] at hu
  have e2 : l.getD j 0 = l[j] := by simp [List.getD, hj]
  rw [e2]
  exact hu
end Go.Proofs.YtfnlddloalineaaGreatDoor
