/-
  Few at any result.
-/
import Derived.Test.YtfnlddloalineaaGreatDoorFctPl
namespace Go.Proofs.YtfnlddloalineaaGreatDoor
open Go.RowKit
set_option linter.unusedVariables false
set_option linter.unusedSimpArgs false
set_option maxRecDepth 100000
def smallA (n : Int) : Prop := n ≤ 1125899906842624 ∧ -1125899906842624 ≤ n
/-- what Few says of a result and a query -/
structure FewR (its : List SItem) (pos : List SPost) (nb nw : Nat) : Prop where
  li : its.length ≤ 200
  lp : pos.length ≤ 60
  lb : nb ≤ 10
  lw : nw ≤ 30
  si : ∀ k, k < its.length → smallA (its.getD k default).amt
  lq : ∀ x, x ∈ pos → x.parts.length ≤ 10
  sp : ∀ x, x ∈ pos → ∀ j, j < x.parts.length → smallA (x.parts.getD j default).amt
/-- how Few ends -/
def FewSays (its : List SItem) (pos : List SPost) (nb nw : Nat) (e : Ending) : Prop := ∃ b : Bool, e = .returned (.bool b) ∧ (b = true → FewR its pos nb nw)
theorem few_no (its : List SItem) (pos : List SPost) (nb nw : Nat) : FewSays its pos nb nw (.returned (.bool false)) := ⟨false, rfl, fun h => by cases h⟩
theorem few_yes {its : List SItem} {pos : List SPost} {nb nw : Nat} (h : FewR its pos nb nw) : FewSays its pos nb nw (.returned (.bool true)) := ⟨true, rfl, fun _ => h⟩
def postOk (p : SPost) : Prop := p.parts.length ≤ 10 ∧ ∀ j, j < p.parts.length → smallA (p.parts.getD j default).amt
set_option maxHeartbeats 16000000 in
theorem few_any (per verb : Int) (its : List SItem) (pos : List SPost) (Ai Ap At Ab Aw : Option Addr) (ni ci np cp nt ct nb cb nw cw B : Nat) (w : World) (hi : Reads w B 7 Ai ni (its.flatMap itemC)) (hp : Reads w B 5 Ap np (pos.flatMap postC)) (hq : ∀ x, x ∈ pos → PostIn w B x) (hB : B ≤ w.heap.size) (hli : its.length = ni) (hlp : pos.length = np) (hni : ni ≤ 9223372036854775807) (hnp : np ≤ 9223372036854775807) :
    Calls Tryz.prog 16 #[.agg #[.int .i64 per, .slice Ai ni ci, .slice Ap np cp, .slice At nt ct], .agg #[.int .i64 verb, .slice Ab nb cb, .slice Aw nw cw]] w fun e w' => FewSays its pos nb nw e ∧ Below w.heap.size w w' := by
  have h1 := (Below.refl w.heap.size w).alloc (Nat.le_refl _) (.cells (#[.int .i64 per, .slice Ai ni ci, .slice Ap np cp, .slice At nt ct] : Array Value) 43)
  have k1 := Blk.new w 43 #[.int .i64 per, .slice Ai ni ci, .slice Ap np cp, .slice At nt ct]
  obtain ⟨wy, hwy⟩ : ∃ wy, w.alloc (.cells (#[.int .i64 per, .slice Ai ni ci, .slice Ap np cp, .slice At nt ct] : Array Value) 43) = wy := ⟨_, rfl⟩
  rw [hwy] at h1 k1
  have h2 := h1.alloc h1.size (.cells (#[.int .i64 verb, .slice Ab nb cb, .slice Aw nw cw] : Array Value) 32)
  have k2 := Blk.new wy 32 #[.int .i64 verb, .slice Ab nb cb, .slice Aw nw cw]
  have k3 := k1.alloc (.cells (#[.int .i64 verb, .slice Ab nb cb, .slice Aw nw cw] : Array Value) 32)
  obtain ⟨wz, hwz⟩ : ∃ wz, wy.alloc (.cells (#[.int .i64 verb, .slice Ab nb cb, .slice Aw nw cw] : Array Value) 32) = wz := ⟨_, rfl⟩
  rw [hwz] at h2 k2 k3
  obtain ⟨X, hX⟩ : ∃ X, wy.heap.size = X := ⟨_, rfl⟩
  rw [hX] at k2
  have c1 : wz.cell? ⟨w.heap.size, 1, none⟩ = some (.slice Ai ni ci) := k3.cell 1
  have c2 : wz.cell? ⟨w.heap.size, 2, none⟩ = some (.slice Ap np cp) := k3.cell 2
  have q1 : wz.cell? ⟨X, 1, none⟩ = some (.slice Ab nb cb) := k2.cell 1
  have q2 : wz.cell? ⟨X, 2, none⟩ = some (.slice Aw nw cw) := k2.cell 2
  have HB := Lib.hid h2
  have HI := Lib.hid (hi.lowQ hB (Nat.le_refl _) h2)
  have HP := Lib.hid (hp.lowQ hB (Nat.le_refl _) h2)
  have HQ : Hid (∀ x, x ∈ pos → Reads wz B 2 x.A x.n (x.parts.flatMap partC) ∧ x.parts.length = x.n ∧ x.n ≤ 9223372036854775807) := fun x hx => ⟨(hq x hx).1.lowQ hB (Nat.le_refl _) h2, (hq x hx).2.1, (hq x hx).2.2.1⟩
  have HLI := Lib.hid hli
  have HLP := Lib.hid hlp
  clear h1 k1 h2 k2 k3 hi hp hq hli hlp
  go_enter Tryz.func16, Tryz.ntmps16
  go_wp2_with fail
  go_loop [5] (fun i => ∃ k : Nat, k ≤ ni ∧ i = .int .i64 k ∧ ∀ j, j < k → smallA (its.getD j default).amt) (fun i => ni - (intOf i).toNat)
  case atStart => exact ⟨0, by omega, rfl, fun j h => by omega⟩
  case round =>
    obtain ⟨k, hk, rfl, hd⟩ := hrel
    have HD := Lib.hid hd
    clear hd
    by_cases hlk : k < ni
    · have e1 : decide ((k : Int) < (ni : Int)) = true := by rw [decide_eq_true_eq]; omega
      have e2 : (k : Int) < (ni : Int) := by omega
      obtain ⟨ad, rfl, had, hkl, b0, bj⟩ := HI.out.row_at itemC (fun _ => rfl) (by decide) hlk
      have b6 := bj 6 (by decide) (by decide)
      have HNX : Hid (smallA (its.getD k default).amt → ∀ j, j < k + 1 → smallA (its.getD j default).amt) := fun h j hj => by
        by_cases e : j = k
        · rw [e]; exact h
        · exact HD.out j (by omega)
      clear bj b0
      generalize its.getD k default = it at *
      obtain ⟨re, rl, ent, acc, par, dat, amt⟩ := it
      replace b6 : wz.cell? ⟨(ad.add (k * 7)).block, (ad.add (k * 7)).off + 6, none⟩ = some (.int .i64 amt) := b6
      by_cases a1 : 1125899906842624 < amt
      · have d1 : decide (1125899906842624 < amt) = true := by rw [decide_eq_true_eq]; omega
        go_wp2_with fail
        go_ret
        exact ⟨few_no _ _ _ _, HB.out⟩
      by_cases a2 : amt < -1125899906842624
      · have d1 : decide (1125899906842624 < amt) = false := by rw [decide_eq_false_iff_not]; omega
        have d2 : decide (amt < -1125899906842624) = true := by rw [decide_eq_true_eq]; omega
        go_wp2_with fail
        go_ret
        exact ⟨few_no _ _ _ _, HB.out⟩
      have d1 : decide (1125899906842624 < amt) = false := by rw [decide_eq_false_iff_not]; omega
      have d2 : decide (amt < -1125899906842624) = false := by rw [decide_eq_false_iff_not]; omega
      have F := Lib.hid (HNX.out ⟨by show amt ≤ _; omega, by show _ ≤ amt; omega⟩)
      go_wp2_with fail
      go_round
      case rel => exact ⟨k + 1, by omega, by go_num, F.out⟩
      case measure => simp [intOf]; omega
    · have e1 : decide ((k : Int) < (ni : Int)) = false := by rw [decide_eq_false_iff_not]; omega
      have HSI : Hid (∀ j, j < its.length → smallA (its.getD j default).amt) := fun j hj => HD.out j (by have := HLI.out; omega)
      clear HD
      go_wp2_with fail
      go_loop [6] (fun i => ∃ k : Nat, k ≤ np ∧ i = .int .i64 k ∧ ∀ j, j < k → postOk (pos.getD j default)) (fun i => np - (intOf i).toNat)
      case atStart => exact ⟨0, by omega, rfl, fun j h => by omega⟩
      case round =>
        obtain ⟨m, hm, rfl, hd⟩ := hrel
        have HD := Lib.hid hd
        clear hd
        by_cases hlm : m < np
        · have e3 : decide ((m : Int) < (np : Int)) = true := by rw [decide_eq_true_eq]; omega
          have e4 : (m : Int) < (np : Int) := by omega
          obtain ⟨ad, rfl, had, hml, b0, bj⟩ := HP.out.row_at postC (fun _ => rfl) (by decide) hlm
          have b4 := bj 4 (by decide) (by decide)
          have hmem : pos.getD m default ∈ pos := by rw [List.getD_eq_getElem?_getD, List.getElem?_eq_getElem hml]; exact List.getElem_mem _
          obtain ⟨hpr, hpl, hpm⟩ := HQ.out _ hmem
          have HNX : Hid (postOk (pos.getD m default) → ∀ j, j < m + 1 → postOk (pos.getD j default)) := fun h j hj => by
            by_cases e : j = m
            · rw [e]; exact h
            · exact HD.out j (by omega)
          clear bj b0 hmem
          generalize pos.getD m default = po at *
          obtain ⟨kind, ent, oth, rule, A, n, c, parts⟩ := po
          replace b4 : wz.cell? ⟨(ad.add (m * 5)).block, (ad.add (m * 5)).off + 4, none⟩ = some (.slice A n c) := b4
          simp only [] at hpr hpl hpm
          have HPR := Lib.hid hpr
          have HPL := Lib.hid hpl
          clear hpr hpl
          go_wp2_with fail
          go_loop [7] (fun i => ∃ k : Nat, k ≤ n ∧ i = .int .i64 k ∧ ∀ j, j < k → j < 10 ∧ smallA (parts.getD j default).amt) (fun i => n - (intOf i).toNat)
          case atStart => exact ⟨0, by omega, rfl, fun j h => by omega⟩
          case round =>
            obtain ⟨j, hj, rfl, hd⟩ := hrel
            have HDP := Lib.hid hd
            clear hd
            by_cases hlj : j < n
            · have e5 : decide ((j : Int) < (n : Int)) = true := by rw [decide_eq_true_eq]; omega
              have e6 : (j : Int) < (n : Int) := by omega
              obtain ⟨ap, rfl, hap, hjl, d0, dj⟩ := HPR.out.row_at partC (fun _ => rfl) (by decide) hlj
              have d1 := dj 1 (by decide) (by decide)
              have HNY : Hid (j < 10 ∧ smallA (parts.getD j default).amt → ∀ i, i < j + 1 → i < 10 ∧ smallA (parts.getD i default).amt) := fun h i hi => by
                by_cases e : i = j
                · rw [e]; exact h
                · exact HDP.out i (by omega)
              clear dj d0
              generalize parts.getD j default = pt at *
              obtain ⟨acc, amt⟩ := pt
              replace d1 : wz.cell? ⟨(ap.add (j * 2)).block, (ap.add (j * 2)).off + 1, none⟩ = some (.int .i64 amt) := d1
              by_cases a0 : 10 ≤ j
              · have f0 : decide (10 ≤ (j : Int)) = true := by rw [decide_eq_true_eq]; omega
                have f9 : decide (10 ≤ j) = true := by rw [decide_eq_true_eq]; omega
                go_wp2_with fail
                go_ret
                exact ⟨few_no _ _ _ _, HB.out⟩
              have f0 : decide (10 ≤ (j : Int)) = false := by rw [decide_eq_false_iff_not]; omega
              have f9 : decide (10 ≤ j) = false := by rw [decide_eq_false_iff_not]; omega
              by_cases a1 : 1125899906842624 < amt
              · have f1 : decide (1125899906842624 < amt) = true := by rw [decide_eq_true_eq]; omega
                go_wp2_with fail
                go_ret
                exact ⟨few_no _ _ _ _, HB.out⟩
              by_cases a2 : amt < -1125899906842624
              · have f1 : decide (1125899906842624 < amt) = false := by rw [decide_eq_false_iff_not]; omega
                have f2 : decide (amt < -1125899906842624) = true := by rw [decide_eq_true_eq]; omega
                go_wp2_with fail
                go_ret
                exact ⟨few_no _ _ _ _, HB.out⟩
              have f1 : decide (1125899906842624 < amt) = false := by rw [decide_eq_false_iff_not]; omega
              have f2 : decide (amt < -1125899906842624) = false := by rw [decide_eq_false_iff_not]; omega
              have F := Lib.hid (HNY.out ⟨by omega, by show amt ≤ _; omega, by show _ ≤ amt; omega⟩)
              go_wp2_with fail
              go_round
              case rel => exact ⟨j + 1, by omega, by go_num, F.out⟩
              case measure => simp [intOf]; omega
            · have e5 : decide ((j : Int) < (n : Int)) = false := by rw [decide_eq_false_iff_not]; omega
              have F := Lib.hid (HNX.out ⟨by
                show parts.length ≤ 10
                have h1 := HPL.out
                by_cases h0 : n = 0
                · omega
                · have := (HDP.out (n - 1) (by omega)).1
                  omega, fun i hi => (HDP.out i (by have h1 := HPL.out; have : i < parts.length := hi; omega)).2⟩)
              go_wp2_with fail
              go_round
              case rel => exact ⟨m + 1, by omega, by go_num, F.out⟩
              case measure => simp [intOf]; omega
        · have e3 : decide ((m : Int) < (np : Int)) = false := by rw [decide_eq_false_iff_not]; omega
          have HSP : Hid (∀ x, x ∈ pos → postOk x) := fun x hx => by
            obtain ⟨j, hj, rfl⟩ := List.mem_iff_getElem.1 hx
            have := HD.out j (by have := HLP.out; omega)
            rwa [List.getD_eq_getElem?_getD, List.getElem?_eq_getElem hj] at this
          clear HD
          by_cases n1 : ni ≤ 200
          · have g1 : decide ((ni : Int) ≤ 200) = true := by rw [decide_eq_true_eq]; omega
            have g5 : decide (ni ≤ 200) = true := by rw [decide_eq_true_eq]; omega
            by_cases n2 : np ≤ 60
            · have g2 : decide ((np : Int) ≤ 60) = true := by rw [decide_eq_true_eq]; omega
              have g6 : decide (np ≤ 60) = true := by rw [decide_eq_true_eq]; omega
              by_cases n3 : nb ≤ 10
              · have g3 : decide ((nb : Int) ≤ 10) = true := by rw [decide_eq_true_eq]; omega
                have g7 : decide (nb ≤ 10) = true := by rw [decide_eq_true_eq]; omega
                by_cases n4 : nw ≤ 30
                · have g4 : decide ((nw : Int) ≤ 30) = true := by rw [decide_eq_true_eq]; omega
                  have g8 : decide (nw ≤ 30) = true := by rw [decide_eq_true_eq]; omega
                  have F : Hid (FewR its pos nb nw) := ⟨by rw [HLI.out]; exact n1, by rw [HLP.out]; exact n2, n3, n4, HSI.out, fun x hx => (HSP.out x hx).1, fun x hx => (HSP.out x hx).2⟩
                  go_wp2_with fail
                  go_ret
                  exact ⟨few_yes F.out, HB.out⟩
                · have g4 : decide ((nw : Int) ≤ 30) = false := by rw [decide_eq_false_iff_not]; omega
                  have g8 : decide (nw ≤ 30) = false := by rw [decide_eq_false_iff_not]; omega
                  go_wp2_with fail
                  go_ret
                  exact ⟨few_no _ _ _ _, HB.out⟩
              · have g3 : decide ((nb : Int) ≤ 10) = false := by rw [decide_eq_false_iff_not]; omega
                have g7 : decide (nb ≤ 10) = false := by rw [decide_eq_false_iff_not]; omega
                go_wp2_with fail
                go_ret
                exact ⟨few_no _ _ _ _, HB.out⟩
            · have g2 : decide ((np : Int) ≤ 60) = false := by rw [decide_eq_false_iff_not]; omega
              have g6 : decide (np ≤ 60) = false := by rw [decide_eq_false_iff_not]; omega
              go_wp2_with fail
              go_ret
              exact ⟨few_no _ _ _ _, HB.out⟩
          · have g1 : decide ((ni : Int) ≤ 200) = false := by rw [decide_eq_false_iff_not]; omega
            have g5 : decide (ni ≤ 200) = false := by rw [decide_eq_false_iff_not]; omega
            go_wp2_with fail
            go_ret
            exact ⟨few_no _ _ _ _, HB.out⟩
end Go.Proofs.YtfnlddloalineaaGreatDoor
