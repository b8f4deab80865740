/-
  Totals: figures of a range of accounts, both sides.
-/
import Derived.Test.YtenlbjobjnpghaaDoorStW4
import Derived.Test.YtenlbjobjnpghaaDoorRepMon
namespace Go.Proofs.YtenlbjobjnpghaaDoor
open Go.RowKit
set_option linter.unusedVariables false
structure SBal where
  acct : Int
  amt : Int
instance : Inhabited SBal := ⟨⟨0, 0⟩⟩
def balCells (b : SBal) : List Value := [.int .i64 b.acct, .int .i64 b.amt]
def balsCells (bs : List SBal) : List Value := bs.flatMap balCells
theorem balCells_len (b : SBal) : (balCells b).length = 2 := rfl
theorem bals_len {w : World} {B n : Nat} {A : Option Addr} {bs : List SBal} (h : Reads w B 2 A n (balsCells bs)) : bs.length = n := by
  have := h.1
  unfold balsCells at this
  rw [flat_len balCells balCells_len] at this
  omega
theorem Reads.bal_at {w : World} {B n k : Nat} {A : Option Addr} {bs : List SBal} (h : Reads w B 2 A n (balsCells bs)) (hk : k < n) :
    ∃ ad, A = some ad ∧ ad.block < B ∧ w.cell? (ad.add (k * 2)) = some (.int .i64 (bs.getD k default).acct) ∧ w.cell? ⟨(ad.add (k * 2)).block, (ad.add (k * 2)).off + 1, none⟩ = some (.int .i64 (bs.getD k default).amt) := by
  have hl := bals_len h
  obtain ⟨ad, rfl, hb, hc⟩ := h.2 (by omega)
  have hx : ∀ j, j < 2 → ∀ u, (balCells (bs.getD k default))[j]? = some u → w.cell? (ad.add (k * 2 + j)) = some u := by
    intro j hj u hu
    refine hc _ _ ?_
    unfold balsCells
    rw [flat_at balCells balCells_len (by omega) hj, hu]
  have g0 := hx 0 (by omega) _ rfl
  have g1 := hx 1 (by omega) _ rfl
  rw [← add_of_add, add_pos _ 1 (by omega)] at g1
  exact ⟨ad, rfl, hb, g0, g1⟩
/-- the sum of the totals of a range of accounts -/
def figL (bs : List SBal) (f t : Int) : Int := (bs.map fun b => if f ≤ b.acct ∧ b.acct ≤ t then b.amt else 0).sum
theorem figL_step {bs : List SBal} {k : Nat} (f t : Int) (hk : k < bs.length) : figL (bs.take (k + 1)) f t = figL (bs.take k) f t + (if f ≤ (bs.getD k default).acct ∧ (bs.getD k default).acct ≤ t then (bs.getD k default).amt else 0) := by
  unfold figL
  rw [List.take_succ_eq_append_getElem hk, List.map_append, List.sum_append]
  have e : bs.getD k default = bs[k] := by simp [List.getD, hk]
  rw [e]
  simp
def smallB (bs : List SBal) : Prop := ∀ b ∈ bs, -1125899906842624 ≤ b.amt ∧ b.amt ≤ 1125899906842624
theorem figL_bd {bs : List SBal} (f t : Int) (h : smallB bs) : ∀ k, k ≤ bs.length → -(1125899906842624 * (k : Int)) ≤ figL (bs.take k) f t ∧ figL (bs.take k) f t ≤ 1125899906842624 * (k : Int) := by
  intro k
  induction k with
  | zero => intro _; simp [figL]
  | succ k ih =>
    intro hk
    have h1 := ih (by omega)
    have e : bs.getD k default = bs[k]'(by omega) := by simp [List.getD, show k < bs.length by omega]
    have h2 := h (bs.getD k default) (by rw [e]; exact List.getElem_mem _)
    rw [figL_step f t (by omega)]
    generalize bs.getD k default = b at *
    split <;> omega
theorem smallB_at {bs : List SBal} {k : Nat} (h : smallB bs) (hk : k < bs.length) : -1125899906842624 ≤ (bs.getD k default).amt ∧ (bs.getD k default).amt ≤ 1125899906842624 := by
  have e : bs.getD k default = bs[k] := by simp [List.getD, hk]
  exact h _ (by rw [e]; exact List.getElem_mem _)
set_option maxRecDepth 100000 in
set_option maxHeartbeats 4000000 in
theorem figure_any (bs : List SBal) (A : Option Addr) (n c : Nat) (f t : Int) (B : Nat) (w : World) (hr : Reads w B 2 A n (balsCells bs)) (hB : B ≤ w.heap.size) (hn : n ≤ 200) (hs : smallB bs) :
    Calls Tryd.prog 50 #[.slice A n c, .int .i64 f, .int .i64 t] w fun e w' => e = .returned (.int .i64 (figL bs f t)) ∧ Below w.heap.size w w' := by
  have HL := Lib.hid (bals_len hr)
  have HR := Lib.hid hr
  have HS := Lib.hid hs
  clear hr hs
  go_enter Tryd.func50, Tryd.ntmps50
  go_wp2_with fail
  go_loopw [7, 12] (fun s i wr => ∃ k : Nat, k ≤ n ∧ i = .int .i64 k ∧ s = .int .i64 (figL (bs.take k) f t) ∧ Below w.heap.size w wr) (fun _ i _ => n - (intOf i).toNat)
  case atStart => exact ⟨0, Nat.zero_le _, rfl, rfl, Below.refl _ _⟩
  case round =>
    obtain ⟨k, hk, rfl, rfl, hbr⟩ := hrel
    obtain ⟨wo, rfl⟩ : ∃ wo : World, wo = wr := ⟨_, rfl⟩
    by_cases hlt : k < n
    · have k3 : decide ((k : Int) < (n : Int)) = true := by rw [decide_eq_true_eq]; omega
      obtain ⟨ad, rfl, hab, c0, c1⟩ := (HR.out.low hB (Nat.le_refl _) hbr).bal_at hlt
      have hkl : k < bs.length := by rw [HL.out]; exact hlt
      have hst := Lib.hid (figL_step f t hkl)
      have hbd := figL_bd f t HS.out k (by omega)
      have hb1 := smallB_at HS.out hkl
      generalize figL (bs.take k) f t = s at *
      generalize bs.getD k default = b at *
      obtain ⟨ac, am⟩ := b
      simp only [] at c0 c1 hb1
      have b1 : -1125899906842624000 ≤ s := by omega
      have b2 : s ≤ 1125899906842624000 := by omega
      have b3 := hb1.1
      have b4 := hb1.2
      clear hbd hb1
      by_cases h1 : f ≤ ac
      · have d1 : decide (f ≤ ac) = true := by rw [decide_eq_true_eq]; exact h1
        by_cases h2 : ac ≤ t
        · have d2 : decide (ac ≤ t) = true := by rw [decide_eq_true_eq]; exact h2
          have F : Hid (figL (bs.take (k + 1)) f t = s + am) := by show _ = _; rw [hst.out, if_pos ⟨h1, h2⟩]
          go_wp2_with fail
          go_roundw
          case rel => exact ⟨k + 1, by omega, by go_num, by rw [F.out], hbr.alloc hbr.size _⟩
          case measure => simp [intOf]; omega
        · have d2 : decide (ac ≤ t) = false := by rw [decide_eq_false_iff_not]; exact h2
          have F : Hid (figL (bs.take (k + 1)) f t = s) := by show _ = _; rw [hst.out, if_neg (fun h => h2 h.2)]; omega
          go_wp2_with fail
          go_roundw
          case rel => exact ⟨k + 1, by omega, by go_num, by rw [F.out], hbr.alloc hbr.size _⟩
          case measure => simp [intOf]; omega
      · have d1 : decide (f ≤ ac) = false := by rw [decide_eq_false_iff_not]; exact h1
        have F : Hid (figL (bs.take (k + 1)) f t = s) := by show _ = _; rw [hst.out, if_neg (fun h => h1 h.1)]; omega
        go_wp2_with fail
        go_roundw
        case rel => exact ⟨k + 1, by omega, by go_num, by rw [F.out], hbr.alloc hbr.size _⟩
        case measure => simp [intOf]; omega
    · have k3 : decide ((k : Int) < (n : Int)) = false := by rw [decide_eq_false_iff_not]; omega
      rw [List.take_of_length_le (show bs.length ≤ k by rw [HL.out]; omega)]
      go_wp2_with fail
      go_ret
      exact ⟨rfl, hbr⟩
set_option maxRecDepth 100000 in
set_option maxHeartbeats 4000000 in
theorem refFigure_any (bs : List SBal) (A : Option Addr) (n c : Nat) (f t : Int) (B : Nat) (w : World) (hr : Reads w B 2 A n (balsCells bs)) (hn : n ≤ 200) (hs : smallB bs) :
    Calls Tryd.prog 29 #[.slice A n c, .int .i64 f, .int .i64 t] w fun e w' => e = .returned (.int .i64 (figL bs f t)) ∧ w = w' := by
  have HL := Lib.hid (bals_len hr)
  have HR := Lib.hid hr
  have HS := Lib.hid hs
  clear hr hs
  go_enter Tryd.func29, Tryd.ntmps29
  go_wp2_with fail
  go_loop [7, 8] (fun s i => ∃ k : Nat, k ≤ n ∧ i = .int .i64 k ∧ s = .int .i64 (figL (bs.take k) f t)) (fun _ i => n - (intOf i).toNat)
  case atStart => exact ⟨0, Nat.zero_le _, rfl, rfl⟩
  case round =>
    obtain ⟨k, hk, rfl, rfl⟩ := hrel
    by_cases hlt : k < n
    · have k3 : decide ((k : Int) < (n : Int)) = true := by rw [decide_eq_true_eq]; omega
      obtain ⟨ad, rfl, hab, c0, c1⟩ := HR.out.bal_at hlt
      have hkl : k < bs.length := by rw [HL.out]; exact hlt
      have hst := Lib.hid (figL_step f t hkl)
      have hbd := figL_bd f t HS.out k (by omega)
      have hb1 := smallB_at HS.out hkl
      generalize figL (bs.take k) f t = s at *
      generalize bs.getD k default = b at *
      obtain ⟨ac, am⟩ := b
      simp only [] at c0 c1 hb1
      have b1 : -1125899906842624000 ≤ s := by omega
      have b2 : s ≤ 1125899906842624000 := by omega
      have b3 := hb1.1
      have b4 := hb1.2
      clear hbd hb1
      by_cases h1 : f ≤ ac
      · have d1 : decide (f ≤ ac) = true := by rw [decide_eq_true_eq]; exact h1
        by_cases h2 : ac ≤ t
        · have d2 : decide (ac ≤ t) = true := by rw [decide_eq_true_eq]; exact h2
          have F : Hid (figL (bs.take (k + 1)) f t = s + am) := by show _ = _; rw [hst.out, if_pos ⟨h1, h2⟩]
          go_wp2_with fail
          go_round
          case rel => exact ⟨k + 1, by omega, by go_num, by rw [F.out]⟩
          case measure => simp [intOf]; omega
        · have d2 : decide (ac ≤ t) = false := by rw [decide_eq_false_iff_not]; exact h2
          have F : Hid (figL (bs.take (k + 1)) f t = s) := by show _ = _; rw [hst.out, if_neg (fun h => h2 h.2)]; omega
          go_wp2_with fail
          go_round
          case rel => exact ⟨k + 1, by omega, by go_num, by rw [F.out]⟩
          case measure => simp [intOf]; omega
      · have d1 : decide (f ≤ ac) = false := by rw [decide_eq_false_iff_not]; exact h1
        have F : Hid (figL (bs.take (k + 1)) f t = s) := by show _ = _; rw [hst.out, if_neg (fun h => h1 h.1)]; omega
        go_wp2_with fail
        go_round
        case rel => exact ⟨k + 1, by omega, by go_num, by rw [F.out]⟩
        case measure => simp [intOf]; omega
    · have k3 : decide ((k : Int) < (n : Int)) = false := by rw [decide_eq_false_iff_not]; omega
      rw [List.take_of_length_le (show bs.length ≤ k by rw [HL.out]; omega)]
      go_wp2_with fail
      go_ret
      exact ⟨rfl, rfl⟩
end Go.Proofs.YtenlbjobjnpghaaDoor
