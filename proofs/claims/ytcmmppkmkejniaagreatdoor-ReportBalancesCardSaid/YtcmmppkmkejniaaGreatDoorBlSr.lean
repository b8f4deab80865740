/-
  Amounts: Valid and Text of both sides.
  Totals: figures of a range of accounts, both sides.
  Lines of a report: amount, Make.
  Make.
  Lines read out of memory; from, to; Same of the reference's lines.
  Few (for seats without Print; in seat 50 the same stands in XStW7).
  Lines as text: plain laws.
  Under, both (XStW9 for seats without Print).
  Figures of parts of a range; what has changed; sums under a row: plain laws.
  to, rows, Rows; ContainsFunc over lines; valid of both.
  Sum of both.
-/
import Derived.Test.YtcmmppkmkejniaaGreatDoorBlSt
import Derived.Laws.BytesString
import Derived.Lib.ItoaLen
namespace Go.Proofs.YtcmmppkmkejniaaGreatDoor
open Go.RowKit Go.Lib
set_option linter.unusedVariables false
def okAmt (n : Int) : Bool := decide (-1000000000000 ≤ n) && decide (n ≤ 1000000000000)
theorem okAmt_yes {n : Int} (h : -1000000000000 ≤ n ∧ n ≤ 1000000000000) : okAmt n = true := by simp [okAmt]; omega
theorem okAmt_no {n : Int} (h : n < -1000000000000 ∨ 1000000000000 < n) : okAmt n = false := by simp [okAmt]; omega
theorem okAmt_iff {n : Int} : okAmt n = true ↔ -1000000000000 ≤ n ∧ n ≤ 1000000000000 := by simp [okAmt]
def two (m : Nat) : List UInt8 := [UInt8.ofNat (48 + m / 10 % 10), UInt8.ofNat (48 + m % 10)]
def amtBody (m : Nat) : List UInt8 := decDigits (m / 100) ++ 46 :: two m
def amtText (n : Int) : List UInt8 := if okAmt n then (if n < 0 then 45 :: amtBody n.natAbs else amtBody n.natAbs) else []
def pad3 (l : List UInt8) : List UInt8 := List.replicate (3 - l.length) 48 ++ l
theorem pad3_dec (m : Nat) : pad3 (decDigits m) = decDigits (m / 100) ++ two m := by
  unfold pad3 two
  by_cases h1 : m < 10
  · have e : m / 100 = 0 := by omega
    have e2 : m / 10 % 10 = 0 := by omega
    have e3 : m % 10 = m := by omega
    rw [decDigits_one h1, e, e2, e3, decDigits_one (by omega)]; rfl
  · by_cases h2 : m < 100
    · have e : m / 100 = 0 := by omega
      have e2 : m / 10 % 10 = m / 10 := by omega
      rw [decDigits_two h1 h2, e, e2, decDigits_one (by omega)]; rfl
    · have hl : 3 ≤ (decDigits m).length := by
        rw [dec_step (m := m) (by omega), dec_step (m := m / 10) (by omega)]
        have := dec_len_pos (m / 10 / 10)
        simp; omega
      rw [show 3 - (decDigits m).length = 0 from by omega, dec_step (m := m) (by omega), dec_step (m := m / 10) (by omega), show m / 10 / 10 = m / 100 from by omega]
      simp
theorem pad3_len (m : Nat) : (pad3 (decDigits m)).length = (decDigits (m / 100)).length + 2 := by rw [pad3_dec]; simp [two]
theorem pad3_take (m : Nat) : (pad3 (decDigits m)).take ((pad3 (decDigits m)).length - 2) = decDigits (m / 100) := by
  rw [pad3_len, pad3_dec]; simp
theorem pad3_drop (m : Nat) : (pad3 (decDigits m)).drop ((pad3 (decDigits m)).length - 2) = two m := by
  rw [pad3_len, pad3_dec]; simp
theorem two_len (m : Nat) : (two m).length = 2 := rfl
theorem amtText_neg (m : Nat) (h : 0 < (m : Int)) (h' : (m : Int) ≤ 1000000000000) : amtText (-(m : Int)) = 45 :: amtBody m := by
  unfold amtText
  rw [okAmt_yes (by omega), if_pos rfl, if_pos (by omega)]
  simp
theorem amtText_pos (m : Nat) (h' : (m : Int) ≤ 1000000000000) : amtText (m : Int) = amtBody m := by
  unfold amtText
  rw [okAmt_yes (by omega), if_pos rfl, if_neg (by omega)]
  simp
theorem moneyValid_yes (n : Int) (w : World) (h1 : -1000000000000 ≤ n) (h2 : n ≤ 1000000000000) : Calls Tryz.prog 47 #[.int .i64 n] w fun e w' => e = .returned (.bool true) ∧ w = w' := by
  go_enter Tryz.func47, Tryz.ntmps47
  go_wp2
  go_ret
  exact ⟨rfl, rfl⟩
theorem moneyValid_any (n : Int) (w : World) : Calls Tryz.prog 47 #[.int .i64 n] w fun e w' => e = .returned (.bool (okAmt n)) ∧ w = w' := by
  by_cases h1 : -1000000000000 ≤ n
  · by_cases h2 : n ≤ 1000000000000
    · rw [okAmt_yes ⟨h1, h2⟩]; exact moneyValid_yes n w h1 h2
    · rw [okAmt_no (by omega)]
      have h3 : decide (n ≤ 1000000000000) = false := by simp; omega
      clear h2
      go_enter Tryz.func47, Tryz.ntmps47
      go_wp2
      go_ret
      exact ⟨rfl, rfl⟩
  · rw [okAmt_no (by omega)]
    have h3 : decide (-1000000000000 ≤ n) = false := by simp; omega
    clear h1
    go_enter Tryz.func47, Tryz.ntmps47
    go_wp2
    go_ret
    exact ⟨rfl, rfl⟩
theorem body_eq (m : Nat) : [45] ++ (List.drop 0 (List.take ((pad3 (Lib.decDigits m)).length - 2) (pad3 (Lib.decDigits m))) ++ [46] ++ List.drop ((pad3 (Lib.decDigits m)).length - 2) (List.take (pad3 (Lib.decDigits m)).length (pad3 (Lib.decDigits m)))) = 45 :: amtBody m := by
  rw [List.take_length, pad3_take, pad3_drop]
  simp [amtBody]
theorem body_eq' (m : Nat) : List.drop 0 (List.take ((pad3 (Lib.decDigits m)).length - 2) (pad3 (Lib.decDigits m))) ++ [46] ++ List.drop ((pad3 (Lib.decDigits m)).length - 2) (List.take (pad3 (Lib.decDigits m)).length (pad3 (Lib.decDigits m))) = amtBody m := by
  rw [List.take_length, pad3_take, pad3_drop]
  simp [amtBody]
theorem moneyText_any (n : Int) (w : World) (hE : Env w) (h1 : -1000000000000 ≤ n) (h2 : n ≤ 1000000000000) :
    Calls Tryz.prog 55 #[.int .i64 n] w fun e w' => e = .returned (.string ⟨(amtText n).toArray⟩) ∧ Below w.heap.size w w' := by
  by_cases hn : n < 0
  · obtain ⟨m, hm⟩ : ∃ m : Nat, n = -(m : Int) := ⟨n.natAbs, by omega⟩
    subst hm
    have hm1 : (m : Int) ≤ 1000000000000 := by omega
    have hm0 : 0 < (m : Int) := by omega
    clear h1 h2 hn
    have HT := Lib.hid (dec_len_le (m := m) (by omega))
    go_enter Tryz.func55, Tryz.ntmps55
    go_wp2_with fail
    refine (moneyValid_yes _ _ (by omega) (by omega)).mono ?_
    rintro e w' ⟨rfl, rfl⟩
    go_wp2_with fail
    refine (itoa_nat _ m _ (by omega) (by omega) hE).mono ?_
    rintro e w1 ⟨rfl, hb1⟩
    generalize hd : Lib.decDigits m = d at *
    have HD := Lib.hid hd
    clear hd
    have hd1 := HT.out
    go_wp2_with fail
    go_loop [3] (fun v => ∃ k : Nat, k ≤ 3 - d.length ∧ v = .string ⟨(List.replicate k 48 ++ d).toArray⟩) (fun v => 3 - strLen v)
    case atStart => exact ⟨0, Nat.zero_le _, rfl⟩
    case round =>
      obtain ⟨k, hk, rfl⟩ := hrel
      go_wp2_with fail
      · refine ⟨⟨k + 1, by omega, by rw [List.replicate_succ]; exact congrArg Value.string (cat_mk [48] _)⟩, ?_⟩
        simp [strLen_cat, strLen_mk, ByteArray.size]; omega
      · have hk3 : k = 3 - d.length := by omega
        have hL : List.replicate k 48 ++ d = pad3 d := by rw [hk3]; rfl
        rw [hL]
        have hlen : 3 ≤ (pad3 d).length ∧ (pad3 d).length ≤ 24 := by rw [← hL]; simp; omega
        clear hL hk3
        have hPD := HD.out
        generalize hP : pad3 d = L at *
        have HP := Lib.hid hP
        clear hP hPD
        obtain ⟨hl1, hl2⟩ := hlen
        have hsub : IntKind.i64.wrap ((L.length : Int) - 2) = (L.length : Int) - 2 := IntWalk.i64_in _ (by omega)
        have hsub0 : 0 ≤ (L.length : Int) - 2 := by omega
        have hsubn : ((L.length : Int) - 2).toNat = L.length - 2 := by omega
        go_quiet (fail)
        go_wp2
        go_ret
        exact ⟨ret_str' (by
          rw [ex_mk, ex_mk]
          refine (congrArg (fun x => (⟨[45].toArray⟩ : ByteArray) ++ x) (cat3_mk _ [46] _)).trans ?_
          rw [cat_mk, ← HP.out, ← HD.out, amtText_neg m (by omega) (by omega)]
          exact mk_congr (body_eq m)), by repeat (first | exact hb1 | apply below_drewN)⟩
  · obtain ⟨m, hm⟩ : ∃ m : Nat, n = (m : Int) := ⟨n.natAbs, by omega⟩
    subst hm
    have hm1 : (m : Int) ≤ 1000000000000 := by omega
    have hm0 : 0 ≤ (m : Int) := by omega
    clear h1 h2 hn
    have HT := Lib.hid (dec_len_le (m := m) (by omega))
    go_enter Tryz.func55, Tryz.ntmps55
    go_wp2_with fail
    refine (moneyValid_yes _ _ (by omega) (by omega)).mono ?_
    rintro e w' ⟨rfl, rfl⟩
    go_wp2_with fail
    refine (itoa_nat _ m _ (by omega) (by omega) hE).mono ?_
    rintro e w1 ⟨rfl, hb1⟩
    generalize hd : Lib.decDigits m = d at *
    have HD := Lib.hid hd
    clear hd
    have hd1 := HT.out
    go_wp2_with fail
    go_loop [3] (fun v => ∃ k : Nat, k ≤ 3 - d.length ∧ v = .string ⟨(List.replicate k 48 ++ d).toArray⟩) (fun v => 3 - strLen v)
    case atStart => exact ⟨0, Nat.zero_le _, rfl⟩
    case round =>
      obtain ⟨k, hk, rfl⟩ := hrel
      go_wp2_with fail
      · refine ⟨⟨k + 1, by omega, by rw [List.replicate_succ]; exact congrArg Value.string (cat_mk [48] _)⟩, ?_⟩
        simp [strLen_cat, strLen_mk, ByteArray.size]; omega
      · have hk3 : k = 3 - d.length := by omega
        have hL : List.replicate k 48 ++ d = pad3 d := by rw [hk3]; rfl
        rw [hL]
        have hlen : 3 ≤ (pad3 d).length ∧ (pad3 d).length ≤ 24 := by rw [← hL]; simp; omega
        clear hL hk3
        have hPD := HD.out
        generalize hP : pad3 d = L at *
        have HP := Lib.hid hP
        clear hP hPD
        obtain ⟨hl1, hl2⟩ := hlen
        have hsub : IntKind.i64.wrap ((L.length : Int) - 2) = (L.length : Int) - 2 := IntWalk.i64_in _ (by omega)
        have hsub0 : 0 ≤ (L.length : Int) - 2 := by omega
        have hsubn : ((L.length : Int) - 2).toNat = L.length - 2 := by omega
        go_quiet (fail)
        go_wp2
        go_ret
        exact ⟨ret_str' (by
          rw [ex_mk, ex_mk]
          refine (cat3_mk _ [46] _).trans ?_
          rw [← HP.out, ← HD.out, amtText_pos m (by omega)]
          exact mk_congr (body_eq' m)), by repeat (first | exact hb1 | apply below_drewN)⟩
theorem moneyText_all (n : Int) (w : World) (hE : Env w) :
    Calls Tryz.prog 55 #[.int .i64 n] w fun e w' => e = .returned (.string ⟨(amtText n).toArray⟩) ∧ Below w.heap.size w w' := by
  cases ho : okAmt n
  · have e : amtText n = [] := by unfold amtText; rw [ho]; rfl
    rw [e]
    clear e
    go_enter Tryz.func55, Tryz.ntmps55
    go_wp2_with (go_at_call 47; refine (moneyValid_any _ _).mono ?_; rintro e w' ⟨rfl, rfl⟩)
    go_ret
    exact ⟨rfl, Below.refl _ _⟩
  · exact moneyText_any n w hE (okAmt_iff.1 ho).1 (okAmt_iff.1 ho).2
end Go.Proofs.YtcmmppkmkejniaaGreatDoor
namespace Go.Proofs.YtcmmppkmkejniaaGreatDoor
open Go.RowKit
set_option linter.unusedVariables false
structure SBal where
  acct : Int
  amt : Int
instance : Inhabited SBal := ⟨⟨0, 0⟩⟩
def balCells (b : SBal) : List Value := [.int .i64 b.acct, .int .i64 b.amt]
def balsCells (bs : List SBal) : List Value := bs.flatMap balCells
theorem balCells_len (b : SBal) : (balCells b).length = 2 := rfl
theorem bals_len {w : World} {B n : Nat} {A : Option Addr} {bs : List SBal} (h : Reads w B 2 A n (balsCells bs)) : bs.length = n := by
  have := h.1
  unfold balsCells at this
  rw [flat_len balCells balCells_len] at this
  omega
theorem Reads.bal_at {w : World} {B n k : Nat} {A : Option Addr} {bs : List SBal} (h : Reads w B 2 A n (balsCells bs)) (hk : k < n) :
    ∃ ad, A = some ad ∧ ad.block < B ∧ w.cell? (ad.add (k * 2)) = some (.int .i64 (bs.getD k default).acct) ∧ w.cell? ⟨(ad.add (k * 2)).block, (ad.add (k * 2)).off + 1, none⟩ = some (.int .i64 (bs.getD k default).amt) := by
  have hl := bals_len h
  obtain ⟨ad, rfl, hb, hc⟩ := h.2 (by omega)
  have hx : ∀ j, j < 2 → ∀ u, (balCells (bs.getD k default))[j]? = some u → w.cell? (ad.add (k * 2 + j)) = some u := by
    intro j hj u hu
    refine hc _ _ ?_
    unfold balsCells
    rw [flat_at balCells balCells_len (by omega) hj, hu]
  have g0 := hx 0 (by omega) _ rfl
  have g1 := hx 1 (by omega) _ rfl
  rw [← add_of_add, add_pos _ 1 (by omega)] at g1
  exact ⟨ad, rfl, hb, g0, g1⟩
/-- the sum of the totals of a range of accounts -/
def figL (bs : List SBal) (f t : Int) : Int := (bs.map fun b => if f ≤ b.acct ∧ b.acct ≤ t then b.amt else 0).sum
theorem figL_step {bs : List SBal} {k : Nat} (f t : Int) (hk : k < bs.length) : figL (bs.take (k + 1)) f t = figL (bs.take k) f t + (if f ≤ (bs.getD k default).acct ∧ (bs.getD k default).acct ≤ t then (bs.getD k default).amt else 0) := by
  unfold figL
  rw [List.take_succ_eq_append_getElem hk, List.map_append, List.sum_append]
  have e : bs.getD k default = bs[k] := by simp [List.getD, hk]
  rw [e]
  simp
def smallB (bs : List SBal) : Prop := ∀ b ∈ bs, -1125899906842624 ≤ b.amt ∧ b.amt ≤ 1125899906842624
theorem figL_bd {bs : List SBal} (f t : Int) (h : smallB bs) : ∀ k, k ≤ bs.length → -(1125899906842624 * (k : Int)) ≤ figL (bs.take k) f t ∧ figL (bs.take k) f t ≤ 1125899906842624 * (k : Int) := by
  intro k
  induction k with
  | zero => intro _; simp [figL]
  | succ k ih =>
    intro hk
    have h1 := ih (by omega)
    have e : bs.getD k default = bs[k]'(by omega) := by simp [List.getD, show k < bs.length by omega]
    have h2 := h (bs.getD k default) (by rw [e]; exact List.getElem_mem _)
    rw [figL_step f t (by omega)]
    generalize bs.getD k default = b at *
    split <;> omega
theorem smallB_at {bs : List SBal} {k : Nat} (h : smallB bs) (hk : k < bs.length) : -1125899906842624 ≤ (bs.getD k default).amt ∧ (bs.getD k default).amt ≤ 1125899906842624 := by
  have e : bs.getD k default = bs[k] := by simp [List.getD, hk]
  exact h _ (by rw [e]; exact List.getElem_mem _)
set_option maxRecDepth 100000 in
set_option maxHeartbeats 4000000 in
theorem figure_any (bs : List SBal) (A : Option Addr) (n c : Nat) (f t : Int) (B : Nat) (w : World) (hr : Reads w B 2 A n (balsCells bs)) (hB : B ≤ w.heap.size) (hn : n ≤ 200) (hs : smallB bs) :
    Calls Tryz.prog 72 #[.slice A n c, .int .i64 f, .int .i64 t] w fun e w' => e = .returned (.int .i64 (figL bs f t)) ∧ Below w.heap.size w w' := by
  have HL := Lib.hid (bals_len hr)
  have HR := Lib.hid hr
  have HS := Lib.hid hs
  clear hr hs
  go_enter Tryz.func72, Tryz.ntmps72
  go_wp2_with fail
  go_loopw [7, 12] (fun s i wr => ∃ k : Nat, k ≤ n ∧ i = .int .i64 k ∧ s = .int .i64 (figL (bs.take k) f t) ∧ Below w.heap.size w wr) (fun _ i _ => n - (intOf i).toNat)
  case atStart => exact ⟨0, Nat.zero_le _, rfl, rfl, Below.refl _ _⟩
  case round =>
    obtain ⟨k, hk, rfl, rfl, hbr⟩ := hrel
    obtain ⟨wo, rfl⟩ : ∃ wo : World, wo = wr := ⟨_, rfl⟩
    by_cases hlt : k < n
    · have k3 : decide ((k : Int) < (n : Int)) = true := by rw [decide_eq_true_eq]; omega
      obtain ⟨ad, rfl, hab, c0, c1⟩ := (HR.out.low hB (Nat.le_refl _) hbr).bal_at hlt
      have hkl : k < bs.length := by rw [HL.out]; exact hlt
      have hst := Lib.hid (figL_step f t hkl)
      have hbd := figL_bd f t HS.out k (by omega)
      have hb1 := smallB_at HS.out hkl
      generalize figL (bs.take k) f t = s at *
      generalize bs.getD k default = b at *
      obtain ⟨ac, am⟩ := b
      simp only [] at c0 c1 hb1
      have b1 : -1125899906842624000 ≤ s := by omega
      have b2 : s ≤ 1125899906842624000 := by omega
      have b3 := hb1.1
      have b4 := hb1.2
      clear hbd hb1
      by_cases h1 : f ≤ ac
      · have d1 : decide (f ≤ ac) = true := by rw [decide_eq_true_eq]; exact h1
        by_cases h2 : ac ≤ t
        · have d2 : decide (ac ≤ t) = true := by rw [decide_eq_true_eq]; exact h2
          have F : Hid (figL (bs.take (k + 1)) f t = s + am) := by show _ = _; rw [hst.out, if_pos ⟨h1, h2⟩]
          go_wp2_with fail
          go_roundw
          case rel => exact ⟨k + 1, by omega, by go_num, by rw [F.out], hbr.alloc hbr.size _⟩
          case measure => simp [intOf]; omega
        · have d2 : decide (ac ≤ t) = false := by rw [decide_eq_false_iff_not]; exact h2
          have F : Hid (figL (bs.take (k + 1)) f t = s) := by show _ = _; rw [hst.out, if_neg (fun h => h2 h.2)]; omega
          go_wp2_with fail
          go_roundw
          case rel => exact ⟨k + 1, by omega, by go_num, by rw [F.out], hbr.alloc hbr.size _⟩
          case measure => simp [intOf]; omega
      · have d1 : decide (f ≤ ac) = false := by rw [decide_eq_false_iff_not]; exact h1
        have F : Hid (figL (bs.take (k + 1)) f t = s) := by show _ = _; rw [hst.out, if_neg (fun h => h1 h.1)]; omega
        go_wp2_with fail
        go_roundw
        case rel => exact ⟨k + 1, by omega, by go_num, by rw [F.out], hbr.alloc hbr.size _⟩
        case measure => simp [intOf]; omega
    · have k3 : decide ((k : Int) < (n : Int)) = false := by rw [decide_eq_false_iff_not]; omega
      rw [List.take_of_length_le (show bs.length ≤ k by rw [HL.out]; omega)]
      go_wp2_with fail
      go_ret
      exact ⟨rfl, hbr⟩
end Go.Proofs.YtcmmppkmkejniaaGreatDoor
namespace Go.Proofs.YtcmmppkmkejniaaGreatDoor
open Go.RowKit
set_option linter.unusedVariables false
def resV (A : Option Addr) (n c : Nat) : Value := .agg #[.int .i64 0, .slice none 0 0, .slice none 0 0, .slice A n c]
def amtR (bs : List SBal) (r : SRow) : Int := if isTitle r then 0 else if r.neg then -(figL bs r.from_ r.to_) else figL bs r.from_ r.to_
theorem rtitle_any (r : SRow) (w : World) : Calls Tryz.prog 53 #[rowV r] w fun e w' => e = .returned (.bool (isTitle r)) ∧ Below w.heap.size w w' := by
  unfold isTitle rowV
  go_enter Tryz.func53, Tryz.ntmps53
  go_wp2_with fail
  go_ret
  exact ⟨rfl, (Below.refl _ _).alloc (Nat.le_refl _) _⟩
theorem figL_all {bs : List SBal} (f t : Int) (h : smallB bs) (hn : bs.length ≤ 200) : -225179981368524800 ≤ figL bs f t ∧ figL bs f t ≤ 225179981368524800 := by
  have := figL_bd f t h bs.length (Nat.le_refl _)
  rw [List.take_length] at this
  omega
set_option maxRecDepth 100000 in
set_option maxHeartbeats 4000000 in
theorem amount_any (bs : List SBal) (A : Option Addr) (n c : Nat) (r : SRow) (B : Nat) (w : World) (hr : Reads w B 2 A n (balsCells bs)) (hB : B ≤ w.heap.size) (hn : n ≤ 200) (hs : smallB bs) :
    Calls Tryz.prog 46 #[resV A n c, rowV r] w fun e w' => e = .returned (.int .i64 (amtR bs r)) ∧ Below w.heap.size w w' := by
  have hfb := figL_all r.from_ r.to_ hs (by rw [bals_len hr]; exact hn)
  obtain ⟨nm, lv, fr, to_, ng⟩ := r
  unfold rowV resV
  simp only [] at *
  have hb1 := (Below.refl w.heap.size w).alloc (Nat.le_refl _) (.cells #[.int .i64 0, .slice none 0 0, .slice none 0 0, .slice A n c] 55)
  have hb2 := hb1.alloc hb1.size (.cells #[.string ⟨nm.toArray⟩, .int .i64 lv, .int .i64 fr, .int .i64 to_, .bool ng] 39)
  have HB2 := Lib.hid hb2
  have HKR := Lib.hid ((Blk.new w 55 #[.int .i64 0, .slice none 0 0, .slice none 0 0, .slice A n c]).alloc (.cells #[.string ⟨nm.toArray⟩, .int .i64 lv, .int .i64 fr, .int .i64 to_, .bool ng] 39))
  have HKX := Lib.hid (Blk.new (w.alloc (.cells #[.int .i64 0, .slice none 0 0, .slice none 0 0, .slice A n c] 55)) 39 #[.string ⟨nm.toArray⟩, .int .i64 lv, .int .i64 fr, .int .i64 to_, .bool ng])
  have HR := Lib.hid hr
  have HS := Lib.hid hs
  clear hr hs hb1 hb2
  cases ht : isTitle ⟨nm, lv, fr, to_, ng⟩
  · have HT := Lib.hid ht
    cases ng
    · have F : Hid (amtR bs ⟨nm, lv, fr, to_, false⟩ = figL bs fr to_) := by
        show _ = _
        unfold amtR
        rw [ht]
        simp
      clear ht
      go_enter Tryz.func46, Tryz.ntmps46
      go_wp2_with fail
      refine (rtitle_any ⟨nm, lv, fr, to_, false⟩ _).mono ?_
      rintro e w2 ⟨rfl, hb3⟩
      rw [HT.out]
      have hb4 := HB2.out.trans (hb3.mono (by simp; omega))
      have c3 := (HKR.out.below hb3 (by simp; omega)).cell 3
      obtain ⟨x0, x1, x2, x3, x4⟩ := row_cells (HKX.out.below hb3 (by simp))
      simp only [List.getElem?_toArray, List.getElem?_cons_zero, List.getElem?_cons_succ, World.size_alloc] at c3 x0 x1 x2 x3 x4
      go_wp2_with fail
      refine (figure_any bs A n c fr to_ B _ (HR.out.low hB (Nat.le_refl _) hb4) (by have := hb4.size; omega) hn HS.out).mono ?_
      rintro e w5 ⟨rfl, hb5⟩
      have hk5 := row_cells ((HKX.out.below hb3 (by simp)).below hb5 (by have := hb3.size; simp at this ⊢; omega))
      obtain ⟨y0, y1, y2, y3, y4⟩ := hk5
      simp only [World.size_alloc] at y0 y1 y2 y3 y4
      generalize figL bs fr to_ = fg at *
      go_wp2_with fail
      go_ret
      exact ⟨ret_int F.out.symm, below_two hb4 hb5⟩
    · have F : Hid (amtR bs ⟨nm, lv, fr, to_, true⟩ = -(figL bs fr to_)) := by
        show _ = _
        unfold amtR
        rw [ht]
        simp
      clear ht
      go_enter Tryz.func46, Tryz.ntmps46
      go_wp2_with fail
      refine (rtitle_any ⟨nm, lv, fr, to_, true⟩ _).mono ?_
      rintro e w2 ⟨rfl, hb3⟩
      rw [HT.out]
      have hb4 := HB2.out.trans (hb3.mono (by simp; omega))
      have c3 := (HKR.out.below hb3 (by simp; omega)).cell 3
      obtain ⟨x0, x1, x2, x3, x4⟩ := row_cells (HKX.out.below hb3 (by simp))
      simp only [List.getElem?_toArray, List.getElem?_cons_zero, List.getElem?_cons_succ, World.size_alloc] at c3 x0 x1 x2 x3 x4
      go_wp2_with fail
      refine (figure_any bs A n c fr to_ B _ (HR.out.low hB (Nat.le_refl _) hb4) (by have := hb4.size; omega) hn HS.out).mono ?_
      rintro e w5 ⟨rfl, hb5⟩
      have hk5 := row_cells ((HKX.out.below hb3 (by simp)).below hb5 (by have := hb3.size; simp at this ⊢; omega))
      obtain ⟨y0, y1, y2, y3, y4⟩ := hk5
      simp only [World.size_alloc] at y0 y1 y2 y3 y4
      generalize figL bs fr to_ = fg at *
      go_wp2_with fail
      go_ret
      exact ⟨ret_int F.out.symm, below_two hb4 hb5⟩
  · have F : Hid (amtR bs ⟨nm, lv, fr, to_, ng⟩ = 0) := by show _ = _; unfold amtR; rw [ht]; rfl
    have HT := Lib.hid ht
    clear ht
    go_enter Tryz.func46, Tryz.ntmps46
    go_wp2_with fail
    refine (rtitle_any ⟨nm, lv, fr, to_, ng⟩ _).mono ?_
    rintro e w2 ⟨rfl, hb3⟩
    rw [HT.out]
    go_wp2_with fail
    go_ret
    exact ⟨ret_int F.out.symm, HB2.out.trans (hb3.mono (by simp; omega))⟩
end Go.Proofs.YtcmmppkmkejniaaGreatDoor
namespace Go.Proofs.YtcmmppkmkejniaaGreatDoor
open Go.RowKit
set_option linter.unusedVariables false
structure SLine where
  row : SRow
  amt : Int
instance : Inhabited SLine := ⟨⟨default, 0⟩⟩
def lineCells (x : SLine) : List Value := rowCells x.row ++ [.int .i64 x.amt]
def linesCells (xs : List SLine) : List Value := xs.flatMap lineCells
theorem linesCells_snoc (xs : List SLine) (x : SLine) : linesCells (xs ++ [x]) = linesCells xs ++ lineCells x := by simp [linesCells]
theorem line_one (x : SLine) : ∀ u ∈ lineCells x, u.oneCell' = true := by
  intro u hu
  unfold lineCells rowCells at hu
  simp only [List.cons_append, List.nil_append, List.mem_cons, List.not_mem_nil, or_false] at hu
  rcases hu with rfl | rfl | rfl | rfl | rfl | rfl <;> rfl
theorem info_line : (Tryz.prog.info? 102).map (fun i => (i.zero, i.size, i.bytes)) = some (some (.agg #[.string ⟨#[]⟩, .int .i64 0, .int .i64 0, .int .i64 0, .bool false, .int .i64 0]), 6, 56) := by kernel_rfl
def lnR (bs : List SBal) (r : SRow) : SLine := ⟨r, amtR bs r⟩
def mkOk (bs : List SBal) (rs : List SRow) : Bool := rs.all fun r => okAmt (amtR bs r)
def mkE (bs : List SBal) (rs : List SRow) : Int := if validR rs then (if mkOk bs rs then 0 else 2) else 1
def mkL (bs : List SBal) (rs : List SRow) : List SLine := if mkE bs rs = 0 then rs.map (lnR bs) else []
theorem mk_bad {bs : List SBal} {rs : List SRow} (h : validR rs = false) : mkE bs rs = 1 ∧ mkL bs rs = [] := by
  have : mkE bs rs = 1 := by unfold mkE; rw [h]; rfl
  exact ⟨this, by unfold mkL; rw [this]; rfl⟩
theorem mk_range {bs : List SBal} {rs : List SRow} {k : Nat} (h : validR rs = true) (hk : k < rs.length) (ha : okAmt (amtR bs (rs.getD k default)) = false) : mkE bs rs = 2 ∧ mkL bs rs = [] := by
  have h1 : mkOk bs rs = false := by
    unfold mkOk
    rw [List.all_eq_false]
    exact ⟨rs.getD k default, getD_mem' hk, by rw [ha]; simp⟩
  have : mkE bs rs = 2 := by unfold mkE; rw [if_pos h, h1]; rfl
  exact ⟨this, by unfold mkL; rw [this]; rfl⟩
theorem mk_good {bs : List SBal} {rs : List SRow} (h : validR rs = true) (ha : mkOk bs (rs.take rs.length) = true) : mkE bs rs = 0 ∧ mkL bs rs = rs.map (lnR bs) := by
  rw [List.take_length] at ha
  have : mkE bs rs = 0 := by unfold mkE; rw [if_pos h, if_pos ha]
  exact ⟨this, by unfold mkL; rw [if_pos this]⟩
theorem mkOk_step {bs : List SBal} {rs : List SRow} {k : Nat} (hk : k < rs.length) (h : mkOk bs (rs.take k) = true) (ha : okAmt (amtR bs (rs.getD k default)) = true) : mkOk bs (rs.take (k + 1)) = true := by
  unfold mkOk at h ⊢
  rw [List.take_succ_eq_append_getElem hk, List.all_append, h]
  have e : rs.getD k default = rs[k] := by simp [List.getD, hk]
  rw [e] at ha
  simp [ha]
theorem lines_step {bs : List SBal} {rs : List SRow} {k : Nat} (hk : k < rs.length) : linesCells ((rs.take (k + 1)).map (lnR bs)) = linesCells ((rs.take k).map (lnR bs)) ++ lineCells (lnR bs (rs.getD k default)) := by
  rw [List.take_succ_eq_append_getElem hk, List.map_append, List.map_cons, List.map_nil, linesCells_snoc]
  simp [List.getD, hk]
def MakeSays (bs : List SBal) (rs : List SRow) (T : TypeId) (w : World) (e : Ending) (w' : World) : Prop :=
  ∃ v, e = .returned (.tuple #[v, .int .i64 (mkE bs rs)]) ∧ w'.ownsRow w.heap.size T 6 v (mkL bs rs).length (linesCells (mkL bs rs)) ∧ Below w.heap.size w w'
theorem make_none {bs : List SBal} {rs : List SRow} {T : TypeId} {x : Int} {w w' : World} (h : mkE bs rs = x ∧ mkL bs rs = []) (hb : Below w.heap.size w w') : MakeSays bs rs T w (.returned (.tuple #[.slice none 0 0, .int .i64 x])) w' := by
  refine ⟨.slice none 0 0, by rw [h.1], ?_, hb⟩
  rw [h.2]
  exact World.ownsRow_nil _ _ _ _
theorem make_some {bs : List SBal} {rs : List SRow} {T : TypeId} {w w' : World} {v : Value} (h : mkE bs rs = 0 ∧ mkL bs rs = rs.map (lnR bs)) (hown : w'.ownsRow w.heap.size T 6 v rs.length (linesCells (rs.map (lnR bs)))) (hb : Below w.heap.size w w') : MakeSays bs rs T w (.returned (.tuple #[v, .int .i64 0])) w' := by
  refine ⟨v, by rw [h.1], ?_, hb⟩
  rw [h.2, List.length_map]
  exact hown
theorem okRow_name {b : Int} {r : SRow} (h : okRow b r = true) : r.name.length ≤ 16 := name_le (okRow_iff.1 h).1
set_option maxRecDepth 100000 in
set_option maxHeartbeats 8000000 in
theorem make_any (bs : List SBal) (rs : List SRow) (A A' : Option Addr) (n c n' c' : Nat) (B : Nat) (w : World) (hr : Reads w B 2 A n (balsCells bs)) (hr' : Reads w B 5 A' n' (rowsCells rs)) (hB : B ≤ w.heap.size) (hn : n ≤ 200) (hs : smallB bs) (hn63 : n' ≤ 9223372036854775807) (hnc : n' ≤ c') (hnm : ∀ r ∈ rs, r.name.length ≤ 3000) :
    Calls Tryz.prog 27 #[resV A n c, .slice A' n' c'] w (MakeSays bs rs 102 w) := by
  obtain ⟨i0, hi0, hz0, hz1, hz2⟩ := info_parts info_line
  unfold resV
  have hb1 := (Below.refl w.heap.size w).alloc (Nat.le_refl _) (.cells #[.int .i64 0, .slice none 0 0, .slice none 0 0, .slice A n c] 55)
  have HKR := Lib.hid (Blk.new w 55 #[.int .i64 0, .slice none 0 0, .slice none 0 0, .slice A n c])
  have HL := Lib.hid (rows_len hr')
  have HR := Lib.hid hr
  have HR' := Lib.hid hr'
  have HS := Lib.hid hs
  have HV := Lib.hid (valid_any rs A' n' c' B (w.alloc (.cells #[.int .i64 0, .slice none 0 0, .slice none 0 0, .slice A n c] 55)) (hr'.low hB (Nat.le_refl _) hb1) (by have := hb1.size; omega) hn63 hnc hnm)
  have HB1 := Lib.hid hb1
  clear hr hr' hs hnm hb1
  cases hv : validR rs
  · have F := Lib.hid (mk_bad (bs := bs) hv)
    have HVF := Lib.hid hv
    clear hv
    go_enter Tryz.func27, Tryz.ntmps27
    go_wp2_with fail
    refine HV.out.mono ?_
    rintro e w1 ⟨rfl, hb⟩
    rw [HVF.out]
    go_wp2_with fail
    go_ret2
    exact make_none F.out (below_two HB1.out hb)
  · have hn3 : n' ≤ 300 := by
      have := HL.out
      unfold validR at hv
      rw [Bool.and_eq_true, decide_eq_true_eq] at hv
      omega
    have HVF := Lib.hid hv
    clear hv
    go_enter Tryz.func27, Tryz.ntmps27
    go_wp2_with fail
    refine HV.out.mono ?_
    rintro e w1 ⟨rfl, hb⟩
    rw [HVF.out]
    have HB2 := Lib.hid (below_two HB1.out hb)
    have HK1 := Lib.hid (HKR.out.below hb (by simp))
    have hw1 : w.heap.size < w1.heap.size := by have := hb.size; simp at this; omega
    clear hb
    go_wp2_with fail
    go_loopw [6, 15] (fun v i wr => ∃ k : Nat, k ≤ n' ∧ i = .int .i64 k ∧ mkOk bs (rs.take k) = true ∧ wr.ownsRow w1.heap.size 102 6 v k (linesCells ((rs.take k).map (lnR bs))) ∧ Below w1.heap.size w1 wr) (fun _ i _ => n' - (intOf i).toNat)
    case atStart => exact ⟨0, Nat.zero_le _, rfl, rfl, World.ownsRow_nil _ _ _ _, Below.refl _ _⟩
    case round =>
      obtain ⟨k, hk, rfl, hok, hown, hbr⟩ := hrel
      obtain ⟨wo, rfl⟩ : ∃ wo : World, wo = wr := ⟨_, rfl⟩
      have HOK := Lib.hid hok
      have HO := Lib.hid hown
      clear hok hown
      have hbw := below_two HB2.out hbr
      by_cases hlt : k < n'
      · have k3 : decide ((k : Int) < (n' : Int)) = true := by rw [decide_eq_true_eq]; omega
        have hkl : k < rs.length := by rw [HL.out]; exact hlt
        obtain ⟨ad, rfl, hab, c0, c1, c2, c3, c4⟩ := (HR'.out.low hB (Nat.le_refl _) hbw).row_at hlt
        have HMR : Hid (okAmt (amtR bs (rs.getD k default)) = false → mkE bs rs = 2 ∧ mkL bs rs = []) := fun h => mk_range HVF.out hkl h
        have HMS : Hid (okAmt (amtR bs (rs.getD k default)) = true → mkOk bs (rs.take (k + 1)) = true) := fun h => mkOk_step hkl HOK.out h
        have HLS := Lib.hid (lines_step (bs := bs) hkl)
        generalize rs.getD k default = r at *
        have hbo := hbw.alloc hbw.size (.cells (#[.string ⟨r.name.toArray⟩, .int .i64 r.level, .int .i64 r.from_, .int .i64 r.to_, .bool r.neg] : Array Value) 39)
        have HA := Lib.hid (amount_any bs A n c r B (wo.alloc (.cells (#[.string ⟨r.name.toArray⟩, .int .i64 r.level, .int .i64 r.from_, .int .i64 r.to_, .bool r.neg] : Array Value) 39)) (HR.out.low hB (Nat.le_refl _) hbo) (by have := hbo.size; omega) hn HS.out)
        have HBO := Lib.hid hbo
        have HKW := Lib.hid (HK1.out.below hbr hw1)
        have HKX := Lib.hid (Blk.new wo 39 #[.string ⟨r.name.toArray⟩, .int .i64 r.level, .int .i64 r.from_, .int .i64 r.to_, .bool r.neg])
        have HOA := Lib.hid (HO.out.alloc (.cells (#[.string ⟨r.name.toArray⟩, .int .i64 r.level, .int .i64 r.from_, .int .i64 r.to_, .bool r.neg] : Array Value) 39))
        have HB1w := Lib.hid (hbr.alloc hbr.size (.cells (#[.string ⟨r.name.toArray⟩, .int .i64 r.level, .int .i64 r.from_, .int .i64 r.to_, .bool r.neg] : Array Value) 39))
        have HLO := Lib.hid (line_one (lnR bs r))
        have q0 := HKW.out.cell 0
        have q1 := HKW.out.cell 1
        have q2 := HKW.out.cell 2
        have q3 := HKW.out.cell 3
        simp only [List.getElem?_toArray, List.getElem?_cons_zero, List.getElem?_cons_succ] at q0 q1 q2 q3
        have hw0 : w.heap.size < wo.heap.size := by have := hbr.size; omega
        have elr : lnR bs r = ⟨r, amtR bs r⟩ := rfl
        rw [elr] at HLS HLO
        clear elr
        generalize amtR bs r = am at *
        obtain ⟨nm, lv, fr, to_, ng⟩ := r
        clear hbo hbw
        go_wp2_with fail
        refine HA.out.mono ?_
        rintro e w2 ⟨rfl, hb2⟩
        obtain ⟨x0, x1, x2, x3, x4⟩ := row_cells (HKX.out.below hb2 (by simp))
        have hb3 := below_two HBO.out hb2
        have hb4 := below_two HB1w.out hb2
        have HO2 := Lib.hid (own_below HOA.out hb2)
        clear q0 q1 q2 q3 c0 c1 c2 c3 c4 hb2
        go_wp2_with fail
        refine (moneyValid_any am _).mono ?_
        rintro e wx ⟨rfl, rfl⟩
        cases ha : okAmt am
        · have F := Lib.hid (HMR.out ha)
          clear ha HMR HMS
          go_wp2_with fail
          go_ret2
          exact make_none F.out hb3
        · have F := Lib.hid (HMS.out ha)
          clear ha HMR HMS
          go_wp2_with (at_builtin; refine wpList_append_any _ rfl (.tmp 25) (.tmp 29) _ rfl w1.heap.size 102 i0 _ 6 56 Tryz.underlying70 hi0 hz0 hz1 hz2 rfl (by omega) _ k (linesCells ((rs.take k).map (lnR bs))) rfl (HO2.out.alloc _) (w2.heap.size + 1) (some ⟨w2.heap.size, 0, none⟩) 1 1 (lineCells ⟨⟨nm, lv, fr, to_, ng⟩, am⟩) rfl (reads_one w2 #[.string ⟨nm.toArray⟩, .int .i64 lv, .int .i64 fr, .int .i64 to_, .bool ng, .int .i64 am] 102 6 rfl) HLO.out (by simp only [maxLen]; omega) (by omega) (by simp only [World.size_alloc]; have := hb4.size; omega) ?_; intro v4 w4 hown4 hg4 hat4)
          go_wp2_with fail
          refine ⟨⟨k + 1, by omega, by go_num, F.out, by rw [HLS.out]; exact hown4, ?_⟩, by simp [intOf]; omega⟩
          refine (hb4.alloc hb4.size _).grown hg4 (by simp only [World.size_alloc]; have := hb4.size; omega) (own_base HO2.out)
      · have k3 : decide ((k : Int) < (n' : Int)) = false := by rw [decide_eq_false_iff_not]; omega
        have hkn : k = rs.length := by rw [HL.out]; omega
        have hok := HOK.out
        have hown := HO.out
        rw [hkn] at hok hown
        rw [List.take_length] at hown
        have F := Lib.hid (mk_good HVF.out hok)
        have HO1 := Lib.hid hown
        clear hok hown HO HOK hkn
        go_wp2_with fail
        go_ret2
        exact make_some F.out (own_mono HO1.out (by omega)) hbw
end Go.Proofs.YtcmmppkmkejniaaGreatDoor
namespace Go.Proofs.YtcmmppkmkejniaaGreatDoor
open Go.RowKit
set_option linter.unusedVariables false
theorem lineCells_len (x : SLine) : (lineCells x).length = 6 := rfl
theorem lines_len {w : World} {B n : Nat} {A : Option Addr} {xs : List SLine} (h : Reads w B 6 A n (linesCells xs)) : xs.length = n := by
  have := h.1
  unfold linesCells at this
  rw [flat_len lineCells lineCells_len] at this
  omega
theorem Reads.line_at {w : World} {B n k : Nat} {A : Option Addr} {xs : List SLine} (h : Reads w B 6 A n (linesCells xs)) (hk : k < n) :
    ∃ ad, A = some ad ∧ ad.block < B ∧ w.cell? (ad.add (k * 6)) = some (.string ⟨(xs.getD k default).row.name.toArray⟩) ∧ w.cell? ⟨(ad.add (k * 6)).block, (ad.add (k * 6)).off + 1, none⟩ = some (.int .i64 (xs.getD k default).row.level) ∧
      w.cell? ⟨(ad.add (k * 6)).block, (ad.add (k * 6)).off + 2, none⟩ = some (.int .i64 (xs.getD k default).row.from_) ∧ w.cell? ⟨(ad.add (k * 6)).block, (ad.add (k * 6)).off + 3, none⟩ = some (.int .i64 (xs.getD k default).row.to_) ∧
      w.cell? ⟨(ad.add (k * 6)).block, (ad.add (k * 6)).off + 4, none⟩ = some (.bool (xs.getD k default).row.neg) ∧ w.cell? ⟨(ad.add (k * 6)).block, (ad.add (k * 6)).off + 5, none⟩ = some (.int .i64 (xs.getD k default).amt) := by
  have hl := lines_len h
  obtain ⟨ad, rfl, hb, hc⟩ := h.2 (by omega)
  have hx : ∀ j, j < 6 → ∀ u, (lineCells (xs.getD k default))[j]? = some u → w.cell? (ad.add (k * 6 + j)) = some u := by
    intro j hj u hu
    refine hc _ _ ?_
    unfold linesCells
    rw [flat_at lineCells lineCells_len (by omega) hj, hu]
  have g0 := hx 0 (by omega) _ rfl
  have g1 := hx 1 (by omega) _ rfl
  have g2 := hx 2 (by omega) _ rfl
  have g3 := hx 3 (by omega) _ rfl
  have g4 := hx 4 (by omega) _ rfl
  have g5 := hx 5 (by omega) _ rfl
  rw [← add_of_add, add_pos _ 1 (by omega)] at g1
  rw [← add_of_add, add_pos _ 2 (by omega)] at g2
  rw [← add_of_add, add_pos _ 3 (by omega)] at g3
  rw [← add_of_add, add_pos _ 4 (by omega)] at g4
  rw [← add_of_add, add_pos _ 5 (by omega)] at g5
  exact ⟨ad, rfl, hb, g0, g1, g2, g3, g4, g5⟩
end Go.Proofs.YtcmmppkmkejniaaGreatDoor
namespace Go.Proofs.YtcmmppkmkejniaaGreatDoor
open Go.RowKit
set_option linter.unusedVariables false
theorem okRow_bds {b : Int} {r : SRow} (h : okRow b r = true) : r.name.length ≤ 16 ∧ (0 ≤ r.level ∧ r.level ≤ 9) ∧ (0 ≤ r.from_ ∧ r.from_ ≤ 99999) ∧ (0 ≤ r.to_ ∧ r.to_ ≤ 99999) := by
  obtain ⟨h1, h2, h3, h4⟩ := okRow_iff.1 h
  refine ⟨name_le h1, by omega, ?_, ?_⟩
  · by_cases hl : r.to_ < r.from_
    · have := h3 hl; omega
    · have := h4 (by omega); omega
  · by_cases hl : r.to_ < r.from_
    · have := h3 hl; omega
    · have := h4 (by omega); omega
theorem validR_row {rs : List SRow} {k : Nat} (h : validR rs = true) (hk : k < rs.length) : okRow (lvl rs k) (rs.getD k default) = true := by
  unfold validR at h
  rw [Bool.and_eq_true] at h
  exact validF_lvl.1 h.1 k hk
theorem validR_len {rs : List SRow} (h : validR rs = true) : rs.length ≤ 300 := by
  unfold validR at h
  rw [Bool.and_eq_true, decide_eq_true_eq] at h
  exact h.2
def fewB (rs : List SRow) : Bool := rs.all (fun r => decide (r.name.length ≤ 60)) && decide (rs.length ≤ 310)
theorem fewB_iff {rs : List SRow} : fewB rs = true ↔ (∀ r ∈ rs, r.name.length ≤ 60) ∧ rs.length ≤ 310 := by
  unfold fewB; simp
end Go.Proofs.YtcmmppkmkejniaaGreatDoor
namespace Go.Proofs.YtcmmppkmkejniaaGreatDoor
set_option linter.unusedVariables false
def capL (x : SLine) : List UInt8 := List.replicate (2 * x.row.level.toNat) 32 ++ x.row.name
def widL (x : SLine) : Nat := if isTitle x.row then 0 else (capL x).length + 1 + (amtText x.amt).length
def longL (xs : List SLine) : Nat := xs.foldl (fun m x => max m (widL x)) 0
def oneL (W : Nat) (x : SLine) : List UInt8 := capL x ++ (if isTitle x.row then [] else List.replicate (W - widL x + 1) 32 ++ amtText x.amt) ++ [10]
def linesT (W : Nat) (xs : List SLine) : List UInt8 := xs.flatMap (oneL W)
def okLn (x : SLine) : Bool := okAmt x.amt && (!isTitle x.row || x.amt == 0)
def rowsOf (xs : List SLine) : List SRow := xs.map (·.row)
def validL (xs : List SLine) : Bool := validR (rowsOf xs) && xs.all okLn
def rtS (xs : List SLine) : List UInt8 := if validL xs then linesT (longL xs) xs else []
def rtE (xs : List SLine) : Int := if validL xs then 0 else 1
theorem rt_no {xs : List SLine} (h : validL xs = false) : rtS xs = [] ∧ rtE xs = 1 := by
  unfold rtS rtE; rw [h]; exact ⟨rfl, rfl⟩
theorem rt_yes {xs : List SLine} (h : validL xs = true) : rtS xs = linesT (longL xs) xs ∧ rtE xs = 0 := by
  unfold rtS rtE; rw [h]; exact ⟨rfl, rfl⟩
theorem rowsOf_len (xs : List SLine) : (rowsOf xs).length = xs.length := by simp [rowsOf]
theorem rowsOf_getD (xs : List SLine) (k : Nat) : (rowsOf xs).getD k default = (xs.getD k default).row := by
  unfold rowsOf
  rcases Nat.lt_or_ge k xs.length with h | h
  · simp [List.getD, h]
  · simp [List.getD, List.getElem?_eq_none h]; rfl
theorem getD_memL {xs : List SLine} {k : Nat} (h : k < xs.length) : xs.getD k default ∈ xs := by
  have : xs.getD k default = xs[k] := by simp [List.getD, h]
  rw [this]; exact List.getElem_mem h
theorem validL_iff {xs : List SLine} : validL xs = true ↔ validR (rowsOf xs) = true ∧ xs.all okLn = true := by
  unfold validL; rw [Bool.and_eq_true]
theorem okLn_iff {x : SLine} : okLn x = true ↔ okAmt x.amt = true ∧ (isTitle x.row = true → x.amt = 0) := by
  unfold okLn
  rw [Bool.and_eq_true, Bool.or_eq_true, Bool.not_eq_true', beq_iff_eq]
  constructor
  · rintro ⟨h1, h2 | h2⟩
    · exact ⟨h1, fun h => by rw [h2] at h; cases h⟩
    · exact ⟨h1, fun _ => h2⟩
  · rintro ⟨h1, h2⟩
    refine ⟨h1, ?_⟩
    cases h : isTitle x.row
    · exact .inl rfl
    · exact .inr (h2 h)
theorem validL_len {xs : List SLine} (h : validL xs = true) : xs.length ≤ 300 := by
  have := validR_len (validL_iff.1 h).1
  rwa [rowsOf_len] at this
theorem validL_at {xs : List SLine} {k : Nat} (h : validL xs = true) (hk : k < xs.length) :
    (xs.getD k default).row.name.length ≤ 16 ∧ (0 ≤ (xs.getD k default).row.level ∧ (xs.getD k default).row.level ≤ 9) ∧ okLn (xs.getD k default) = true := by
  obtain ⟨h1, h2⟩ := validL_iff.1 h
  have h3 := okRow_bds (validR_row h1 (k := k) (by rw [rowsOf_len]; exact hk))
  rw [rowsOf_getD] at h3
  exact ⟨h3.1, h3.2.1, List.all_eq_true.1 h2 _ (getD_memL hk)⟩
theorem amtText_len (n : Int) : (amtText n).length ≤ 26 := by
  unfold amtText
  cases h : okAmt n
  · simp
  · have hb := okAmt_iff.1 h
    have h2 := dec_len_le (m := n.natAbs / 100) (by omega)
    rw [if_pos rfl]
    unfold amtBody
    split <;> simp [two] <;> omega
theorem amtText_pos_len {n : Int} (h : okAmt n = true) : 1 ≤ (amtText n).length := by
  unfold amtText
  rw [if_pos h]
  split <;> simp [amtBody]; omega
theorem capL_len (x : SLine) : (capL x).length = 2 * x.row.level.toNat + x.row.name.length := by simp [capL]
theorem widL_title {x : SLine} (h : isTitle x.row = true) : widL x = 0 := by unfold widL; rw [if_pos h]
theorem widL_row {x : SLine} (h : isTitle x.row = false) : widL x = (capL x).length + 1 + (amtText x.amt).length := by unfold widL; rw [h]; rfl
theorem widL_le {x : SLine} (h1 : x.row.name.length ≤ 16) (h2 : x.row.level ≤ 9) : widL x ≤ 61 := by
  have h3 := amtText_len x.amt
  have h4 := capL_len x
  unfold widL
  split <;> omega
theorem longL_step {xs : List SLine} {k : Nat} (hk : k < xs.length) : longL (xs.take (k + 1)) = max (longL (xs.take k)) (widL (xs.getD k default)) := by
  unfold longL
  rw [List.take_succ_eq_append_getElem hk, List.foldl_append]
  have e : xs.getD k default = xs[k] := by simp [List.getD, hk]
  rw [e]; rfl
theorem longL_ge {xs : List SLine} {k : Nat} (hk : k < xs.length) : widL (xs.getD k default) ≤ longL xs := by
  have key : ∀ j, k < j → j ≤ xs.length → widL (xs.getD k default) ≤ longL (xs.take j) := by
    intro j
    induction j with
    | zero => intro h; omega
    | succ j ih =>
      intro h1 h2
      rw [longL_step (by omega)]
      by_cases hj : k = j
      · subst hj; exact Nat.le_max_right _ _
      · exact Nat.le_trans (ih (by omega) (by omega)) (Nat.le_max_left _ _)
  have := key xs.length hk (Nat.le_refl _)
  rwa [List.take_length] at this
theorem longL_bd {xs : List SLine} (h : validL xs = true) : ∀ k, k ≤ xs.length → longL (xs.take k) ≤ 61 := by
  intro k
  induction k with
  | zero => intro _; simp [longL]
  | succ k ih =>
    intro hk
    have h0 := validL_at h (show k < xs.length by omega)
    have h1 := widL_le h0.1 h0.2.1.2
    have h2 := ih (by omega)
    rw [longL_step (by omega)]
    omega
theorem longL_all {xs : List SLine} (h : validL xs = true) : longL xs ≤ 61 := by
  have := longL_bd h xs.length (Nat.le_refl _)
  rwa [List.take_length] at this
theorem oneL_len {W : Nat} {x : SLine} (hW : W ≤ 61) (h1 : x.row.name.length ≤ 16) (h2 : x.row.level ≤ 9) : (oneL W x).length ≤ 130 := by
  have h3 := amtText_len x.amt
  have h4 := capL_len x
  unfold oneL
  rw [List.length_append, List.length_append]
  split
  · simp; omega
  · rw [List.length_append, List.length_replicate]; simp; omega
theorem linesT_step {W : Nat} {xs : List SLine} {k : Nat} (hk : k < xs.length) : linesT W (xs.take (k + 1)) = linesT W (xs.take k) ++ oneL W (xs.getD k default) := by
  unfold linesT
  rw [List.take_succ_eq_append_getElem hk, List.flatMap_append]
  have e : xs.getD k default = xs[k] := by simp [List.getD, hk]
  rw [e]; simp
theorem linesT_len {W : Nat} {xs : List SLine} (hW : W ≤ 61) (h : validL xs = true) : ∀ k, k ≤ xs.length → (linesT W (xs.take k)).length ≤ k * 130 := by
  intro k
  induction k with
  | zero => intro _; simp [linesT]
  | succ k ih =>
    intro hk
    have h0 := validL_at h (show k < xs.length by omega)
    have h1 := oneL_len (W := W) hW h0.1 h0.2.1.2
    have h2 := ih (by omega)
    rw [linesT_step (by omega), List.length_append]
    omega
theorem okLn_no {xs : List SLine} {k : Nat} (hk : k < xs.length) (h : okLn (xs.getD k default) = false) : xs.all okLn = false := by
  rw [List.all_eq_false]
  exact ⟨xs.getD k default, getD_memL hk, by rw [h]; simp⟩
theorem okLn_step {xs : List SLine} {k : Nat} (hk : k < xs.length) (h : (xs.take k).all okLn = true) (h' : okLn (xs.getD k default) = true) : (xs.take (k + 1)).all okLn = true := by
  rw [List.take_succ_eq_append_getElem hk, List.all_append, h]
  have e : xs.getD k default = xs[k] := by simp [List.getD, hk]
  rw [e] at h'
  simp [h']
theorem rowsCells_step {xs : List SLine} {k : Nat} (hk : k < xs.length) : rowsCells (rowsOf (xs.take (k + 1))) = rowsCells (rowsOf (xs.take k)) ++ rowCells (xs.getD k default).row := by
  unfold rowsOf
  rw [List.take_succ_eq_append_getElem hk, List.map_append, List.map_cons, List.map_nil, rowsCells_snoc]
  simp [List.getD, hk]
theorem row_one (r : SRow) : ∀ u ∈ rowCells r, u.oneCell' = true := by
  intro u hu
  unfold rowCells at hu
  simp only [List.mem_cons, List.not_mem_nil, or_false] at hu
  rcases hu with rfl | rfl | rfl | rfl | rfl <;> rfl
end Go.Proofs.YtcmmppkmkejniaaGreatDoor
namespace Go.Proofs.YtcmmppkmkejniaaGreatDoor
open Go.RowKit
set_option linter.unusedVariables false
theorem info_int : (Tryz.prog.info? 3).map (fun i => (i.zero, i.size, i.bytes)) = some (some (.int .i64 0), 1, 8) := by kernel_rfl
def runG {α : Type} (p : α → Bool) : List α → Nat
  | [] => 0
  | c :: r => if p c then runG p r + 1 else 0
theorem runG_eq {α : Type} {p : α → Bool} (d : α) : ∀ {l : List α} {k : Nat}, k ≤ l.length → (∀ j, j < k → p (l.getD j d) = true) → (k < l.length → p (l.getD k d) = false) → runG p l = k := by
  intro l
  induction l with
  | nil => intro k h _ _; simp at h; simp [runG, h]
  | cons x r ih =>
    intro k hk ha hs
    cases k with
    | zero =>
      have := hs (by simp)
      simp at this
      simp [runG, this]
    | succ k =>
      have hx : p x = true := by simpa using ha 0 (by omega)
      simp only [runG, if_pos hx]
      have := ih (k := k) (by simpa using hk) (fun j hj => by simpa using ha (j + 1) (by omega)) (fun h => by simpa using hs (by simpa using h))
      omega
theorem runG_le {α : Type} (p : α → Bool) : ∀ l : List α, runG p l ≤ l.length := by
  intro l
  induction l with
  | nil => simp [runG]
  | cons x r ih => simp only [runG, List.length_cons]; split <;> omega
theorem runG_all {α : Type} {p : α → Bool} (d : α) : ∀ {l : List α} {j : Nat}, j < runG p l → p (l.getD j d) = true := by
  intro l
  induction l with
  | nil => intro j h; simp [runG] at h
  | cons x r ih =>
    intro j h
    simp only [runG] at h
    split at h
    · rename_i hx
      cases j with
      | zero => simpa using hx
      | succ j => simpa using ih (j := j) (by omega)
    · omega
theorem runG_ge {α : Type} {p : α → Bool} (d : α) : ∀ {l : List α} {k : Nat}, k ≤ l.length → (∀ j, j < k → p (l.getD j d) = true) → k ≤ runG p l := by
  intro l
  induction l with
  | nil => intro k h _; simp at h; omega
  | cons x r ih =>
    intro k hk ha
    cases k with
    | zero => omega
    | succ k =>
      have hx : p x = true := by simpa using ha 0 (by omega)
      simp only [runG, if_pos hx]
      have := ih (k := k) (by simpa using hk) (fun j hj => by simpa using ha (j + 1) (by omega))
      omega
def lev (rs : List SRow) (j : Nat) : Int := (rs.getD j default).level
/-- how many rows lie under the row q -/
def unN (rs : List SRow) (q : Nat) : Nat := runG (fun r => decide (lev rs q < r.level)) (rs.drop (q + 1))
theorem drop_lev {rs : List SRow} {q j : Nat} : ((rs.drop (q + 1)).getD j default).level = lev rs (q + 1 + j) := by
  unfold lev; simp [List.getD]
theorem unN_eq {rs : List SRow} {q k : Nat} (h1 : q + 1 ≤ k) (h2 : k ≤ rs.length) (ha : ∀ j, q < j → j < k → lev rs q < lev rs j) (hs : k < rs.length → ¬ lev rs q < lev rs k) : unN rs q = k - (q + 1) := by
  unfold unN
  refine runG_eq default (by rw [List.length_drop]; omega) (fun j hj => ?_) (fun h => ?_)
  · rw [decide_eq_true_eq, drop_lev]; exact ha _ (by omega) (by omega)
  · rw [decide_eq_false_iff_not, drop_lev, show q + 1 + (k - (q + 1)) = k by omega]
    exact hs (by rw [List.length_drop] at h; omega)
theorem unN_le (rs : List SRow) (q : Nat) : unN rs q ≤ rs.length - (q + 1) := by
  have := runG_le (fun r => decide (lev rs q < r.level)) (rs.drop (q + 1))
  rwa [List.length_drop] at this
theorem unN_all {rs : List SRow} {q j : Nat} (h : j < unN rs q) : lev rs q < lev rs (q + 1 + j) := by
  have := runG_all default h
  rw [decide_eq_true_eq, drop_lev] at this
  exact this
/-- what lies under a row that lies under q lies under q -/
theorem unN_under {rs : List SRow} {q j : Nat} (h : j < unN rs q) : q + 1 + j + unN rs (q + 1 + j) ≤ q + unN rs q := by
  have h0 := unN_all h
  have hl := unN_le rs q
  have hl2 := unN_le rs (q + 1 + j)
  have hge : j + 1 + unN rs (q + 1 + j) ≤ unN rs q := by
    refine runG_ge default ?_ (fun i hi => ?_)
    · rw [List.length_drop]; omega
    · rw [decide_eq_true_eq, drop_lev]
      by_cases c1 : i < j
      · exact unN_all (by omega)
      · by_cases c2 : i = j
        · subst c2; exact h0
        · have := unN_all (rs := rs) (q := q + 1 + j) (j := i - (j + 1)) (by omega)
          rw [show q + 1 + j + 1 + (i - (j + 1)) = q + 1 + i by omega] at this
          omega
  omega
def unList (q m : Nat) : List Int := (List.range m).map fun j => ((q + 1 + j : Nat) : Int)
theorem unList_len (q m : Nat) : (unList q m).length = m := by simp [unList]
theorem unList_step {q k : Nat} (h : q + 1 ≤ k) : unList q (k + 1 - (q + 1)) = unList q (k - (q + 1)) ++ [(k : Int)] := by
  unfold unList
  rw [show k + 1 - (q + 1) = (k - (q + 1)) + 1 by omega, List.range_succ, List.map_append]
  simp only [List.map_cons, List.map_nil]
  congr 2
  omega
theorem unList_getD {q m k : Nat} (h : k < m) : (unList q m).getD k 0 = ((q + 1 + k : Nat) : Int) := by
  unfold unList
  simp [List.getD, h]
def unE (rs : List SRow) (i : Int) : Int := if validR rs then (if decide (i < 0) || decide ((rs.length : Int) ≤ i) then 2 else 0) else 1
def unM (rs : List SRow) (i : Int) : Nat := if unE rs i = 0 then unN rs i.toNat else 0
theorem unE_bad {rs : List SRow} {i : Int} (h : validR rs = false) : unE rs i = 1 ∧ unM rs i = 0 := by
  have : unE rs i = 1 := by unfold unE; rw [h]; rfl
  exact ⟨this, by unfold unM; rw [this]; rfl⟩
theorem unE_out {rs : List SRow} {i : Int} (h : validR rs = true) (hi : i < 0 ∨ (rs.length : Int) ≤ i) : unE rs i = 2 ∧ unM rs i = 0 := by
  have : unE rs i = 2 := by
    unfold unE
    rw [if_pos h, if_pos]
    rcases hi with hi | hi
    · rw [decide_eq_true hi]; rfl
    · rw [decide_eq_true hi, Bool.or_true]
  exact ⟨this, by unfold unM; rw [this]; rfl⟩
theorem unE_ok {rs : List SRow} {q : Nat} (h : validR rs = true) (hq : q < rs.length) : unE rs q = 0 ∧ unM rs q = unN rs q := by
  have : unE rs q = 0 := by
    unfold unE
    rw [if_pos h, decide_eq_false (show ¬ (q : Int) < 0 by omega), decide_eq_false (show ¬ (rs.length : Int) ≤ q by omega)]
    rfl
  exact ⟨this, by unfold unM; rw [this, if_pos rfl]; rfl⟩
def UnderSays (rs : List SRow) (i : Int) (w : World) (e : Ending) (w' : World) : Prop :=
  ∃ v, e = .returned (.tuple #[v, .int .i64 (unE rs i)]) ∧ w'.ownsRow w.heap.size 3 1 v (unM rs i) ((unList i.toNat (unM rs i)).map (Value.int .i64)) ∧ Below w.heap.size w w'
theorem under_none {rs : List SRow} {i x : Int} {w w' : World} (h : unE rs i = x ∧ unM rs i = 0) (hb : Below w.heap.size w w') : UnderSays rs i w (.returned (.tuple #[.slice none 0 0, .int .i64 x])) w' := by
  refine ⟨.slice none 0 0, by rw [h.1], ?_, hb⟩
  rw [h.2]
  exact World.ownsRow_nil _ _ _ _
theorem under_some {rs : List SRow} {q m : Nat} {w w' : World} {v : Value} (h : unE rs q = 0 ∧ unM rs q = unN rs q) (hm : unN rs q = m) (hown : w'.ownsRow w.heap.size 3 1 v m ((unList q m).map (Value.int .i64))) (hb : Below w.heap.size w w') : UnderSays rs q w (.returned (.tuple #[v, .int .i64 0])) w' := by
  refine ⟨v, by rw [h.1], ?_, hb⟩
  rw [h.2, hm]
  exact hown
theorem ints_one (zs : List Int) : ∀ u ∈ zs.map (Value.int .i64), u.oneCell' = true := by
  intro u hu
  obtain ⟨z, _, rfl⟩ := List.mem_map.1 hu
  rfl
theorem tup_v {v : Value} {x y : Int} (h : x = y) : Ending.returned (.tuple #[v, .int .i64 x]) = .returned (.tuple #[v, .int .i64 y]) := by rw [h]
set_option maxRecDepth 100000 in
set_option maxHeartbeats 4000000 in
theorem under_any (rs : List SRow) (A : Option Addr) (n c : Nat) (i : Int) (B : Nat) (w : World) (hr : Reads w B 5 A n (rowsCells rs)) (hB : B ≤ w.heap.size) (hn63 : n ≤ 9223372036854775807) (hnc : n ≤ c) (hnm : ∀ r ∈ rs, r.name.length ≤ 3000) :
    Calls Tryz.prog 57 #[.slice A n c, .int .i64 i] w (UnderSays rs i w) := by
  obtain ⟨i0, hi0, hz0, hz1, hz2⟩ := info_parts info_int
  have HL := Lib.hid (rows_len hr)
  have HR := Lib.hid hr
  have HV := Lib.hid (valid_any rs A n c B w hr hB hn63 hnc hnm)
  clear hr hnm
  cases hv : validR rs
  · have F := Lib.hid (unE_bad (i := i) hv)
    have HVF := Lib.hid hv
    clear hv
    go_enter Tryz.func57, Tryz.ntmps57
    go_wp2_with fail
    refine HV.out.mono ?_
    rintro e w1 ⟨rfl, hb⟩
    rw [HVF.out]
    go_wp2_with fail
    go_ret2
    exact under_none F.out hb
  by_cases hi0' : i < 0
  · have F := Lib.hid (unE_out hv (.inl hi0'))
    have HVF := Lib.hid hv
    have d1 : decide (i < 0) = true := by rw [decide_eq_true_eq]; exact hi0'
    clear hv
    go_enter Tryz.func57, Tryz.ntmps57
    go_wp2_with fail
    refine HV.out.mono ?_
    rintro e w1 ⟨rfl, hb⟩
    rw [HVF.out]
    go_wp2_with fail
    go_ret2
    exact under_none F.out hb
  have d1 : decide (i < 0) = false := by rw [decide_eq_false_iff_not]; exact hi0'
  by_cases hin : (n : Int) ≤ i
  · have F := Lib.hid (unE_out hv (.inr (by rw [HL.out]; exact hin)))
    have HVF := Lib.hid hv
    have d2 : decide ((n : Int) ≤ i) = true := by rw [decide_eq_true_eq]; exact hin
    clear hv
    go_enter Tryz.func57, Tryz.ntmps57
    go_wp2_with fail
    refine HV.out.mono ?_
    rintro e w1 ⟨rfl, hb⟩
    rw [HVF.out]
    go_wp2_with fail
    go_ret2
    exact under_none F.out hb
  obtain ⟨q, rfl⟩ : ∃ q : Nat, i = q := ⟨i.toNat, by omega⟩
  have d2 : decide ((n : Int) ≤ (q : Int)) = false := by rw [decide_eq_false_iff_not]; exact hin
  have d2' : decide (n ≤ q) = false := by rw [decide_eq_false_iff_not]; omega
  have hq : q < n := by omega
  have hn3 : n ≤ 300 := by have := validR_len hv; have := HL.out; omega
  have F := Lib.hid (unE_ok hv (show q < rs.length by rw [HL.out]; exact hq))
  have HVF := Lib.hid hv
  clear hv hi0' hin
  go_enter Tryz.func57, Tryz.ntmps57
  go_wp2_with fail
  refine HV.out.mono ?_
  rintro e w1 ⟨rfl, hb⟩
  rw [HVF.out]
  have HB1 := Lib.hid hb
  clear hb
  go_wp2_with fail
  go_loopw [6, 7] (fun v i wr => ∃ k : Nat, q + 1 ≤ k ∧ k ≤ n ∧ i = .int .i64 k ∧ (∀ j, q < j → j < k → lev rs q < lev rs j) ∧ wr.ownsRow w.heap.size 3 1 v (k - (q + 1)) ((unList q (k - (q + 1))).map (Value.int .i64)) ∧ Below w.heap.size w wr) (fun _ i _ => n - (intOf i).toNat)
  case atStart => exact ⟨q + 1, Nat.le_refl _, hq, by go_num, fun j h1 h2 => by omega, by rw [Nat.sub_self]; exact World.ownsRow_nil _ _ _ _, HB1.out⟩
  case round =>
    obtain ⟨k, hk1, hk2, rfl, hal, hown, hbr⟩ := hrel
    obtain ⟨wo, rfl⟩ : ∃ wo : World, wo = wr := ⟨_, rfl⟩
    have HAL := Lib.hid hal
    have HO := Lib.hid hown
    clear hal hown
    by_cases hlt : k < n
    · have k3 : decide ((k : Int) < (n : Int)) = true := by rw [decide_eq_true_eq]; omega
      have hrw := HR.out.low hB (Nat.le_refl _) hbr
      obtain ⟨ad, rfl, hab, _, c1, _, _, _⟩ := hrw.row_at hlt
      obtain ⟨ad', e', hab', _, e1, _, _, _⟩ := hrw.row_at hq
      injection e' with e'
      subst e'
      rw [show (rs.getD k default).level = lev rs k from rfl] at c1
      rw [show (rs.getD q default).level = lev rs q from rfl] at e1
      have b1 : (k : Int) < (n : Int) := by omega
      have b2 : (q : Int) < (n : Int) := by omega
      have b3 : (0 : Int) ≤ (k : Int) := by omega
      have b4 : (0 : Int) ≤ (q : Int) := by omega
      clear hrw
      by_cases hgt : lev rs q < lev rs k
      · have d3 : decide (lev rs q < lev rs k) = true := by rw [decide_eq_true_eq]; exact hgt
        have G : Hid (∀ j, q < j → j < k + 1 → lev rs q < lev rs j) := by
          show ∀ _, _
          intro j h1 h2
          by_cases hj : j = k
          · rw [hj]; exact hgt
          · exact HAL.out j h1 (by omega)
        have US := Lib.hid (unList_step hk1)
        clear hgt
        generalize lev rs q = x at *
        generalize lev rs k = y at *
        go_wp2_with fail
        go_quiet (fail)
        have hbq := below_drewN hbr nq
        have hoq : (wo.drewN nq).ownsRow w.heap.size 3 1 _ (k - (q + 1)) ((unList q (k - (q + 1))).map (Value.int .i64)) := own_below HO.out (below_drewN (Below.refl _ _) nq)
        have HOQ := Lib.hid hoq
        clear hoq hbr c1 e1
        generalize wo.drewN nq = wz at *
        go_wp2_with (at_builtin; refine wpList_append_any _ rfl (.tmp 42) (.tmp 44) _ rfl w.heap.size 3 i0 _ 1 8 Tryz.underlying49 hi0 hz0 hz1 hz2 rfl (by omega) _ (k - (q + 1)) _ rfl (HOQ.out.alloc _) (wz.heap.size + 1) (some ⟨wz.heap.size, 0, none⟩) 1 1 [.int .i64 k] rfl (reads_lit wz #[.int .i64 k] _) (ints_one [(k : Int)]) (by simp only [maxLen]; omega) (by omega) (by simp only [World.size_alloc]; have := hbq.size; omega) ?_; intro v3 w3 hown3 hg3 hat3)
        refine ⟨⟨k + 1, by omega, by omega, by go_num, G.out, ?_, (hbq.alloc hbq.size _).grown hg3 (by simp only [World.size_alloc]; have := hbq.size; omega) (own_base HOQ.out)⟩, by simp [intOf]; omega⟩
        rw [US.out, List.map_append, show k + 1 - (q + 1) = k - (q + 1) + 1 by omega]
        exact hown3
      · have d3 : decide (lev rs q < lev rs k) = false := by rw [decide_eq_false_iff_not]; exact hgt
        have G := Lib.hid (unN_eq hk1 (by rw [HL.out]; exact hk2) HAL.out (fun _ => hgt))
        clear hgt
        generalize lev rs q = x at *
        generalize lev rs k = y at *
        go_wp2_with fail
        go_quiet (fail)
        have hbq := below_drewN hbr nq
        have HOQ : Hid ((wo.drewN nq).ownsRow w.heap.size 3 1 _ (k - (q + 1)) ((unList q (k - (q + 1))).map (Value.int .i64))) := own_below HO.out (below_drewN (Below.refl _ _) nq)
        clear hbr c1 e1
        generalize wo.drewN nq = wz at *
        go_wp2_with fail
        go_ret2
        exact under_some F.out G.out HOQ.out hbq
    · have k3 : decide ((k : Int) < (n : Int)) = false := by rw [decide_eq_false_iff_not]; omega
      have G := Lib.hid (unN_eq hk1 (by rw [HL.out]; exact hk2) HAL.out (fun h => absurd h (by rw [HL.out]; exact hlt)))
      go_wp2_with fail
      go_quiet (fail)
      have hbq := below_drewN hbr nq
      have HOQ : Hid ((wo.drewN nq).ownsRow w.heap.size 3 1 _ (k - (q + 1)) ((unList q (k - (q + 1))).map (Value.int .i64))) := own_below HO.out (below_drewN (Below.refl _ _) nq)
      clear hbr
      generalize wo.drewN nq = wz at *
      go_wp2_with fail
      go_ret2
      exact under_some F.out G.out HOQ.out hbq
end Go.Proofs.YtcmmppkmkejniaaGreatDoor
namespace Go.Proofs.YtcmmppkmkejniaaGreatDoor
set_option linter.unusedVariables false
theorem figL_cons (b : SBal) (bs : List SBal) (f t : Int) : figL (b :: bs) f t = (if f ≤ b.acct ∧ b.acct ≤ t then b.amt else 0) + figL bs f t := by simp [figL]
theorem figL_split {f m t : Int} (h1 : f ≤ m) (h2 : m < t) : ∀ bs : List SBal, figL bs f t = figL bs f m + figL bs (m + 1) t := by
  intro bs
  induction bs with
  | nil => simp [figL]
  | cons b bs ih =>
    rw [figL_cons, figL_cons, figL_cons, ih]
    by_cases a1 : f ≤ b.acct ∧ b.acct ≤ t
    · by_cases a2 : b.acct ≤ m
      · rw [if_pos a1, if_pos ⟨a1.1, a2⟩, if_neg (by omega)]; omega
      · rw [if_pos a1, if_neg (by omega), if_pos ⟨by omega, a1.2⟩]; omega
    · rw [if_neg a1, if_neg (by omega), if_neg (by omega)]; omega
theorem figL_zero {f t : Int} : ∀ {bs : List SBal}, (∀ b ∈ bs, ¬ (f ≤ b.acct ∧ b.acct ≤ t)) → figL bs f t = 0 := by
  intro bs
  induction bs with
  | nil => intro _; simp [figL]
  | cons b bs ih =>
    intro h
    rw [figL_cons, if_neg (h b (by simp)), ih (fun x hx => h x (by simp [hx]))]; rfl
/-- a total lies in the range of a row -/
def inR (r : SRow) (b : SBal) : Bool := decide (r.from_ ≤ b.acct) && decide (b.acct ≤ r.to_)
theorem amtR_zero {bs : List SBal} {r : SRow} (h : bs.any (inR r) = false) : amtR bs r = 0 := by
  have h0 : figL bs r.from_ r.to_ = 0 := figL_zero (by
    intro b hb hc
    have := List.any_eq_false.1 h b hb
    unfold inR at this
    rw [decide_eq_true hc.1, decide_eq_true hc.2] at this
    simp at this)
  unfold amtR
  rw [h0]
  split
  · rfl
  · split <;> rfl
/-- where the amounts of a row differ, one of the totals lies in its range -/
theorem changed_in {qs bs : List SBal} {r : SRow} (h : amtR qs r ≠ amtR bs r) : (qs ++ bs).any (inR r) = true := by
  cases h1 : (qs ++ bs).any (inR r)
  · exfalso
    rw [List.any_append, Bool.or_eq_false_iff] at h1
    exact h (by rw [amtR_zero h1.1, amtR_zero h1.2])
  · rfl
def chL (qs bs : List SBal) (rs : List SRow) : List Nat := (List.range rs.length).filter fun k => !(amtR qs (rs.getD k default) == amtR bs (rs.getD k default))
def chUp (qs bs : List SBal) (rs : List SRow) (m : Nat) : List Nat := (List.range m).filter fun k => !(amtR qs (rs.getD k default) == amtR bs (rs.getD k default))
theorem chUp_all (qs bs : List SBal) (rs : List SRow) : chUp qs bs rs rs.length = chL qs bs rs := rfl
theorem chUp_step (qs bs : List SBal) (rs : List SRow) (m : Nat) : chUp qs bs rs (m + 1) = chUp qs bs rs m ++ (if amtR qs (rs.getD m default) = amtR bs (rs.getD m default) then [] else [m]) := by
  unfold chUp
  rw [List.range_succ, List.filter_append]
  congr 1
  by_cases h : amtR qs (rs.getD m default) = amtR bs (rs.getD m default)
  · rw [if_pos h, List.filter_cons, if_neg (by rw [h]; simp)]; rfl
  · rw [if_neg h, List.filter_cons, if_pos (by rw [Bool.not_eq_true', beq_eq_false_iff_ne]; exact h)]; rfl
theorem chUp_le (qs bs : List SBal) (rs : List SRow) (m : Nat) : (chUp qs bs rs m).length ≤ m := by
  have := List.length_filter_le (fun k => !(amtR qs (rs.getD k default) == amtR bs (rs.getD k default))) (List.range m)
  rw [List.length_range] at this
  exact this
theorem chL_self (qs : List SBal) (rs : List SRow) : chL qs qs rs = [] := by
  unfold chL; rw [List.filter_eq_nil_iff]; intro k _; simp
theorem chL_at {qs bs : List SBal} {rs : List SRow} {k : Nat} (h : k < (chL qs bs rs).length) : (chL qs bs rs).getD k 0 < rs.length ∧ amtR qs (rs.getD ((chL qs bs rs).getD k 0) default) ≠ amtR bs (rs.getD ((chL qs bs rs).getD k 0) default) := by
  have hm : (chL qs bs rs).getD k 0 ∈ chL qs bs rs := by
    have : (chL qs bs rs).getD k 0 = (chL qs bs rs)[k] := by simp [List.getD, h]
    rw [this]; exact List.getElem_mem h
  generalize (chL qs bs rs).getD k 0 = q at hm ⊢
  unfold chL at hm
  obtain ⟨h1, h2⟩ := List.mem_filter.1 hm
  exact ⟨List.mem_range.1 h1, by simpa using h2⟩
def chE (qs bs : List SBal) (rs : List SRow) : Int := if mkE qs rs = 0 then mkE bs rs else mkE qs rs
def chO (qs bs : List SBal) (rs : List SRow) : List Nat := if chE qs bs rs = 0 then chL qs bs rs else []
theorem ch_a {qs bs : List SBal} {rs : List SRow} (h : (mkE qs rs == 0) = false) : chE qs bs rs = mkE qs rs ∧ chO qs bs rs = [] := by
  have h' : ¬ mkE qs rs = 0 := by simpa using h
  have : chE qs bs rs = mkE qs rs := by unfold chE; rw [if_neg h']
  exact ⟨this, by unfold chO; rw [this, if_neg h']⟩
theorem ch_b {qs bs : List SBal} {rs : List SRow} (h : (mkE qs rs == 0) = true) (h2 : (mkE bs rs == 0) = false) : chE qs bs rs = mkE bs rs ∧ chO qs bs rs = [] := by
  have h' : mkE qs rs = 0 := by simpa using h
  have h2' : ¬ mkE bs rs = 0 := by simpa using h2
  have : chE qs bs rs = mkE bs rs := by unfold chE; rw [if_pos h']
  exact ⟨this, by unfold chO; rw [this, if_neg h2']⟩
theorem ch_c {qs bs : List SBal} {rs : List SRow} (h : (mkE qs rs == 0) = true) (h2 : (mkE bs rs == 0) = true) : chE qs bs rs = 0 ∧ chO qs bs rs = chL qs bs rs := by
  have h' : mkE qs rs = 0 := by simpa using h
  have h2' : mkE bs rs = 0 := by simpa using h2
  have : chE qs bs rs = 0 := by unfold chE; rw [if_pos h', h2']
  exact ⟨this, by unfold chO; rw [this, if_pos rfl]⟩
theorem mkE_cases (bs : List SBal) (rs : List SRow) : mkE bs rs = 0 ∨ mkE bs rs = 1 ∨ mkE bs rs = 2 := by
  unfold mkE
  split
  · split
    · exact .inl rfl
    · exact .inr (.inr rfl)
  · exact .inr (.inl rfl)
theorem mk_ok {bs : List SBal} {rs : List SRow} (h : mkE bs rs = 0) : validR rs = true ∧ mkOk bs rs = true ∧ mkL bs rs = rs.map (lnR bs) := by
  unfold mkE at h
  cases h1 : validR rs
  · rw [h1] at h; simp at h
  · cases h2 : mkOk bs rs
    · rw [h1, h2] at h; simp at h
    · refine ⟨rfl, rfl, ?_⟩
      unfold mkL mkE
      rw [h1, h2]; rfl
theorem mkL_getD {bs : List SBal} {rs : List SRow} {k : Nat} (hk : k < rs.length) : ((rs.map (lnR bs)).getD k default).amt = amtR bs (rs.getD k default) := by
  simp [List.getD, hk, lnR]
/-! sums -/
def sumU (xs : List SLine) (q m : Nat) : Int := ((List.range m).map fun j => (xs.getD (q + 1 + j) default).amt).sum
theorem sumU_step (xs : List SLine) (q m : Nat) : sumU xs q (m + 1) = sumU xs q m + (xs.getD (q + 1 + m) default).amt := by
  unfold sumU; rw [List.range_succ, List.map_append, List.sum_append]; simp
theorem okAmts {xs : List SLine} (h : validL xs = true) {k : Nat} (hk : k < xs.length) : -1000000000000 ≤ (xs.getD k default).amt ∧ (xs.getD k default).amt ≤ 1000000000000 :=
  okAmt_iff.1 (okLn_iff.1 (validL_at h hk).2.2).1
theorem sumU_bd {xs : List SLine} (h : validL xs = true) (q : Nat) : ∀ m, q + 1 + m ≤ xs.length → -(1000000000000 * (m : Int)) ≤ sumU xs q m ∧ sumU xs q m ≤ 1000000000000 * (m : Int) := by
  intro m
  induction m with
  | zero => intro _; simp [sumU]
  | succ m ih =>
    intro hm
    have h1 := ih (by omega)
    have h2 := okAmts h (show q + 1 + m < xs.length by omega)
    rw [sumU_step]
    omega
def suE (xs : List SLine) (i : Int) : Int := if validL xs then (if unE (rowsOf xs) i = 0 then (if okAmt (sumU xs i.toNat (unN (rowsOf xs) i.toNat)) then 0 else 2) else unE (rowsOf xs) i) else 1
def suN (xs : List SLine) (i : Int) : Int := if suE xs i = 0 then sumU xs i.toNat (unN (rowsOf xs) i.toNat) else 0
theorem su_bad {xs : List SLine} {i : Int} (h : validL xs = false) : suE xs i = 1 ∧ suN xs i = 0 := by
  have : suE xs i = 1 := by unfold suE; rw [h]; rfl
  exact ⟨this, by unfold suN; rw [this]; rfl⟩
theorem su_out {xs : List SLine} {i : Int} (h : validL xs = true) (h2 : (unE (rowsOf xs) i == 0) = false) : suE xs i = unE (rowsOf xs) i ∧ suN xs i = 0 := by
  have h' : ¬ unE (rowsOf xs) i = 0 := by simpa using h2
  have : suE xs i = unE (rowsOf xs) i := by unfold suE; rw [if_pos h, if_neg h']
  exact ⟨this, by unfold suN; rw [this, if_neg h']⟩
theorem su_sum {xs : List SLine} {i : Int} (h : validL xs = true) (h2 : unE (rowsOf xs) i = 0) (b : Bool) (h3 : okAmt (sumU xs i.toNat (unN (rowsOf xs) i.toNat)) = b) : (b = false → suE xs i = 2 ∧ suN xs i = 0) ∧ (b = true → suE xs i = 0 ∧ suN xs i = sumU xs i.toNat (unN (rowsOf xs) i.toNat)) := by
  constructor
  · rintro rfl
    have : suE xs i = 2 := by unfold suE; rw [if_pos h, if_pos h2, h3]; rfl
    exact ⟨this, by unfold suN; rw [this]; rfl⟩
  · rintro rfl
    have : suE xs i = 0 := by unfold suE; rw [if_pos h, if_pos h2, h3]; rfl
    exact ⟨this, by unfold suN; rw [this, if_pos rfl]⟩
end Go.Proofs.YtcmmppkmkejniaaGreatDoor
namespace Go.Proofs.YtcmmppkmkejniaaGreatDoor
open Go.RowKit
set_option linter.unusedVariables false
theorem info_row : (Tryz.prog.info? 39).map (fun i => (i.zero, i.size, i.bytes)) = some (some (.agg #[.string ⟨#[]⟩, .int .i64 0, .int .i64 0, .int .i64 0, .bool false]), 5, 48) := by kernel_rfl
def lineV (x : SLine) : Value := .agg #[.string ⟨x.row.name.toArray⟩, .int .i64 x.row.level, .int .i64 x.row.from_, .int .i64 x.row.to_, .bool x.row.neg, .int .i64 x.amt]
set_option maxRecDepth 100000 in
set_option maxHeartbeats 4000000 in
theorem rows_any (xs : List SLine) (A : Option Addr) (n c B : Nat) (w : World) (hr : Reads w B 6 A n (linesCells xs)) (hB : B ≤ w.heap.size) (hn : n ≤ 10000) :
    Calls Tryz.prog 58 #[.slice A n c] w fun e w' => ∃ v, e = .returned v ∧ w'.ownsRow w.heap.size 39 5 v xs.length (rowsCells (rowsOf xs)) ∧ Below w.heap.size w w' := by
  obtain ⟨i0, hi0, hz0, hz1, hz2⟩ := info_parts info_row
  have HL := Lib.hid (lines_len hr)
  have HR := Lib.hid hr
  clear hr
  go_enter Tryz.func58, Tryz.ntmps58
  go_wp2_with fail
  go_loopw [3, 8] (fun v i wr => ∃ k : Nat, k ≤ n ∧ i = .int .i64 k ∧ wr.ownsRow w.heap.size 39 5 v k (rowsCells (rowsOf (xs.take k))) ∧ Below w.heap.size w wr) (fun _ i _ => n - (intOf i).toNat)
  case atStart => exact ⟨0, by omega, rfl, World.ownsRow_nil _ _ _ _, Below.refl _ _⟩
  case round =>
    obtain ⟨k, hk, rfl, hown, hbr⟩ := hrel
    obtain ⟨wo, rfl⟩ : ∃ wo : World, wo = wr := ⟨_, rfl⟩
    have HO := Lib.hid hown
    clear hown
    by_cases hlt : k < n
    · have k3 : decide ((k : Int) < (n : Int)) = true := by rw [decide_eq_true_eq]; omega
      obtain ⟨ad, rfl, hbk, c0, c1, c2, c3, c4, c5⟩ := (HR.out.low hB (Nat.le_refl _) hbr).line_at hlt
      have HS : Hid (rowsCells (rowsOf (xs.take (k + 1))) = rowsCells (rowsOf (xs.take k)) ++ rowCells (xs.getD k default).row) := by
        show _ = _
        exact rowsCells_step (by rw [HL.out]; exact hlt)
      have HLO := Lib.hid (row_one (xs.getD k default).row)
      generalize xs.getD k default = x at *
      obtain ⟨⟨nm, lv, fr, to_, ng⟩, am⟩ := x
      simp only [] at c0 c1 c2 c3 c4 c5 HS HLO
      go_wp2_with (at_builtin; refine wpList_append_any _ rfl (.tmp 12) (.tmp 15) _ rfl w.heap.size 39 i0 _ 5 48 Tryz.underlying32 hi0 hz0 hz1 hz2 rfl (by omega) _ k (rowsCells (rowsOf (xs.take k))) rfl ((HO.out.alloc _).alloc _) (wo.heap.size + 1 + 1) (some ⟨wo.heap.size + 1, 0, none⟩) 1 1 (rowCells ⟨nm, lv, fr, to_, ng⟩) rfl (by have := reads_one (wo.alloc (.cells #[.string ⟨nm.toArray⟩, .int .i64 lv, .int .i64 fr, .int .i64 to_, .bool ng, .int .i64 am] 102)) #[.string ⟨nm.toArray⟩, .int .i64 lv, .int .i64 fr, .int .i64 to_, .bool ng] 39 5 rfl; rw [World.size_alloc] at this; exact this) HLO.out (by simp only [maxLen]; omega) (by omega) (by simp only [World.size_alloc]; have := hbr.size; omega) ?_; intro v4 w4 hown4 hg4 hat4)
      rw [← HS.out] at hown4
      exact ⟨⟨k + 1, by omega, by go_num, hown4, ((hbr.alloc hbr.size _).alloc (by simp only [World.size_alloc]; have := hbr.size; omega) _).grown hg4 (by simp only [World.size_alloc]; have := hbr.size; omega) (own_base HO.out)⟩, by simp [intOf]; omega⟩
    · have k3 : decide ((k : Int) < (n : Int)) = false := by rw [decide_eq_false_iff_not]; omega
      have hown := HO.out
      rw [List.take_of_length_le (by rw [HL.out]; omega), show k = n by omega, ← HL.out] at hown
      have HO1 := Lib.hid hown
      clear hown
      go_wp2_with fail
      go_ret
      exact ⟨_, rfl, HO1.out, hbr⟩
theorem own_cap {w : World} {base size n c : Nat} {e : TypeId} {A : Option Addr} {xs : List Value} (h : w.ownsRow base e size (.slice A n c) n xs) : n ≤ c := by
  obtain ⟨_, h⟩ := h
  rcases h with ⟨h1, h2⟩ | ⟨g, cap, cur, h1, _, _, h2, _⟩
  · omega
  · injection h1 with _ _ hc
    omega
def IdxSays (p : SLine → Bool) (xs : List SLine) (w : World) (e : Ending) (w' : World) : Prop := ∃ r : Int, e = .returned (.int .i64 r) ∧ decide (0 ≤ r) = xs.any p ∧ Below w.heap.size w w'
theorem any_yes {p : SLine → Bool} {xs : List SLine} {k : Nat} (hk : k < xs.length) (h : p (xs.getD k default) = true) : xs.any p = true :=
  List.any_eq_true.2 ⟨_, getD_memL hk, h⟩
theorem any_step {p : SLine → Bool} {xs : List SLine} {k : Nat} (hk : k < xs.length) (h : (xs.take k).any p = false) (h' : p (xs.getD k default) = false) : (xs.take (k + 1)).any p = false := by
  rw [List.take_succ_eq_append_getElem hk, List.any_append, h]
  have e : xs.getD k default = xs[k] := by simp [List.getD, hk]
  rw [e] at h'
  simp [h']
set_option maxRecDepth 100000 in
set_option maxHeartbeats 4000000 in
theorem idxF_any (Fu : FuncId) (p : SLine → Bool) (hcf : ∀ (args : Array Value) (w : World), (callFunc Fu args).run Tryz.prog w = .ok (.enter Fu args) w) (hF : ∀ (x : SLine) (w : World), Calls Tryz.prog Fu #[lineV x] w fun e w' => e = .returned (.bool (p x)) ∧ Below w.heap.size w w')
    (xs : List SLine) (A : Option Addr) (n c B : Nat) (w : World) (hr : Reads w B 6 A n (linesCells xs)) (hB : B ≤ w.heap.size) (hn : n ≤ 10000) :
    Calls Tryz.prog 101 #[.slice A n c, .func (.func Fu) #[] #[]] w (IdxSays p xs w) := by
  have HL := Lib.hid (lines_len hr)
  have HR := Lib.hid hr
  have HF := Lib.hid hF
  clear hr hF
  go_enter Tryz.func101, Tryz.ntmps101
  go_wp2_with fail
  go_loopw [8] (fun i wr => ∃ k : Nat, k ≤ n ∧ i = .int .i64 k ∧ (xs.take k).any p = false ∧ Below w.heap.size w wr) (fun i _ => n - (intOf i).toNat)
  case atStart => exact ⟨0, by omega, rfl, rfl, Below.refl _ _⟩
  case round =>
    obtain ⟨k, hk, rfl, hd, hbr⟩ := hrel
    obtain ⟨wo, rfl⟩ : ∃ wo : World, wo = wr := ⟨_, rfl⟩
    have HD := Lib.hid hd
    clear hd
    by_cases hlt : k < n
    · have k3 : decide ((k : Int) < (n : Int)) = true := by rw [decide_eq_true_eq]; omega
      have hkl : k < xs.length := by rw [HL.out]; exact hlt
      obtain ⟨ad, rfl, hbk, c0, c1, c2, c3, c4, c5⟩ := (HR.out.low hB (Nat.le_refl _) hbr).line_at hlt
      have HY : Hid (p (xs.getD k default) = true → xs.any p = true) := fun h => any_yes hkl h
      have HN : Hid (p (xs.getD k default) = false → (xs.take (k + 1)).any p = false) := fun h => any_step hkl HD.out h
      clear hkl
      generalize xs.getD k default = x at *
      cases hp : p x
      · have F := Lib.hid (HN.out hp)
        have HP := Lib.hid hp
        clear hp HN HY
        go_wp2_with fail
        refine (HF.out x _).mono ?_
        rintro e w1 ⟨rfl, hb⟩
        have hb1 := below_two hbr hb
        rw [HP.out]
        clear c0 c1 c2 c3 c4 c5 hb hbr
        go_wp2_with fail
        exact ⟨⟨k + 1, by omega, by go_num, F.out, hb1⟩, by simp [intOf]; omega⟩
      · have F := Lib.hid (HY.out hp)
        have HP := Lib.hid hp
        clear hp HN HY
        go_wp2_with fail
        refine (HF.out x _).mono ?_
        rintro e w1 ⟨rfl, hb⟩
        have hb1 := below_two hbr hb
        rw [HP.out]
        clear c0 c1 c2 c3 c4 c5 hb hbr
        go_wp2_with fail
        go_ret
        exact ⟨k, rfl, by rw [F.out, decide_eq_true_eq]; omega, hb1⟩
    · have k3 : decide ((k : Int) < (n : Int)) = false := by rw [decide_eq_false_iff_not]; omega
      have hd := HD.out
      rw [List.take_of_length_le (by rw [HL.out]; omega)] at hd
      have F := Lib.hid hd
      clear hd HD
      go_wp2_with fail
      go_ret
      exact ⟨-1, rfl, by rw [F.out]; rfl, hbr⟩
set_option maxRecDepth 100000 in
theorem contF_any (Fu : FuncId) (p : SLine → Bool) (hcf : ∀ (args : Array Value) (w : World), (callFunc Fu args).run Tryz.prog w = .ok (.enter Fu args) w) (hF : ∀ (x : SLine) (w : World), Calls Tryz.prog Fu #[lineV x] w fun e w' => e = .returned (.bool (p x)) ∧ Below w.heap.size w w')
    (xs : List SLine) (A : Option Addr) (n c B : Nat) (w : World) (hr : Reads w B 6 A n (linesCells xs)) (hB : B ≤ w.heap.size) (hn : n ≤ 10000) :
    Calls Tryz.prog 73 #[.slice A n c, .func (.func Fu) #[] #[]] w fun e w' => e = .returned (.bool (xs.any p)) ∧ Below w.heap.size w w' := by
  have HI := Lib.hid (idxF_any Fu p hcf hF xs A n c B w hr hB hn)
  clear hr hcf hF
  go_enter Tryz.func73, Tryz.ntmps73
  go_wp2_with fail
  refine HI.out.mono ?_
  rintro e w1 ⟨r, rfl, hr, hb⟩
  have HRR := Lib.hid hr
  clear hr
  go_wp2_with fail
  go_ret
  exact ⟨ret_bool HRR.out, hb⟩
theorem enter_v1 (args : Array Value) (w : World) : (callFunc 74 args).run Tryz.prog w = .ok (.enter 74 args) w := by
  simp [go_sem]
theorem line_blk {w : World} {g : Nat} {T : TypeId} {a b c d e f : Value} (h : Blk w g T #[a, b, c, d, e, f]) :
    w.cell? ⟨g, 0, none⟩ = some a ∧ w.cell? ⟨g, 1, none⟩ = some b ∧ w.cell? ⟨g, 2, none⟩ = some c ∧ w.cell? ⟨g, 3, none⟩ = some d ∧ w.cell? ⟨g, 4, none⟩ = some e ∧ w.cell? ⟨g, 5, none⟩ = some f :=
  ⟨h.cell 0, h.cell 1, h.cell 2, h.cell 3, h.cell 4, h.cell 5⟩
set_option maxRecDepth 100000 in
set_option maxHeartbeats 4000000 in
theorem valid1_any (x : SLine) (w : World) : Calls Tryz.prog 74 #[lineV x] w fun e w' => e = .returned (.bool (!okLn x)) ∧ Below w.heap.size w w' := by
  obtain ⟨⟨nm, lv, fr, to_, ng⟩, am⟩ := x
  unfold lineV
  simp only []
  have hb0 := (Below.refl w.heap.size w).alloc (Nat.le_refl _) (.cells (#[.string ⟨nm.toArray⟩, .int .i64 lv, .int .i64 fr, .int .i64 to_, .bool ng, .int .i64 am] : Array Value) 102)
  have HB0 := Lib.hid hb0
  have HK := Lib.hid (Blk.new w 102 #[.string ⟨nm.toArray⟩, .int .i64 lv, .int .i64 fr, .int .i64 to_, .bool ng, .int .i64 am])
  clear hb0
  cases ha : okAmt am
  · have F : Hid (okLn ⟨⟨nm, lv, fr, to_, ng⟩, am⟩ = false) := by show _ = _; unfold okLn; rw [ha]; rfl
    have HA := Lib.hid ha
    clear ha
    go_enter Tryz.func74, Tryz.ntmps74
    go_wp2_with fail
    refine (moneyValid_any am _).mono ?_
    rintro e wx ⟨rfl, rfl⟩
    rw [HA.out]
    go_wp2_with fail
    go_ret
    exact ⟨ret_bool (by rw [F.out]; rfl), HB0.out⟩
  · cases ht : isTitle ⟨nm, lv, fr, to_, ng⟩
    · have F : Hid (okLn ⟨⟨nm, lv, fr, to_, ng⟩, am⟩ = true) := by show _ = _; unfold okLn; rw [ha, ht]; rfl
      have HA := Lib.hid ha
      have HT := Lib.hid ht
      clear ha ht
      go_enter Tryz.func74, Tryz.ntmps74
      go_wp2_with fail
      refine (moneyValid_any am _).mono ?_
      rintro e wx ⟨rfl, rfl⟩
      rw [HA.out]
      go_wp2_with fail
      refine (rtitle_any ⟨nm, lv, fr, to_, ng⟩ _).mono ?_
      rintro e w2 ⟨rfl, hb2⟩
      have HB2 := Lib.hid (below_two HB0.out hb2)
      clear hb2
      rw [HT.out]
      go_wp2_with fail
      go_ret
      exact ⟨ret_bool (by rw [F.out]; rfl), HB2.out⟩
    · have F : Hid (okLn ⟨⟨nm, lv, fr, to_, ng⟩, am⟩ = (am == 0)) := by show _ = _; unfold okLn; rw [ha, ht]; rfl
      have HA := Lib.hid ha
      have HT := Lib.hid ht
      clear ha ht
      cases hz : (am == 0)
      all_goals
        have hz' : (am != 0) = !(am == 0) := rfl
        rw [hz] at hz' F
        simp only [Bool.not_true, Bool.not_false] at hz'
        go_enter Tryz.func74, Tryz.ntmps74
        go_wp2_with fail
        refine (moneyValid_any am _).mono ?_
        rintro e wx ⟨rfl, rfl⟩
        rw [HA.out]
        go_wp2_with fail
        refine (rtitle_any ⟨nm, lv, fr, to_, ng⟩ _).mono ?_
        rintro e w2 ⟨rfl, hb2⟩
        have HB2 := Lib.hid (below_two HB0.out hb2)
        obtain ⟨x0, x1, x2, x3, x4, x5⟩ := line_blk (HK.out.below hb2 (by simp))
        clear hb2
        rw [HT.out]
        go_wp2_with fail
        go_ret
        exact ⟨ret_bool (by rw [F.out]; rfl), HB2.out⟩
theorem any_not {xs : List SLine} : (xs.any fun x => !okLn x) = !xs.all okLn := by
  induction xs with
  | nil => rfl
  | cons x r ih => rw [List.any_cons, List.all_cons, ih, Bool.not_and]
set_option maxRecDepth 100000 in
set_option maxHeartbeats 4000000 in
theorem rvalid_any (xs : List SLine) (A : Option Addr) (n c B : Nat) (w : World) (hr : Reads w B 6 A n (linesCells xs)) (hB : B ≤ w.heap.size) (hn : n ≤ 10000) (hnm : ∀ x ∈ xs, x.row.name.length ≤ 3000) :
    Calls Tryz.prog 48 #[.slice A n c] w fun e w' => e = .returned (.bool (validL xs)) ∧ Below w.heap.size w w' := by
  have HL := Lib.hid (lines_len hr)
  have HR := Lib.hid hr
  have HNM : Hid (∀ r ∈ rowsOf xs, r.name.length ≤ 3000) := by
    show ∀ _, _
    intro r h
    obtain ⟨x, hx, rfl⟩ := List.mem_map.1 h
    exact hnm x hx
  have HRW := Lib.hid (rows_any xs A n c B w hr hB hn)
  have HRL : Hid ((rowsOf xs).length = n) := by show _ = _; rw [rowsOf_len, HL.out]
  clear hr hnm
  cases hv : validR (rowsOf xs)
  all_goals
    have HV := Lib.hid hv
    clear hv
    go_enter Tryz.func48, Tryz.ntmps48
    go_wp2_with fail
    refine HRW.out.mono ?_
    rintro e w1 ⟨v, rfl, hown, hb⟩
    obtain ⟨A1, c1, rfl⟩ := own_slice hown
    have hcap := own_cap hown
    have HVA := Lib.hid (valid_any (rowsOf xs) A1 xs.length c1 w1.heap.size w1 (Reads.of_own hown) (Nat.le_refl _) (by rw [HL.out]; omega) hcap HNM.out)
    clear hown hcap
    go_wp2_with fail
    refine HVA.out.mono ?_
    rintro e w2 ⟨rfl, hb2⟩
    have hb3 := below_two hb hb2
    rw [HV.out]
    clear hb hb2
  · have F : Hid (validL xs = false) := by show _ = _; unfold validL; rw [HV.out]; rfl
    go_wp2_with fail
    go_ret
    exact ⟨ret_bool F.out.symm, hb3⟩
  · have F : Hid (validL xs = !(xs.any fun x => !okLn x)) := by show _ = _; unfold validL; rw [HV.out, any_not]; simp
    have HC := Lib.hid (contF_any 74 (fun x => !okLn x) enter_v1 (fun x w => valid1_any x w) xs A n c B w2 (HR.out.low hB (Nat.le_refl _) hb3) (by have := hb3.size; omega) hn)
    go_wp2_with fail
    refine HC.out.mono ?_
    rintro e w4 ⟨rfl, hb4⟩
    have hb5 := below_two hb3 hb4
    clear hb3 hb4
    go_wp2_with fail
    go_ret
    exact ⟨ret_bool F.out.symm, hb5⟩
end Go.Proofs.YtcmmppkmkejniaaGreatDoor
namespace Go.Proofs.YtcmmppkmkejniaaGreatDoor
open Go.RowKit
set_option linter.unusedVariables false
theorem tup_ii {a b x y : Int} (h : a = b) (h' : x = y) : Ending.returned (.tuple #[.int .i64 a, .int .i64 x]) = .returned (.tuple #[.int .i64 b, .int .i64 y]) := by rw [h, h']
set_option maxRecDepth 100000 in
set_option maxHeartbeats 8000000 in
theorem sum_any (xs : List SLine) (A : Option Addr) (n c B : Nat) (i : Int) (w : World) (hr : Reads w B 6 A n (linesCells xs)) (hB : B ≤ w.heap.size) (hn : n ≤ 10000) (hnm : ∀ x ∈ xs, x.row.name.length ≤ 3000) :
    Calls Tryz.prog 29 #[.slice A n c, .int .i64 i] w fun e w' => e = .returned (.tuple #[.int .i64 (suN xs i), .int .i64 (suE xs i)]) ∧ Below w.heap.size w w' := by
  have HL := Lib.hid (lines_len hr)
  have HR := Lib.hid hr
  have HNM : Hid (∀ r ∈ rowsOf xs, r.name.length ≤ 3000) := by
    show ∀ _, _
    intro r h
    obtain ⟨x, hx, rfl⟩ := List.mem_map.1 h
    exact hnm x hx
  have HV := Lib.hid (rvalid_any xs A n c B w hr hB hn hnm)
  clear hr hnm
  cases hv : validL xs
  · have F := Lib.hid (su_bad (i := i) hv)
    have HVF := Lib.hid hv
    clear hv
    go_enter Tryz.func29, Tryz.ntmps29
    go_wp2_with fail
    refine HV.out.mono ?_
    rintro e w1 ⟨rfl, hb⟩
    rw [HVF.out]
    go_wp2_with fail
    go_ret2
    exact ⟨tup_ii F.out.2.symm F.out.1.symm, hb⟩
  have HVF := Lib.hid hv
  have HVR := Lib.hid (validL_iff.1 hv).1
  have hn3 : n ≤ 300 := by have := validL_len hv; have := HL.out; omega
  cases hu : (unE (rowsOf xs) i == 0)
  · have F := Lib.hid (su_out hv hu)
    have hu' : (unE (rowsOf xs) i != 0) = true := by rw [bne, hu]; rfl
    clear hv hu
    go_enter Tryz.func29, Tryz.ntmps29
    go_wp2_with fail
    refine HV.out.mono ?_
    rintro e w1 ⟨rfl, hb⟩
    rw [HVF.out]
    go_wp2_with fail
    refine (rows_any xs A n c B w1 (HR.out.low hB (Nat.le_refl _) hb) (by have := hb.size; omega) (by omega)).mono ?_
    rintro e w2 ⟨v, rfl, hown, hb2⟩
    obtain ⟨A1, c1, rfl⟩ := own_slice hown
    have hcap := own_cap hown
    have hb12 := below_two hb hb2
    have HU := Lib.hid (under_any (rowsOf xs) A1 xs.length c1 i w2.heap.size w2 (Reads.of_own hown) (Nat.le_refl _) (by rw [HL.out]; omega) hcap HNM.out)
    clear hown hb hb2 hcap
    go_wp2_with fail
    refine HU.out.mono ?_
    rintro e w3 ⟨v, rfl, _, hb3⟩
    have hb13 := below_two hb12 hb3
    generalize unE (rowsOf xs) i = E at *
    clear hb12 hb3
    go_wp2_with fail
    go_ret2
    exact ⟨tup_ii F.out.2.symm F.out.1.symm, hb13⟩
  have hu0 : unE (rowsOf xs) i = 0 := by simpa using hu
  obtain ⟨q, rfl, hq⟩ : ∃ q : Nat, i = q ∧ q < xs.length := by
    unfold unE at hu0
    rw [if_pos HVR.out] at hu0
    cases h1 : decide (i < 0)
    · cases h2 : decide (((rowsOf xs).length : Int) ≤ i)
      · rw [decide_eq_false_iff_not] at h1 h2
        rw [rowsOf_len] at h2
        exact ⟨i.toNat, by omega, by omega⟩
      · rw [h1, h2] at hu0; simp at hu0
    · rw [h1] at hu0; simp at hu0
  obtain ⟨_, hum⟩ := unE_ok HVR.out (show q < (rowsOf xs).length by rw [rowsOf_len]; exact hq)
  have hul : unN (rowsOf xs) q ≤ xs.length - (q + 1) := by have := unN_le (rowsOf xs) q; rwa [rowsOf_len] at this
  have hb0 : Hid (∀ b, okAmt (sumU xs q (unN (rowsOf xs) q)) = b → (b = false → suE xs q = 2 ∧ suN xs q = 0) ∧ (b = true → suE xs q = 0 ∧ suN xs q = sumU xs q (unN (rowsOf xs) q))) := fun b hb => su_sum (i := (q : Int)) hv hu0 b hb
  have HU0 := Lib.hid hu0
  have HUM := Lib.hid hum
  clear hv hu hu0 hum
  go_enter Tryz.func29, Tryz.ntmps29
  go_wp2_with fail
  refine HV.out.mono ?_
  rintro e w1 ⟨rfl, hb⟩
  rw [HVF.out]
  go_wp2_with fail
  refine (rows_any xs A n c B w1 (HR.out.low hB (Nat.le_refl _) hb) (by have := hb.size; omega) (by omega)).mono ?_
  rintro e w2 ⟨v, rfl, hown, hb2⟩
  obtain ⟨A1, c1, rfl⟩ := own_slice hown
  have hcap := own_cap hown
  have hb12 := below_two hb hb2
  have HU := Lib.hid (under_any (rowsOf xs) A1 xs.length c1 q w2.heap.size w2 (Reads.of_own hown) (Nat.le_refl _) (by rw [HL.out]; omega) hcap HNM.out)
  clear hown hb hb2 hcap
  go_wp2_with fail
  refine HU.out.mono ?_
  rintro e w3 ⟨v, rfl, hown, hb3⟩
  have hb13 := below_two hb12 hb3
  rw [HU0.out]
  rw [HUM.out, show ((q : Int)).toNat = q from rfl] at hown
  obtain ⟨A2, c2, rfl⟩ := own_slice hown
  have HRU := Lib.hid (Reads.of_own hown)
  have HR3 := Lib.hid (HR.out.low hB (Nat.le_refl _) hb13)
  have HBD := Lib.hid (fun k hk => sumU_bd HVF.out q k hk)
  generalize unN (rowsOf xs) q = M at *
  have hqx := HL.out
  have hqm : q + 1 + M ≤ n := by omega
  clear hown hb12 hb3 hqx
  go_wp2_with fail
  go_loop [8, 26] (fun s i => ∃ k : Nat, k ≤ M ∧ i = .int .i64 k ∧ s = .int .i64 (sumU xs q k)) (fun _ i => M - (intOf i).toNat)
  case atStart => exact ⟨0, Nat.zero_le _, rfl, rfl⟩
  case round =>
    obtain ⟨k, hk, rfl, rfl⟩ := hrel
    by_cases hlt : k < M
    · have k3 : decide ((k : Int) < (M : Int)) = true := by rw [decide_eq_true_eq]; omega
      obtain ⟨ad, rfl, hab, d0⟩ := HRU.out.int_at hlt
      rw [unList_getD hlt] at d0
      obtain ⟨ad2, rfl, hab2, c0, c1', c2', c3', c4', c5'⟩ := HR3.out.line_at (show q + 1 + k < n by omega)
      have hst := sumU_step xs q k
      have HST := Lib.hid hst
      have hbd := HBD.out k (by have := HL.out; omega)
      have hbd1 := HBD.out (k + 1) (by have := HL.out; omega)
      rw [HST.out] at hbd1
      clear hst
      generalize hgx : xs.getD (q + 1 + k) default = x at *
      have HGX := Lib.hid hgx
      clear hgx
      generalize sumU xs q k = S at *
      obtain ⟨⟨nm, lv, fr, to_, ng⟩, am⟩ := x
      simp only [] at c0 c1' c2' c3' c4' c5' hbd1
      have g1 := hbd.1
      have g2 := hbd.2
      have g3 := hbd1.1
      have g4 := hbd1.2
      have g5 : -9223372036854775808 ≤ S + am := by omega
      have g6 : S + am ≤ 9223372036854775807 := by omega
      have b1 : ((q + 1 + k : Nat) : Int) < (n : Int) := by omega
      clear hbd hbd1 g3 g4 c0 c1' c2' c3' c4'
      generalize hQK : q + 1 + k = QK at *
      have HQK := Lib.hid hQK
      clear hQK
      go_wp2_with fail
      go_round
      case rel => exact ⟨k + 1, by omega, by go_num, by rw [HST.out]⟩
      case measure => simp [intOf]; omega
    · have k3 : decide ((k : Int) < (M : Int)) = false := by rw [decide_eq_false_iff_not]; omega
      have hkm : k = M := by omega
      subst hkm
      cases ho : okAmt (sumU xs q k)
      · have F := Lib.hid ((hb0.out _ ho).1 rfl)
        have HO := Lib.hid ho
        clear ho
        go_wp2_with fail
        refine (moneyValid_any _ _).mono ?_
        rintro e wx ⟨rfl, rfl⟩
        rw [HO.out]
        go_wp2_with fail
        go_ret2
        exact ⟨tup_ii F.out.2.symm F.out.1.symm, hb13⟩
      · have F := Lib.hid ((hb0.out _ ho).2 rfl)
        have HO := Lib.hid ho
        clear ho
        go_wp2_with fail
        refine (moneyValid_any _ _).mono ?_
        rintro e wx ⟨rfl, rfl⟩
        rw [HO.out]
        go_wp2_with fail
        go_ret2
        exact ⟨tup_ii F.out.2.symm F.out.1.symm, hb13⟩
end Go.Proofs.YtcmmppkmkejniaaGreatDoor
