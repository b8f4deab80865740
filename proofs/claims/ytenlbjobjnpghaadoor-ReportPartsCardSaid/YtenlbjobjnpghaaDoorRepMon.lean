/-
  Amounts: Valid and Text of both sides.
-/
import Derived.Test.YtenlbjobjnpghaaDoorStr
import Derived.Laws.BytesString
import Derived.Lib.ItoaLen
namespace Go.Proofs.YtenlbjobjnpghaaDoor
open Go.RowKit Go.Lib
set_option linter.unusedVariables false
def okAmt (n : Int) : Bool := decide (-1000000000000 ≤ n) && decide (n ≤ 1000000000000)
theorem okAmt_yes {n : Int} (h : -1000000000000 ≤ n ∧ n ≤ 1000000000000) : okAmt n = true := by simp [okAmt]; omega
theorem okAmt_no {n : Int} (h : n < -1000000000000 ∨ 1000000000000 < n) : okAmt n = false := by simp [okAmt]; omega
theorem okAmt_iff {n : Int} : okAmt n = true ↔ -1000000000000 ≤ n ∧ n ≤ 1000000000000 := by simp [okAmt]
def two (m : Nat) : List UInt8 := [UInt8.ofNat (48 + m / 10 % 10), UInt8.ofNat (48 + m % 10)]
def amtBody (m : Nat) : List UInt8 := decDigits (m / 100) ++ 46 :: two m
def amtText (n : Int) : List UInt8 := if okAmt n then (if n < 0 then 45 :: amtBody n.natAbs else amtBody n.natAbs) else []
def pad3 (l : List UInt8) : List UInt8 := List.replicate (3 - l.length) 48 ++ l
theorem pad3_dec (m : Nat) : pad3 (decDigits m) = decDigits (m / 100) ++ two m := by
  unfold pad3 two
  by_cases h1 : m < 10
  · have e : m / 100 = 0 := by omega
    have e2 : m / 10 % 10 = 0 := by omega
    have e3 : m % 10 = m := by omega
    rw [decDigits_one h1, e, e2, e3, decDigits_one (by omega)]; rfl
  · by_cases h2 : m < 100
    · have e : m / 100 = 0 := by omega
      have e2 : m / 10 % 10 = m / 10 := by omega
      rw [decDigits_two h1 h2, e, e2, decDigits_one (by omega)]; rfl
    · have hl : 3 ≤ (decDigits m).length := by
        rw [dec_step (m := m) (by omega), dec_step (m := m / 10) (by omega)]
        have := dec_len_pos (m / 10 / 10)
        simp; omega
      rw [show 3 - (decDigits m).length = 0 from by omega, dec_step (m := m) (by omega), dec_step (m := m / 10) (by omega), show m / 10 / 10 = m / 100 from by omega]
      simp
theorem pad3_len (m : Nat) : (pad3 (decDigits m)).length = (decDigits (m / 100)).length + 2 := by rw [pad3_dec]; simp [two]
theorem pad3_take (m : Nat) : (pad3 (decDigits m)).take ((pad3 (decDigits m)).length - 2) = decDigits (m / 100) := by
  rw [pad3_len, pad3_dec]; simp
theorem pad3_drop (m : Nat) : (pad3 (decDigits m)).drop ((pad3 (decDigits m)).length - 2) = two m := by
  rw [pad3_len, pad3_dec]; simp
theorem two_len (m : Nat) : (two m).length = 2 := rfl
theorem amtText_neg (m : Nat) (h : 0 < (m : Int)) (h' : (m : Int) ≤ 1000000000000) : amtText (-(m : Int)) = 45 :: amtBody m := by
  unfold amtText
  rw [okAmt_yes (by omega), if_pos rfl, if_pos (by omega)]
  simp
theorem amtText_pos (m : Nat) (h' : (m : Int) ≤ 1000000000000) : amtText (m : Int) = amtBody m := by
  unfold amtText
  rw [okAmt_yes (by omega), if_pos rfl, if_neg (by omega)]
  simp
theorem moneyValid_yes (n : Int) (w : World) (h1 : -1000000000000 ≤ n) (h2 : n ≤ 1000000000000) : Calls Tryd.prog 28 #[.int .i64 n] w fun e w' => e = .returned (.bool true) ∧ w = w' := by
  go_enter Tryd.func28, Tryd.ntmps28
  go_wp2
  go_ret
  exact ⟨rfl, rfl⟩
theorem moneyValid_any (n : Int) (w : World) : Calls Tryd.prog 28 #[.int .i64 n] w fun e w' => e = .returned (.bool (okAmt n)) ∧ w = w' := by
  by_cases h1 : -1000000000000 ≤ n
  · by_cases h2 : n ≤ 1000000000000
    · rw [okAmt_yes ⟨h1, h2⟩]; exact moneyValid_yes n w h1 h2
    · rw [okAmt_no (by omega)]
      have h3 : decide (n ≤ 1000000000000) = false := by simp; omega
      clear h2
      go_enter Tryd.func28, Tryd.ntmps28
      go_wp2
      go_ret
      exact ⟨rfl, rfl⟩
  · rw [okAmt_no (by omega)]
    have h3 : decide (-1000000000000 ≤ n) = false := by simp; omega
    clear h1
    go_enter Tryd.func28, Tryd.ntmps28
    go_wp2
    go_ret
    exact ⟨rfl, rfl⟩
theorem refAmt_any (n : Int) (w : World) : Calls Tryd.prog 30 #[.int .i64 n] w fun e w' => e = .returned (.bool (okAmt n)) ∧ w = w' := by
  by_cases h1 : -1000000000000 ≤ n
  · by_cases h2 : n ≤ 1000000000000
    · rw [okAmt_yes ⟨h1, h2⟩]
      go_enter Tryd.func30, Tryd.ntmps30
      go_wp2
      go_ret
      exact ⟨rfl, rfl⟩
    · rw [okAmt_no (by omega)]
      have h3 : decide (n ≤ 1000000000000) = false := by simp; omega
      clear h2
      go_enter Tryd.func30, Tryd.ntmps30
      go_wp2
      go_ret
      exact ⟨rfl, rfl⟩
  · rw [okAmt_no (by omega)]
    have h3 : decide (-1000000000000 ≤ n) = false := by simp; omega
    clear h1
    go_enter Tryd.func30, Tryd.ntmps30
    go_wp2
    go_ret
    exact ⟨rfl, rfl⟩
theorem body_eq (m : Nat) : [45] ++ (List.drop 0 (List.take ((pad3 (Lib.decDigits m)).length - 2) (pad3 (Lib.decDigits m))) ++ [46] ++ List.drop ((pad3 (Lib.decDigits m)).length - 2) (List.take (pad3 (Lib.decDigits m)).length (pad3 (Lib.decDigits m)))) = 45 :: amtBody m := by
  rw [List.take_length, pad3_take, pad3_drop]
  simp [amtBody]
theorem body_eq' (m : Nat) : List.drop 0 (List.take ((pad3 (Lib.decDigits m)).length - 2) (pad3 (Lib.decDigits m))) ++ [46] ++ List.drop ((pad3 (Lib.decDigits m)).length - 2) (List.take (pad3 (Lib.decDigits m)).length (pad3 (Lib.decDigits m))) = amtBody m := by
  rw [List.take_length, pad3_take, pad3_drop]
  simp [amtBody]
theorem moneyText_any (n : Int) (w : World) (hE : Env w) (h1 : -1000000000000 ≤ n) (h2 : n ≤ 1000000000000) :
    Calls Tryd.prog 39 #[.int .i64 n] w fun e w' => e = .returned (.string ⟨(amtText n).toArray⟩) ∧ Below w.heap.size w w' := by
  by_cases hn : n < 0
  · obtain ⟨m, hm⟩ : ∃ m : Nat, n = -(m : Int) := ⟨n.natAbs, by omega⟩
    subst hm
    have hm1 : (m : Int) ≤ 1000000000000 := by omega
    have hm0 : 0 < (m : Int) := by omega
    clear h1 h2 hn
    have HT := Lib.hid (dec_len_le (m := m) (by omega))
    go_enter Tryd.func39, Tryd.ntmps39
    go_wp2_with fail
    refine (moneyValid_yes _ _ (by omega) (by omega)).mono ?_
    rintro e w' ⟨rfl, rfl⟩
    go_wp2_with fail
    refine (itoa_nat _ m _ (by omega) (by omega) hE).mono ?_
    rintro e w1 ⟨rfl, hb1⟩
    generalize hd : Lib.decDigits m = d at *
    have HD := Lib.hid hd
    clear hd
    have hd1 := HT.out
    go_wp2_with fail
    go_loop [3] (fun v => ∃ k : Nat, k ≤ 3 - d.length ∧ v = .string ⟨(List.replicate k 48 ++ d).toArray⟩) (fun v => 3 - strLen v)
    case atStart => exact ⟨0, Nat.zero_le _, rfl⟩
    case round =>
      obtain ⟨k, hk, rfl⟩ := hrel
      go_wp2_with fail
      · refine ⟨⟨k + 1, by omega, by rw [List.replicate_succ]; exact congrArg Value.string (cat_mk [48] _)⟩, ?_⟩
        simp [strLen_cat, strLen_mk, ByteArray.size]; omega
      · have hk3 : k = 3 - d.length := by omega
        have hL : List.replicate k 48 ++ d = pad3 d := by rw [hk3]; rfl
        rw [hL]
        have hlen : 3 ≤ (pad3 d).length ∧ (pad3 d).length ≤ 24 := by rw [← hL]; simp; omega
        clear hL hk3
        have hPD := HD.out
        generalize hP : pad3 d = L at *
        have HP := Lib.hid hP
        clear hP hPD
        obtain ⟨hl1, hl2⟩ := hlen
        have hsub : IntKind.i64.wrap ((L.length : Int) - 2) = (L.length : Int) - 2 := IntWalk.i64_in _ (by omega)
        have hsub0 : 0 ≤ (L.length : Int) - 2 := by omega
        have hsubn : ((L.length : Int) - 2).toNat = L.length - 2 := by omega
        go_quiet (fail)
        go_wp2
        go_ret
        exact ⟨ret_str' (by
          rw [ex_mk, ex_mk]
          refine (congrArg (fun x => (⟨[45].toArray⟩ : ByteArray) ++ x) (cat3_mk _ [46] _)).trans ?_
          rw [cat_mk, ← HP.out, ← HD.out, amtText_neg m (by omega) (by omega)]
          exact mk_congr (body_eq m)), by repeat (first | exact hb1 | apply below_drewN)⟩
  · obtain ⟨m, hm⟩ : ∃ m : Nat, n = (m : Int) := ⟨n.natAbs, by omega⟩
    subst hm
    have hm1 : (m : Int) ≤ 1000000000000 := by omega
    have hm0 : 0 ≤ (m : Int) := by omega
    clear h1 h2 hn
    have HT := Lib.hid (dec_len_le (m := m) (by omega))
    go_enter Tryd.func39, Tryd.ntmps39
    go_wp2_with fail
    refine (moneyValid_yes _ _ (by omega) (by omega)).mono ?_
    rintro e w' ⟨rfl, rfl⟩
    go_wp2_with fail
    refine (itoa_nat _ m _ (by omega) (by omega) hE).mono ?_
    rintro e w1 ⟨rfl, hb1⟩
    generalize hd : Lib.decDigits m = d at *
    have HD := Lib.hid hd
    clear hd
    have hd1 := HT.out
    go_wp2_with fail
    go_loop [3] (fun v => ∃ k : Nat, k ≤ 3 - d.length ∧ v = .string ⟨(List.replicate k 48 ++ d).toArray⟩) (fun v => 3 - strLen v)
    case atStart => exact ⟨0, Nat.zero_le _, rfl⟩
    case round =>
      obtain ⟨k, hk, rfl⟩ := hrel
      go_wp2_with fail
      · refine ⟨⟨k + 1, by omega, by rw [List.replicate_succ]; exact congrArg Value.string (cat_mk [48] _)⟩, ?_⟩
        simp [strLen_cat, strLen_mk, ByteArray.size]; omega
      · have hk3 : k = 3 - d.length := by omega
        have hL : List.replicate k 48 ++ d = pad3 d := by rw [hk3]; rfl
        rw [hL]
        have hlen : 3 ≤ (pad3 d).length ∧ (pad3 d).length ≤ 24 := by rw [← hL]; simp; omega
        clear hL hk3
        have hPD := HD.out
        generalize hP : pad3 d = L at *
        have HP := Lib.hid hP
        clear hP hPD
        obtain ⟨hl1, hl2⟩ := hlen
        have hsub : IntKind.i64.wrap ((L.length : Int) - 2) = (L.length : Int) - 2 := IntWalk.i64_in _ (by omega)
        have hsub0 : 0 ≤ (L.length : Int) - 2 := by omega
        have hsubn : ((L.length : Int) - 2).toNat = L.length - 2 := by omega
        go_quiet (fail)
        go_wp2
        go_ret
        exact ⟨ret_str' (by
          rw [ex_mk, ex_mk]
          refine (cat3_mk _ [46] _).trans ?_
          rw [← HP.out, ← HD.out, amtText_pos m (by omega)]
          exact mk_congr (body_eq' m)), by repeat (first | exact hb1 | apply below_drewN)⟩
theorem rdig_small (m : Nat) (w : World) (h : m < 10) : Calls Tryd.prog 59 #[.int .i64 m] w fun e w' => e = .returned (.string ⟨(Lib.decDigits m).toArray⟩) ∧ Below w.heap.size w w' := by
  have hd : decide (10 ≤ (m : Int)) = false := by simp; omega
  have hrun := run_byte_string w (48 + m)
  rw [Lib.decDigits_one h]
  go_enter Tryd.func59, Tryd.ntmps59
  go_wp2_with fail
  go_ret
  exact ⟨rfl, (Below.refl _ _).alloc (Nat.le_refl _) _⟩
theorem rdig_any (k : Nat) : ∀ (m : Nat) (w : World), m < 10 ^ k → m ≤ 1000000000000000000 →
    Calls Tryd.prog 59 #[.int .i64 m] w fun e w' => e = .returned (.string ⟨(Lib.decDigits m).toArray⟩) ∧ Below w.heap.size w w' := by
  induction k with
  | zero =>
    intro m w hm _
    exact rdig_small m w (by simp at hm; omega)
  | succ k ih =>
    intro m w hm hb
    by_cases h : m < 10
    · exact rdig_small m w h
    · have hd : decide (10 ≤ (m : Int)) = true := by simp; omega
      have e1 : ((m : Int) / 10) = ((m / 10 : Nat) : Int) := by omega
      have e2 : ((m : Int) % 10) = ((m % 10 : Nat) : Int) := by omega
      have E1 := Lib.hid e1
      have E2 := Lib.hid e2
      have IH := Lib.hid ih
      have hl : (Lib.decDigits (m / 10)).length ≤ 21 := by
        have := Lib.itoa_length_le ((m / 10 : Nat) : Int) (by omega) (by omega)
        rwa [Lib.itoa_nonneg] at this
      have hl2 : (Lib.decDigits (m % 10)).length ≤ 21 := by
        have := Lib.itoa_length_le ((m % 10 : Nat) : Int) (by omega) (by omega)
        rwa [Lib.itoa_nonneg] at this
      clear e1 e2 ih h
      rw [Lib.decDigits, dif_neg (by have := of_decide_eq_true hd; omega)]
      go_enter Tryd.func59, Tryd.ntmps59
      go_wp2_with fail
      rw [E1.out]
      refine (IH.out (m / 10) _ (by rw [Nat.pow_succ] at hm; omega) (by omega)).mono ?_
      rintro e w1 ⟨rfl, hb1⟩
      go_wp2_with fail
      rw [E2.out]
      refine (rdig_small (m % 10) _ (by omega)).mono ?_
      rintro e w2 ⟨rfl, hb2⟩
      go_wp2_with fail
      go_ret
      exact ⟨ret_str' ((cat_mk _ _).trans (mk_congr (by rw [Lib.decDigits_one (show m % 10 < 10 by omega)]))), below_two hb1 hb2⟩
theorem rdig_int (x : Int) (m : Nat) (w : World) (hx : x = m) (hm : m ≤ 1000000000000000000) :
    Calls Tryd.prog 59 #[.int .i64 x] w fun e w' => e = .returned (.string ⟨(Lib.decDigits m).toArray⟩) ∧ Below w.heap.size w w' := by
  subst hx
  exact rdig_any 19 m w (by omega) hm
theorem refMon_pos (m : Nat) (w : World) (hm : (m : Int) ≤ 1000000000000) :
    Calls Tryd.prog 43 #[.int .i64 m] w fun e w' => e = .returned (.string ⟨(amtBody m).toArray⟩) ∧ Below w.heap.size w w' := by
  have ho : okAmt (m : Int) = true := okAmt_yes (by omega)
  have hnd : decide ((m : Int) < 0) = false := by simp
  have l1 := dec_len_le (m := m / 100) (by omega)
  have l2 := dec_len_le (m := m / 10 % 10) (by omega)
  have l3 := dec_len_le (m := m % 10) (by omega)
  go_enter Tryd.func43, Tryd.ntmps43
  go_wp2_with (go_at_call 30; refine (refAmt_any _ _).mono ?_; rintro e w' ⟨rfl, rfl⟩)
  refine (rdig_int _ (m / 100) _ (by omega) (by omega)).mono ?_
  rintro e w1 ⟨rfl, hb1⟩
  go_wp2_with fail
  refine (rdig_int _ (m / 10 % 10) _ (by omega) (by omega)).mono ?_
  rintro e w2 ⟨rfl, hb2⟩
  go_wp2_with fail
  refine (rdig_int _ (m % 10) _ (by omega) (by omega)).mono ?_
  rintro e w3 ⟨rfl, hb3⟩
  go_wp2_with fail
  go_ret
  refine ⟨ret_str' ?_, below_two (below_two hb1 hb2) hb3⟩
  refine (congrArg (fun x : ByteArray => x ++ ⟨(Lib.decDigits (m / 10 % 10)).toArray⟩ ++ ⟨(Lib.decDigits (m % 10)).toArray⟩) (cat_mk (Lib.decDigits (m / 100)) [46])).trans ?_
  rw [cat3_mk]
  refine mk_congr ?_
  rw [Lib.decDigits_one (show m / 10 % 10 < 10 by omega), Lib.decDigits_one (show m % 10 < 10 by omega)]
  simp [amtBody, two]
theorem refMon_any (n : Int) (w : World) :
    Calls Tryd.prog 43 #[.int .i64 n] w fun e w' => e = .returned (.string ⟨(amtText n).toArray⟩) ∧ Below w.heap.size w w' := by
  cases ho : okAmt n
  · have e : amtText n = [] := by unfold amtText; rw [ho]; rfl
    rw [e]
    clear e
    go_enter Tryd.func43, Tryd.ntmps43
    go_wp2_with (go_at_call 30; refine (refAmt_any _ _).mono ?_; rintro e w' ⟨rfl, rfl⟩)
    go_ret
    exact ⟨rfl, Below.refl _ _⟩
  · have hb := okAmt_iff.1 ho
    by_cases hn : n < 0
    · obtain ⟨m, hm⟩ : ∃ m : Nat, n = -(m : Int) := ⟨n.natAbs, by omega⟩
      subst hm
      have hm0 : 0 < (m : Int) := by omega
      have hm1 : (m : Int) ≤ 1000000000000 := by omega
      have hl : (amtBody m).length ≤ 30 := by
        have := dec_len_le (m := m / 100) (by omega)
        simp [amtBody, two]; omega
      rw [amtText_neg m hm0 hm1]
      clear hb hn
      go_enter Tryd.func43, Tryd.ntmps43
      go_wp2_with (go_at_call 30; refine (refAmt_any _ _).mono ?_; rintro e w' ⟨rfl, rfl⟩)
      refine (refMon_pos m _ hm1).mono ?_
      rintro e w1 ⟨rfl, hb1⟩
      go_wp2_with fail
      go_ret
      exact ⟨ret_str' (cat_mk [45] _), hb1⟩
    · obtain ⟨m, hm⟩ : ∃ m : Nat, n = (m : Int) := ⟨n.natAbs, by omega⟩
      subst hm
      rw [amtText_pos m hb.2]
      exact refMon_pos m w hb.2
theorem moneyText_all (n : Int) (w : World) (hE : Env w) :
    Calls Tryd.prog 39 #[.int .i64 n] w fun e w' => e = .returned (.string ⟨(amtText n).toArray⟩) ∧ Below w.heap.size w w' := by
  cases ho : okAmt n
  · have e : amtText n = [] := by unfold amtText; rw [ho]; rfl
    rw [e]
    clear e
    go_enter Tryd.func39, Tryd.ntmps39
    go_wp2_with (go_at_call 28; refine (moneyValid_any _ _).mono ?_; rintro e w' ⟨rfl, rfl⟩)
    go_ret
    exact ⟨rfl, Below.refl _ _⟩
  · exact moneyText_any n w hE (okAmt_iff.1 ho).1 (okAmt_iff.1 ho).2
end Go.Proofs.YtenlbjobjnpghaaDoor
