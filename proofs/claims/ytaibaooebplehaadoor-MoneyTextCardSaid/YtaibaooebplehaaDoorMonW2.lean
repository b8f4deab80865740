/-
  Walk of money.Text: it returns the text of the amount.
-/
import Derived.Test.YtaibaooebplehaaDoorKit
import Derived.Test.YtaibaooebplehaaDoorMonText
import Derived.Test.YtaibaooebplehaaDoorShelf
import Derived.WalkKit
import Derived.WalkSpells
import Derived.WalkLawsBesides
import Derived.Deep.QuietTactic
import Derived.BigQuiet
import Derived.Outline
import Derived.Lib.Hide
namespace Go.Proofs.YtaibaooebplehaaDoor
open Go.RowKit
set_option linter.unusedVariables false
theorem ret_str {a b : List UInt8} (h : a = b) : Ending.returned (.string ⟨a.toArray⟩) = .returned (.string ⟨b.toArray⟩) := by rw [h]
theorem moneyValid_yes (n : Int) (w : World) (h1 : -1000000000000 ≤ n) (h2 : n ≤ 1000000000000) : Calls Tryd.prog 14 #[.int .i64 n] w fun e w' => e = .returned (.bool true) ∧ w = w' := by
  go_enter Tryd.func14, Tryd.ntmps14
  go_wp2
  go_ret
  exact ⟨rfl, rfl⟩
theorem itoa_nat (x : Int) (m : Nat) (w : World) (hx : x = m) (hm : m ≤ 9223372036854775807) (hE : Env w) :
    Calls Tryd.prog 32 #[.int .i64 x] w fun e w' => e = .returned (.string ⟨(Lib.decDigits m).toArray⟩) ∧ Below w.heap.size w w' := by
  subst hx
  refine (Tryd.strconv_Itoa _ (by omega) (by omega) _ hE.tab).mono ?_
  rintro e w1 ⟨rfl, hw1⟩
  exact ⟨by rw [Lib.itoa_nonneg], below_itoa hw1⟩
theorem cat_mk (a b : List UInt8) : (⟨a.toArray⟩ ++ ⟨b.toArray⟩ : ByteArray) = ⟨(a ++ b).toArray⟩ := by
  apply ByteArray.ext
  simp
theorem ret_str' {a b : ByteArray} (h : a = b) : Ending.returned (.string a) = .returned (.string b) := by rw [h]
theorem mk_congr {a b : List UInt8} (h : a = b) : (⟨a.toArray⟩ : ByteArray) = ⟨b.toArray⟩ := by rw [h]
theorem ex_mk (l : List UInt8) (a b : Nat) : (⟨l.toArray⟩ : ByteArray).extract a b = ⟨((l.take b).drop a).toArray⟩ := by
  apply ByteArray.ext
  rw [ByteArray.data_extract]
  simp [List.extract_eq_drop_take']
theorem cat3_mk (a b c : List UInt8) : (⟨a.toArray⟩ ++ ⟨b.toArray⟩ ++ ⟨c.toArray⟩ : ByteArray) = ⟨(a ++ b ++ c).toArray⟩ := by rw [cat_mk, cat_mk]
theorem amtText_neg (m : Nat) (h : 0 < (m : Int)) (h' : (m : Int) ≤ 1000000000000) : amtText (-(m : Int)) = 45 :: amtBody m := by
  unfold amtText
  rw [okAmt_yes (by omega), if_pos rfl, if_pos (by omega)]
  simp
theorem amtText_pos (m : Nat) (h' : (m : Int) ≤ 1000000000000) : amtText (m : Int) = amtBody m := by
  unfold amtText
  rw [okAmt_yes (by omega), if_pos rfl, if_neg (by omega)]
  simp
theorem body_eq (m : Nat) : [45] ++ (List.drop 0 (List.take ((pad3 (Lib.decDigits m)).length - 2) (pad3 (Lib.decDigits m))) ++ [46] ++ List.drop ((pad3 (Lib.decDigits m)).length - 2) (List.take (pad3 (Lib.decDigits m)).length (pad3 (Lib.decDigits m)))) = 45 :: amtBody m := by
  rw [List.take_length, pad3_take, pad3_drop]
  simp [amtBody]
theorem body_eq' (m : Nat) : List.drop 0 (List.take ((pad3 (Lib.decDigits m)).length - 2) (pad3 (Lib.decDigits m))) ++ [46] ++ List.drop ((pad3 (Lib.decDigits m)).length - 2) (List.take (pad3 (Lib.decDigits m)).length (pad3 (Lib.decDigits m))) = amtBody m := by
  rw [List.take_length, pad3_take, pad3_drop]
  simp [amtBody]
def strLen : Value → Nat | .string s => s.size | _ => 0
theorem strLen_mk (l : List UInt8) : strLen (.string ⟨l.toArray⟩) = l.length := by simp [strLen, ByteArray.size]
theorem strLen_cat (a b : ByteArray) : strLen (.string (a ++ b)) = a.size + b.size := ByteArray.size_append
set_option maxHeartbeats 1000000 in
theorem moneyText_any (n : Int) (w : World) (hE : Env w) (h1 : -1000000000000 ≤ n) (h2 : n ≤ 1000000000000) :
    Calls Tryd.prog 22 #[.int .i64 n] w fun e w' => e = .returned (.string ⟨(amtText n).toArray⟩) ∧ Below w.heap.size w w' := by
  by_cases hn : n < 0
  · obtain ⟨m, hm⟩ : ∃ m : Nat, n = -(m : Int) := ⟨n.natAbs, by omega⟩
    subst hm
    have hm1 : (m : Int) ≤ 1000000000000 := by omega
    have hm0 : 0 < (m : Int) := by omega
    clear h1 h2 hn
    have HT := Lib.hid (dec_len_le (m := m) (by omega))
    go_enter Tryd.func22, Tryd.ntmps22
    go_wp2_with fail
    refine (moneyValid_yes _ _ (by omega) (by omega)).mono ?_
    rintro e w' ⟨rfl, rfl⟩
    go_wp2_with fail
    refine (itoa_nat _ m _ (by omega) (by omega) hE).mono ?_
    rintro e w1 ⟨rfl, hb1⟩
    generalize hd : Lib.decDigits m = d at *
    have HD := Lib.hid hd
    clear hd
    have hd1 := HT.out
    go_wp2_with fail
    go_loop [3] (fun v => ∃ k : Nat, k ≤ 3 - d.length ∧ v = .string ⟨(List.replicate k 48 ++ d).toArray⟩) (fun v => 3 - strLen v)
    case atStart => exact ⟨0, Nat.zero_le _, rfl⟩
    case round =>
      obtain ⟨k, hk, rfl⟩ := hrel
      go_wp2_with fail
      · refine ⟨⟨k + 1, by omega, by rw [List.replicate_succ]; exact congrArg Value.string (cat_mk [48] _)⟩, ?_⟩
        simp [strLen_cat, strLen_mk, ByteArray.size]; omega
      · have hk3 : k = 3 - d.length := by omega
        have hL : List.replicate k 48 ++ d = pad3 d := by rw [hk3]; rfl
        rw [hL]
        have hlen : 3 ≤ (pad3 d).length ∧ (pad3 d).length ≤ 24 := by rw [← hL]; simp; omega
        clear hL hk3
        have hPD := HD.out
        generalize hP : pad3 d = L at *
        have HP := Lib.hid hP
        clear hP hPD
        obtain ⟨hl1, hl2⟩ := hlen
        have hsub : IntKind.i64.wrap ((L.length : Int) - 2) = (L.length : Int) - 2 := IntWalk.i64_in _ (by omega)
        have hsub0 : 0 ≤ (L.length : Int) - 2 := by omega
        have hsubn : ((L.length : Int) - 2).toNat = L.length - 2 := by omega
        go_quiet (fail)
        go_wp2
        go_ret
        exact ⟨ret_str' (by
          rw [ex_mk, ex_mk]
          refine (congrArg (fun x => (⟨[45].toArray⟩ : ByteArray) ++ x) (cat3_mk _ [46] _)).trans ?_
          rw [cat_mk, ← HP.out, ← HD.out, amtText_neg m (by omega) (by omega)]
          exact mk_congr (body_eq m)), by repeat (first | exact hb1 | apply below_drewN)⟩
  · obtain ⟨m, hm⟩ : ∃ m : Nat, n = (m : Int) := ⟨n.natAbs, by omega⟩
    subst hm
    have hm1 : (m : Int) ≤ 1000000000000 := by omega
    have hm0 : 0 ≤ (m : Int) := by omega
    clear h1 h2 hn
    have HT := Lib.hid (dec_len_le (m := m) (by omega))
    go_enter Tryd.func22, Tryd.ntmps22
    go_wp2_with fail
    refine (moneyValid_yes _ _ (by omega) (by omega)).mono ?_
    rintro e w' ⟨rfl, rfl⟩
    go_wp2_with fail
    refine (itoa_nat _ m _ (by omega) (by omega) hE).mono ?_
    rintro e w1 ⟨rfl, hb1⟩
    generalize hd : Lib.decDigits m = d at *
    have HD := Lib.hid hd
    clear hd
    have hd1 := HT.out
    go_wp2_with fail
    go_loop [3] (fun v => ∃ k : Nat, k ≤ 3 - d.length ∧ v = .string ⟨(List.replicate k 48 ++ d).toArray⟩) (fun v => 3 - strLen v)
    case atStart => exact ⟨0, Nat.zero_le _, rfl⟩
    case round =>
      obtain ⟨k, hk, rfl⟩ := hrel
      go_wp2_with fail
      · refine ⟨⟨k + 1, by omega, by rw [List.replicate_succ]; exact congrArg Value.string (cat_mk [48] _)⟩, ?_⟩
        simp [strLen_cat, strLen_mk, ByteArray.size]; omega
      · have hk3 : k = 3 - d.length := by omega
        have hL : List.replicate k 48 ++ d = pad3 d := by rw [hk3]; rfl
        rw [hL]
        have hlen : 3 ≤ (pad3 d).length ∧ (pad3 d).length ≤ 24 := by rw [← hL]; simp; omega
        clear hL hk3
        have hPD := HD.out
        generalize hP : pad3 d = L at *
        have HP := Lib.hid hP
        clear hP hPD
        obtain ⟨hl1, hl2⟩ := hlen
        have hsub : IntKind.i64.wrap ((L.length : Int) - 2) = (L.length : Int) - 2 := IntWalk.i64_in _ (by omega)
        have hsub0 : 0 ≤ (L.length : Int) - 2 := by omega
        have hsubn : ((L.length : Int) - 2).toNat = L.length - 2 := by omega
        go_quiet (fail)
        go_wp2
        go_ret
        exact ⟨ret_str' (by
          rw [ex_mk, ex_mk]
          refine (cat3_mk _ [46] _).trans ?_
          rw [← HP.out, ← HD.out, amtText_pos m (by omega)]
          exact mk_congr (body_eq' m)), by repeat (first | exact hb1 | apply below_drewN)⟩
end Go.Proofs.YtaibaooebplehaaDoor
