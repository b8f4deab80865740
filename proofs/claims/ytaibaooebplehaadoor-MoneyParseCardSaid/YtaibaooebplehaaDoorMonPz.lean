/-
  Parsing amounts: plain laws, no program in sight.
-/
import Derived.Test.YtaibaooebplehaaDoorMonText
import Derived.Test.YtaibaooebplehaaDoorBytes
namespace Go.Proofs.YtaibaooebplehaaDoor
open Go.Lib
def mD (l : List UInt8) : List UInt8 := Go.Lib.trimPrefix l [45]
def mW (l : List UInt8) : List UInt8 := (Go.Lib.cut (mD l) [46]).1
def mC (l : List UInt8) : List UInt8 := (Go.Lib.cut (mD l) [46]).2.1
def mF (l : List UInt8) : Bool := (Go.Lib.cut (mD l) [46]).2.2
def mOk (l : List UInt8) : Bool := mF l && isNum (mW l) && isNum (mC l) && decide ((mC l).length = 2) && !(decide (1 < (mW l).length) && ((mW l).getD 0 0 == 48)) && !(l == [45, 48, 46, 48, 48])
def mVal (l : List UInt8) : Int := if Go.Lib.hasPrefix l [45] then -(decVal (mW l ++ mC l) : Int) else decVal (mW l ++ mC l)
def mLong (l : List UInt8) : Bool := decide (30 < l.length) || decide (11 < (mW l).length)
def pz1 (l : List UInt8) : Int := if mOk l then (if mLong l then 0 else chk1 (mVal l)) else 0
def pz2 (l : List UInt8) : Int := if mOk l then (if mLong l then 2 else chk2 (mVal l)) else 3
theorem cut_lens (l : List UInt8) : (mW l).length ≤ l.length ∧ (mC l).length ≤ l.length := by
  have hd : (mD l).length ≤ l.length := Lib.trimPrefix_le l [45]
  unfold mW mC Lib.cut
  split
  · simp; omega
  · simp; omega
theorem isNum_append {a b : List UInt8} (ha : isNum a = true) (hb : isNum b = true) : isNum (a ++ b) = true := by
  unfold isNum at *
  simp only [Bool.and_eq_true] at *
  refine ⟨by rw [List.all_append, ha.1, hb.1]; rfl, ?_⟩
  cases a with
  | nil => simp at ha
  | cons => simp

theorem chk_out {v : Int} (h : 1000000000000 < v ∨ v < -1000000000000) : chk1 v = 0 ∧ chk2 v = 2 := by
  unfold chk1 chk2; rw [okAmt_no (by omega)]; simp
theorem amtText_neg' (m : Nat) (h : 0 < (m : Int)) (h' : (m : Int) ≤ 1000000000000) : amtText (-(m : Int)) = 45 :: amtBody m := by
  unfold amtText
  rw [okAmt_yes (by omega), if_pos rfl, if_pos (by omega)]
  simp
theorem amtText_pos' (m : Nat) (h' : (m : Int) ≤ 1000000000000) : amtText (m : Int) = amtBody m := by
  unfold amtText
  rw [okAmt_yes (by omega), if_pos rfl, if_neg (by omega)]
  simp
/-! decimal digits -/
theorem dig_of {d : Nat} (h : d < 10) : isDig (UInt8.ofNat (48 + d)) = true ∧ (UInt8.ofNat (48 + d)).toNat = 48 + d := by
  have : (UInt8.ofNat (48 + d)).toNat = 48 + d := by simp; omega
  exact ⟨isDig_iff.2 (by omega), this⟩
theorem dec_all (m : Nat) : (decDigits m).all isDig = true := by
  induction m using Nat.strongRecOn with
  | _ m ih =>
    by_cases h : m < 10
    · rw [decDigits_one h, List.all_cons, (dig_of h).1]; rfl
    · rw [dec_step (by omega), List.all_append, ih _ (by omega)]
      rw [List.all_cons, (dig_of (show m % 10 < 10 by omega)).1]; rfl
theorem dec_num (m : Nat) : isNum (decDigits m) = true := by
  unfold isNum
  rw [dec_all]
  have := dec_len_pos m
  cases h : decDigits m with
  | nil => rw [h] at this; simp at this
  | cons => rfl
theorem dec_val (m : Nat) : decVal (decDigits m) = m := by
  induction m using Nat.strongRecOn with
  | _ m ih =>
    by_cases h : m < 10
    · rw [decDigits_one h]
      have := (dig_of h).2
      simp only [decVal, List.foldl_cons, List.foldl_nil, this]
      omega
    · rw [dec_step (by omega), decVal_snoc, ih _ (by omega), (dig_of (show m % 10 < 10 by omega)).2]
      omega
theorem dec_head {m : Nat} (h : 1 ≤ m) : 49 ≤ ((decDigits m).getD 0 0).toNat := by
  induction m using Nat.strongRecOn with
  | _ m ih =>
    by_cases h9 : m < 10
    · rw [decDigits_one h9]
      have := (dig_of h9).2
      simp only [List.getD_cons_zero, this]
      omega
    · rw [dec_step (by omega)]
      have := ih (m / 10) (by omega) (by omega)
      have hp := dec_len_pos (m / 10)
      cases hd : decDigits (m / 10) with
      | nil => rw [hd] at hp; simp at hp
      | cons b r => rw [hd] at this; simpa using this
/-- digits without a needless zero are the digits of their value -/
theorem dec_canon (l : List UInt8) (h : isNum l = true) (h0 : l.length = 1 ∨ 49 ≤ (l.getD 0 0).toNat) : decDigits (decVal l) = l := by
  have key : ∀ (n : Nat) (l : List UInt8), l.length = n → isNum l = true → (l.length = 1 ∨ 49 ≤ (l.getD 0 0).toNat) → decDigits (decVal l) = l := by
    intro n
    induction n with
    | zero =>
      intro l hl hn _
      rw [List.length_eq_zero_iff] at hl
      subst hl
      simp [isNum] at hn
    | succ n ih =>
      intro l hl hn h0
      obtain ⟨r, b, rfl⟩ : ∃ r b, l = r ++ [b] := by
        rcases List.eq_nil_or_concat l with rfl | ⟨r, b, rfl⟩
        · simp at hl
        · exact ⟨r, b, by simp⟩
      have hall : r.all isDig = true ∧ isDig b = true := by
        unfold isNum at hn
        simp only [Bool.and_eq_true] at hn
        have := hn.1
        rw [List.all_append] at this
        simpa using this
      have hb := isDig_iff.1 hall.2
      have eb : UInt8.ofNat (48 + (b.toNat - 48)) = b := by
        rw [show 48 + (b.toNat - 48) = b.toNat by omega]; exact UInt8.ofNat_toNat
      rw [decVal_snoc]
      cases hr : r with
      | nil =>
        simp only [decVal, List.foldl_nil, List.nil_append]
        rw [decDigits_one (by omega), show 48 + (0 * 10 + (b.toNat - 48)) = 48 + (b.toNat - 48) by omega, eb]
      | cons x r' =>
        have hx : 49 ≤ x.toNat := by
          rcases h0 with h0 | h0
          · rw [hr] at h0; simp at h0
          · rw [hr] at h0; simpa using h0
        have hrn : isNum r = true := by unfold isNum; rw [hall.1, hr]; rfl
        have hge : 1 ≤ decVal r := by
          have := decVal_ge (b := x) (l := r') hx
          rw [hr]
          exact Nat.le_trans (Nat.one_le_pow _ _ (by omega)) this
        have hv : decDigits (decVal r) = r := ih r (by simpa using hl) hrn (.inr (by rw [hr]; simpa using hx))
        rw [← hr, dec_step (by omega), show (decVal r * 10 + (b.toNat - 48)) / 10 = decVal r by omega, show (decVal r * 10 + (b.toNat - 48)) % 10 = b.toNat - 48 by omega, hv, eb]
  exact key l.length l rfl h h0
theorem dig_ne_point {l : List UInt8} (h : l.all isDig = true) : (46 : UInt8) ∉ l := by
  intro hm
  have := isDig_iff.1 (List.all_eq_true.1 h 46 hm)
  exact absurd this.1 (by decide)
theorem dig_ne_minus {l : List UInt8} (h : l.all isDig = true) : (45 : UInt8) ∉ l := by
  intro hm
  have := isDig_iff.1 (List.all_eq_true.1 h 45 hm)
  exact absurd this.1 (by decide)
/-- what stands behind the sign, cut at its point -/
theorem cut_parts {l W C : List UInt8} (h : mD l = W ++ 46 :: C) (hW : (46 : UInt8) ∉ W) : mW l = W ∧ mC l = C ∧ mF l = true := by
  unfold mW mC mF
  rw [h, cut_at hW]
  exact ⟨rfl, rfl, rfl⟩
theorem two_num (m : Nat) : isNum (two m) = true := by
  unfold two isNum
  rw [List.all_cons, List.all_cons, (dig_of (show m / 10 % 10 < 10 by omega)).1, (dig_of (show m % 10 < 10 by omega)).1]; rfl
theorem val_body (m : Nat) : decVal (decDigits (m / 100) ++ two m) = m := by
  have : decDigits (m / 100) ++ two m = (decDigits (m / 100) ++ [UInt8.ofNat (48 + m / 10 % 10)]) ++ [UInt8.ofNat (48 + m % 10)] := by simp [two]
  rw [this, decVal_snoc, decVal_snoc, dec_val, (dig_of (show m / 10 % 10 < 10 by omega)).2, (dig_of (show m % 10 < 10 by omega)).2]
  omega
theorem dec_len_11 {m : Nat} (h : m ≤ 10000000000) : (decDigits m).length ≤ 11 := by
  rw [decDigits_length]
  by_cases h0 : m = 0
  · subst h0; rw [nDigits_small (by omega)]; omega
  · have h1 := decVal_ge (b := (decDigits m).getD 0 0) (l := (decDigits m).drop 1) (dec_head (by omega))
    have hp := dec_len_pos m
    have e : (decDigits m).getD 0 0 :: (decDigits m).drop 1 = decDigits m := by
      cases hd : decDigits m with
      | nil => rw [hd] at hp; simp at hp
      | cons => rfl
    rw [e, dec_val, List.length_drop, decDigits_length] at h1
    rcases Nat.lt_or_ge 11 (nDigits m) with hlt | hge
    · have : 10 ^ 11 ≤ 10 ^ (nDigits m - 1) := Nat.pow_le_pow_right (by omega) (by omega)
      omega
    · exact hge
theorem body_first (m : Nat) : (amtBody m).head? ≠ some 45 := by
  unfold amtBody
  have hp := dec_len_pos (m / 100)
  cases hd : decDigits (m / 100) with
  | nil => rw [hd] at hp; simp at hp
  | cons b r =>
    intro h
    have : b = 45 := by simpa using h
    have hm := dig_ne_minus (dec_all (m / 100))
    rw [hd, this] at hm
    simp at hm
theorem body_ok (m : Nat) (hm : m ≤ 1000000000000) : isNum (decDigits (m / 100)) = true ∧ (!(decide (1 < (decDigits (m / 100)).length) && ((decDigits (m / 100)).getD 0 0 == 48))) = true ∧ (decDigits (m / 100)).length ≤ 11 ∧ (amtBody m).length ≤ 14 := by
  have h11 := dec_len_11 (m := m / 100) (by omega)
  refine ⟨dec_num _, ?_, h11, by simp [amtBody, two]; omega⟩
  by_cases h : m / 100 < 10
  · rw [decDigits_one h]; rfl
  · have := dec_head (m := m / 100) (by omega)
    have : ((decDigits (m / 100)).getD 0 0 == 48) = false := by
      rw [beq_eq_false_iff_ne]
      intro e
      rw [e] at this
      exact absurd this (by decide)
    rw [this]; simp
theorem parse_pos (m : Nat) (hm : (m : Int) ≤ 1000000000000) : pz1 (amtBody m) = m ∧ pz2 (amtBody m) = 0 := by
  obtain ⟨b1, b2, b3, b4⟩ := body_ok m (by omega)
  have hD : mD (amtBody m) = decDigits (m / 100) ++ 46 :: two m := trimPrefix_no (body_first m)
  obtain ⟨eW, eC, eF⟩ := cut_parts hD (dig_ne_point (dec_all _))
  have hneg : hasPrefix (amtBody m) [45] = false := by rw [hasPrefix_one]; simpa using body_first m
  have hz : (amtBody m == [45, 48, 46, 48, 48]) = false := by
    rw [beq_eq_false_iff_ne]
    intro e
    exact body_first m (by rw [e]; rfl)
  have hok : mOk (amtBody m) = true := by
    unfold mOk
    rw [eW, eC, eF, b1, two_num, b2, hz]
    rfl
  have hlong : mLong (amtBody m) = false := by
    unfold mLong
    rw [eW, decide_eq_false (by omega), decide_eq_false (by omega)]; rfl
  have hv : mVal (amtBody m) = m := by
    unfold mVal
    rw [hneg, eW, eC, val_body]; rfl
  have ho := okAmt_yes (n := (m : Int)) (by omega)
  unfold pz1 pz2
  rw [hok, hlong, hv]
  unfold chk1 chk2
  rw [ho]
  exact ⟨rfl, rfl⟩
theorem parse_neg (m : Nat) (h0 : 0 < (m : Int)) (hm : (m : Int) ≤ 1000000000000) : pz1 (45 :: amtBody m) = -m ∧ pz2 (45 :: amtBody m) = 0 := by
  obtain ⟨b1, b2, b3, b4⟩ := body_ok m (by omega)
  have hD : mD (45 :: amtBody m) = decDigits (m / 100) ++ 46 :: two m := trimPrefix_cons _ _
  obtain ⟨eW, eC, eF⟩ := cut_parts hD (dig_ne_point (dec_all _))
  have hneg : hasPrefix (45 :: amtBody m) [45] = true := by rw [hasPrefix_one]; rfl
  have hz : ((45 :: amtBody m) == [45, 48, 46, 48, 48]) = false := by
    rw [beq_eq_false_iff_ne]
    intro e
    have e2 : amtBody m = [48, 46, 48, 48] := by simpa using e
    have h1 := congrArg (fun l => (parse_pos m hm).1) e2
    have h2 := (parse_pos m hm).1
    rw [e2] at h2
    have : pz1 [48, 46, 48, 48] = 0 := by decide +kernel
    omega
  have hok : mOk (45 :: amtBody m) = true := by
    unfold mOk
    rw [eW, eC, eF, b1, two_num, b2, hz]
    rfl
  have hlong : mLong (45 :: amtBody m) = false := by
    unfold mLong
    rw [eW, decide_eq_false (by simp; omega), decide_eq_false (by omega)]; rfl
  have hv : mVal (45 :: amtBody m) = -m := by
    unfold mVal
    rw [hneg, eW, eC, val_body]; rfl
  have ho := okAmt_yes (n := -(m : Int)) (by omega)
  unfold pz1 pz2
  rw [hok, hlong, hv]
  unfold chk1 chk2
  rw [ho]
  exact ⟨rfl, rfl⟩
/-! and back: what is parsed is the text of the result -/
theorem parts_of {l : List UInt8} (h : mF l = true) : mD l = mW l ++ 46 :: mC l ∧ (46 : UInt8) ∉ mW l := by
  by_cases hm : (46 : UInt8) ∈ mD l
  · obtain ⟨a, b, e, hn⟩ := split_at hm
    obtain ⟨eW, eC, _⟩ := cut_parts e hn
    rw [eW, eC]
    exact ⟨e, hn⟩
  · unfold mF at h
    rw [cut_no hm] at h
    cases h
theorem strip_of (l : List UInt8) : (hasPrefix l [45] = true ∧ l = 45 :: mD l) ∨ (hasPrefix l [45] = false ∧ l = mD l) := by
  rw [hasPrefix_one]
  cases l with
  | nil => right; exact ⟨rfl, rfl⟩
  | cons b r =>
    by_cases hb : b = 45
    · subst hb; left; exact ⟨by simp, by unfold mD; rw [trimPrefix_cons]⟩
    · right; exact ⟨by simpa using hb, (trimPrefix_no (by simpa using hb)).symm⟩
theorem ok_parts {l : List UInt8} (h : mOk l = true) : mF l = true ∧ isNum (mW l) = true ∧ isNum (mC l) = true ∧ (mC l).length = 2 ∧ ((mW l).length = 1 ∨ 49 ≤ ((mW l).getD 0 0).toNat) ∧ l ≠ [45, 48, 46, 48, 48] := by
  unfold mOk at h
  simp only [Bool.and_eq_true, decide_eq_true_eq, Bool.not_eq_true', Bool.and_eq_false_iff, decide_eq_false_iff_not] at h
  obtain ⟨⟨⟨⟨⟨hf, hw⟩, hc⟩, h2⟩, h01⟩, hz⟩ := h
  refine ⟨hf, hw, hc, h2, ?_, by rw [beq_eq_false_iff_ne] at hz; exact hz⟩
  cases hW : mW l with
  | nil => rw [hW] at hw; simp [isNum] at hw
  | cons b r =>
    rw [hW] at h01 hw
    by_cases hr : (b :: r).length = 1
    · exact .inl hr
    · right
      rcases h01 with h | h
      · simp only [List.length_cons] at h hr; omega
      · rw [beq_eq_false_iff_ne] at h
        have hb : isDig b = true := by
          unfold isNum at hw
          simp only [Bool.and_eq_true, List.all_cons] at hw
          exact hw.1.1
        have := isDig_iff.1 hb
        have hne : b.toNat ≠ 48 := fun e => h (UInt8.toNat_inj.1 e)
        simp only [List.getD_cons_zero]
        omega
theorem two_of {C : List UInt8} (h : isNum C = true) (h2 : C.length = 2) (W : List UInt8) : two (decVal (W ++ C)) = C ∧ decVal (W ++ C) / 100 = decVal W := by
  match C, h2 with
  | [c1, c2], _ =>
    unfold isNum at h
    simp only [List.all_cons, List.all_nil, Bool.and_true, Bool.and_eq_true] at h
    have h1 := isDig_iff.1 h.1.1
    have h2 := isDig_iff.1 h.1.2
    have e : W ++ [c1, c2] = (W ++ [c1]) ++ [c2] := by simp
    rw [e, decVal_snoc, decVal_snoc]
    refine ⟨?_, by omega⟩
    unfold two
    have e1 : ((decVal W * 10 + (c1.toNat - 48)) * 10 + (c2.toNat - 48)) / 10 % 10 = c1.toNat - 48 := by omega
    have e2 : ((decVal W * 10 + (c1.toNat - 48)) * 10 + (c2.toNat - 48)) % 10 = c2.toNat - 48 := by omega
    rw [e1, e2, show 48 + (c1.toNat - 48) = c1.toNat by omega, show 48 + (c2.toNat - 48) = c2.toNat by omega, UInt8.ofNat_toNat, UInt8.ofNat_toNat]
theorem text_parse {l : List UInt8} (h : pz2 l = 0) : amtText (pz1 l) = l := by
  cases hok : mOk l
  · unfold pz2 at h; rw [hok] at h; cases h
  cases hlong : mLong l
  rotate_left
  · unfold pz2 at h; rw [hok, hlong] at h; cases h
  cases ho : okAmt (mVal l)
  · unfold pz2 chk2 at h; rw [hok, hlong, ho] at h; cases h
  have e1 : pz1 l = mVal l := by unfold pz1 chk1; rw [hok, hlong, ho]; rfl
  obtain ⟨hf, hw, hc, h2, h0, hz⟩ := ok_parts hok
  obtain ⟨hD, _⟩ := parts_of hf
  obtain ⟨ht, hq⟩ := two_of hc h2 (mW l)
  have hcan := dec_canon _ hw h0
  have hbody : amtBody (decVal (mW l ++ mC l)) = mD l := by
    unfold amtBody
    rw [hq, hcan, ht, hD]
  have hb := okAmt_iff.1 ho
  rw [e1]
  unfold mVal at hb ⊢
  rcases strip_of l with ⟨hp, hl⟩ | ⟨hp, hl⟩
  · rw [hp] at hb ⊢
    simp only [if_true] at hb ⊢
    by_cases hv : decVal (mW l ++ mC l) = 0
    · exfalso
      rw [hv] at hbody
      have : amtBody 0 = [48, 46, 48, 48] := by decide +kernel
      rw [this] at hbody
      exact hz (by rw [hl, ← hbody])
    · rw [amtText_neg' (decVal (mW l ++ mC l)) (by omega) (by omega), hbody]
      exact hl.symm
  · rw [hp] at hb ⊢
    simp only [Bool.false_eq_true, if_false] at hb ⊢
    rw [amtText_pos' (decVal (mW l ++ mC l)) (by omega), hbody]
    exact hl.symm
/-! the reference's form -/
def formAt (t : List UInt8) (i : Nat) : Bool := i == t.length - 3 || isDig (t.getD i 0)
def formB (t : List UInt8) : Bool := decide (4 ≤ t.length) && (t.getD (t.length - 3) 0 == 46) && !((t.getD 0 0 == 48) && decide (4 < t.length)) && (List.range t.length).all (formAt t)
theorem take_getD {t : List UInt8} {k i : Nat} (h : i < k) : (t.take k).getD i 0 = t.getD i 0 := by
  simp only [List.getD, List.getElem?_take, if_pos h]
theorem all_of_getD {l : List UInt8} (h : ∀ i, i < l.length → isDig (l.getD i 0) = true) : l.all isDig = true := by
  rw [List.all_eq_true]
  intro x hx
  obtain ⟨i, hi, rfl⟩ := List.getElem_of_mem hx
  have := h i hi
  simpa [List.getD, hi] using this
theorem getD_of_all {l : List UInt8} (h : l.all isDig = true) {i : Nat} (hi : i < l.length) : isDig (l.getD i 0) = true := by
  have := List.all_eq_true.1 h l[i] (List.getElem_mem hi)
  simpa [List.getD, hi] using this
theorem form_ok (l : List UInt8) : (formB (mD l) && !(l == [45, 48, 46, 48, 48])) = mOk l := by
  rw [Bool.eq_iff_iff]
  simp only [Bool.and_eq_true, Bool.not_eq_true']
  constructor
  · rintro ⟨hform, hz⟩
    unfold formB at hform
    simp only [Bool.and_eq_true, decide_eq_true_eq, beq_iff_eq, Bool.not_eq_true', Bool.and_eq_false_iff, decide_eq_false_iff_not, List.all_eq_true, List.mem_range] at hform
    obtain ⟨⟨⟨h4, hp⟩, h0⟩, hall⟩ := hform
    generalize hT : mD l = t at *
    have hat : ∀ i, i < t.length → i ≠ t.length - 3 → isDig (t.getD i 0) = true := by
      intro i hi hne
      have := hall i hi
      unfold formAt at this
      simp only [Bool.or_eq_true, beq_iff_eq] at this
      exact this.resolve_left hne
    have hkl : t.length - 3 < t.length := by omega
    have hsplit : t = t.take (t.length - 3) ++ 46 :: t.drop (t.length - 3 + 1) := by
      have e : t[t.length - 3] = 46 := by simpa [List.getD, hkl] using hp
      have := List.drop_eq_getElem_cons hkl
      rw [e] at this
      rw [← this, List.take_append_drop]
    have hW : (t.take (t.length - 3)).all isDig = true := by
      refine all_of_getD fun i hi => ?_
      rw [List.length_take] at hi
      have := hat i (by omega) (by omega)
      rw [take_getD (by omega)]; exact this
    have hC : (t.drop (t.length - 3 + 1)).all isDig = true := by
      refine all_of_getD fun i hi => ?_
      rw [List.length_drop] at hi
      have := hat (t.length - 3 + 1 + i) (by omega) (by omega)
      simpa [List.getD, List.getElem?_drop] using this
    obtain ⟨eW, eC, eF⟩ := cut_parts (l := l) (by rw [hT]; exact hsplit) (dig_ne_point hW)
    have lW : (t.take (t.length - 3)).length = t.length - 3 := by rw [List.length_take]; omega
    have lC : (t.drop (t.length - 3 + 1)).length = 2 := by rw [List.length_drop]; omega
    have nW : isNum (t.take (t.length - 3)) = true := by
      unfold isNum; rw [hW]
      cases hh : t.take (t.length - 3) with
      | nil => rw [hh] at lW; simp at lW; omega
      | cons => rfl
    have nC : isNum (t.drop (t.length - 3 + 1)) = true := by
      unfold isNum; rw [hC]
      cases hh : t.drop (t.length - 3 + 1) with
      | nil => rw [hh] at lC; simp at lC
      | cons => rfl
    have g0 : (t.take (t.length - 3)).getD 0 0 = t.getD 0 0 := take_getD (by omega)
    unfold mOk
    rw [eW, eC, eF, nW, nC, lC, lW, g0, hz]
    have : (decide (1 < t.length - 3) && (t.getD 0 0 == 48)) = false := by
      rcases h0 with h0 | h0
      · rw [h0]; simp
      · rw [decide_eq_false (by omega)]; simp
    rw [this]; rfl
  · intro hok
    obtain ⟨hf, hw, hc, h2, h0, hz⟩ := ok_parts hok
    obtain ⟨hD, _⟩ := parts_of hf
    refine ⟨?_, by rw [beq_eq_false_iff_ne]; exact hz⟩
    have aW : (mW l).all isDig = true := by unfold isNum at hw; simp only [Bool.and_eq_true] at hw; exact hw.1
    have aC : (mC l).all isDig = true := by unfold isNum at hc; simp only [Bool.and_eq_true] at hc; exact hc.1
    have pW : 1 ≤ (mW l).length := by
      cases hh : mW l with
      | nil => rw [hh] at hw; simp [isNum] at hw
      | cons => simp
    have hl : (mD l).length = (mW l).length + 3 := by rw [hD]; simp; omega
    have hk : (mD l).length - 3 = (mW l).length := by omega
    have hgk : (mD l).getD (mW l).length 0 = 46 := by rw [hD]; simp [List.getD]
    have hglt : ∀ i, i < (mW l).length → (mD l).getD i 0 = (mW l).getD i 0 := by
      intro i hi
      rw [hD]; simp [List.getD, List.getElem?_append_left hi]
    have hggt : ∀ i, (mW l).length < i → (mD l).getD i 0 = (mC l).getD (i - (mW l).length - 1) 0 := by
      intro i hi
      rw [hD]
      have : i - (mW l).length = (i - (mW l).length - 1) + 1 := by omega
      simp only [List.getD, List.getElem?_append_right (Nat.le_of_lt hi)]
      rw [this]; simp
    unfold formB
    simp only [Bool.and_eq_true, decide_eq_true_eq, beq_iff_eq, Bool.not_eq_true', Bool.and_eq_false_iff, decide_eq_false_iff_not, List.all_eq_true, List.mem_range]
    refine ⟨⟨⟨by omega, by rw [hk]; exact hgk⟩, ?_⟩, ?_⟩
    · rcases h0 with h0 | h0
      · right; omega
      · left
        rw [beq_eq_false_iff_ne, hglt 0 (by omega)]
        intro e
        rw [e] at h0
        exact absurd h0 (by decide)
    · intro i hi
      unfold formAt
      rw [hk]
      simp only [Bool.or_eq_true, beq_iff_eq]
      by_cases he : i = (mW l).length
      · exact .inl he
      · right
        rcases Nat.lt_or_gt_of_ne he with h | h
        · rw [hglt i h]; exact getD_of_all aW h
        · rw [hggt i h]; exact getD_of_all aC (by omega)
/-! the reference's number -/
def satStep (n : Int) (b : UInt8) : Int := if b == 46 then n else min (10 * n + ((b.toNat : Int) - 48)) 1000000000001
def satVal (t : List UInt8) : Int := t.foldl satStep 0
theorem sat_digits (l : List UInt8) (h : l.all isDig = true) : ∀ a : Nat, l.foldl satStep (min (a : Int) 1000000000001) = min ((l.foldl (fun n b => n * 10 + (b.toNat - 48)) a : Nat) : Int) 1000000000001 := by
  induction l with
  | nil => intro a; rfl
  | cons b r ih =>
    intro a
    simp only [List.all_cons, Bool.and_eq_true] at h
    have hb := isDig_iff.1 h.1
    have h46 : (b == 46) = false := by
      rw [beq_eq_false_iff_ne]; rintro rfl; exact absurd hb.1 (by decide)
    simp only [List.foldl_cons]
    rw [← ih h.2]
    congr 1
    unfold satStep
    rw [h46]
    simp only [Bool.false_eq_true, if_false]
    omega
theorem sat_ok {l : List UInt8} (h : mOk l = true) : satVal (mD l) = min (decVal (mW l ++ mC l) : Int) 1000000000001 := by
  obtain ⟨hf, hw, hc, _, _, _⟩ := ok_parts h
  obtain ⟨hD, _⟩ := parts_of hf
  have aW : (mW l).all isDig = true := by unfold isNum at hw; simp only [Bool.and_eq_true] at hw; exact hw.1
  have aC : (mC l).all isDig = true := by unfold isNum at hc; simp only [Bool.and_eq_true] at hc; exact hc.1
  unfold satVal decVal
  rw [hD, List.foldl_append, List.foldl_cons, List.foldl_append]
  have e1 := sat_digits (mW l) aW 0
  have e0 : (min ((0 : Nat) : Int) 1000000000001) = 0 := by decide
  rw [e0] at e1
  rw [e1]
  have e2 : ∀ n : Int, satStep n 46 = n := fun n => by unfold satStep; rfl
  rw [e2]
  exact sat_digits (mC l) aC _
theorem ref_parse (l : List UInt8) (h : mOk l = true) (h30 : ¬ 30 < l.length) :
    pz1 l = chk1 ((if hasPrefix l [45] then -1 else 1) * satVal (mD l)) ∧ pz2 l = chk2 ((if hasPrefix l [45] then -1 else 1) * satVal (mD l)) := by
  rw [sat_ok h]
  cases hlong : mLong l
  · unfold pz1 pz2 mVal
    rw [h, hlong]
    simp only [if_true, Bool.false_eq_true, if_false]
    generalize decVal (mW l ++ mC l) = v
    by_cases hv : (v : Int) ≤ 1000000000001
    · rw [Int.min_eq_left hv]
      split <;> simp
    · rw [Int.min_eq_right (by omega)]
      split
      · rw [(chk_out (v := -(v : Int)) (by omega)).1, (chk_out (v := -(v : Int)) (by omega)).2, (chk_out (v := -1 * 1000000000001) (by omega)).1, (chk_out (v := -1 * 1000000000001) (by omega)).2]
        exact ⟨rfl, rfl⟩
      · rw [(chk_out (v := (v : Int)) (by omega)).1, (chk_out (v := (v : Int)) (by omega)).2, (chk_out (v := 1 * 1000000000001) (by omega)).1, (chk_out (v := 1 * 1000000000001) (by omega)).2]
        exact ⟨rfl, rfl⟩
  · have hW : 11 < (mW l).length := by
      unfold mLong at hlong
      rw [decide_eq_false h30] at hlong
      simpa using hlong
    obtain ⟨_, hw, _, _, h0, _⟩ := ok_parts h
    have hge : 10 ^ 11 ≤ decVal (mW l) := by
      have hd : 49 ≤ ((mW l).getD 0 0).toNat := by rcases h0 with h0 | h0; omega; exact h0
      have := decVal_ge (b := (mW l).getD 0 0) (l := (mW l).drop 1) hd
      have e : (mW l).getD 0 0 :: (mW l).drop 1 = mW l := by
        cases hh : mW l with
        | nil => rw [hh] at hW; simp at hW
        | cons => rfl
      rw [e, List.length_drop] at this
      exact Nat.le_trans (Nat.pow_le_pow_right (by omega) (by omega)) this
    obtain ⟨_, _, hc, h2, _, _⟩ := ok_parts h
    have hq := (two_of hc h2 (mW l)).2
    have hv : (1000000000001 : Int) ≤ (decVal (mW l ++ mC l) : Int) := by omega
    rw [Int.min_eq_right hv]
    unfold pz1 pz2
    rw [h, hlong]
    simp only [if_true]
    split
    · rw [(chk_out (v := -1 * 1000000000001) (by omega)).1, (chk_out (v := -1 * 1000000000001) (by omega)).2]; exact ⟨rfl, rfl⟩
    · rw [(chk_out (v := 1 * 1000000000001) (by omega)).1, (chk_out (v := 1 * 1000000000001) (by omega)).2]; exact ⟨rfl, rfl⟩
end Go.Proofs.YtaibaooebplehaaDoor
