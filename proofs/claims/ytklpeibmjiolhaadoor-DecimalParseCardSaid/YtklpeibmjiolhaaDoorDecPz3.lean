/-
  What is read from the text of a decimal number: plain laws.
-/
import Derived.Test.YtklpeibmjiolhaaDoorDecPz2
import Derived.Test.YtklpeibmjiolhaaDoorDecW11
namespace Go.Proofs.YtklpeibmjiolhaaDoor
open Go.Lib
set_option linter.unusedVariables false
theorem fold_acc : ∀ (l : List UInt8) (a : Nat), l.foldl (fun n b => n * 10 + (b.toNat - 48)) a = a * 10 ^ l.length + decVal l := by
  intro l
  induction l with
  | nil => intro a; simp [decVal]
  | cons x r ih =>
    intro a
    have e0 : decVal (x :: r) = (x.toNat - 48) * 10 ^ r.length + decVal r := by
      show r.foldl _ (0 * 10 + (x.toNat - 48)) = _
      rw [ih, Nat.zero_mul, Nat.zero_add]
    show r.foldl _ (a * 10 + (x.toNat - 48)) = _
    rw [ih, e0, List.length_cons, Nat.pow_succ]
    have e1 : (a * 10 + (x.toNat - 48)) * 10 ^ r.length = a * (10 ^ r.length * 10) + (x.toNat - 48) * 10 ^ r.length := by rw [Nat.add_mul, Nat.mul_assoc, Nat.mul_comm 10]
    rw [e1]; omega
theorem decVal_cons (x : UInt8) (r : List UInt8) : decVal (x :: r) = (x.toNat - 48) * 10 ^ r.length + decVal r := by
  show r.foldl _ (0 * 10 + (x.toNat - 48)) = _
  rw [fold_acc, Nat.zero_mul, Nat.zero_add]
theorem decVal_app (a b : List UInt8) : decVal (a ++ b) = decVal a * 10 ^ b.length + decVal b := by
  rw [decVal, List.foldl_append, fold_acc]; rfl
theorem decVal_zeros (k : Nat) : decVal (List.replicate k 48) = 0 := by
  induction k with
  | zero => rfl
  | succ k ih => rw [List.replicate_succ, decVal_cons, ih]; simp
theorem zeros_val {l : List UInt8} (h : zerosB l = true) : decVal l = 0 := by
  have : l = List.replicate l.length 48 := by
    rw [List.eq_replicate_iff]
    refine ⟨rfl, fun b hb => ?_⟩
    unfold zerosB at h
    rw [List.all_eq_true] at h
    exact eq_of_beq (h b hb)
  rw [this, decVal_zeros]
theorem dec_len {m k : Nat} (h : 10 ^ k ≤ m) (h' : m < 10 ^ (k + 1)) : (decDigits m).length = k + 1 := by
  have h1 := decVal_lt (dec_all m)
  rw [dec_val] at h1
  have h0 : 1 ≤ m := Nat.le_trans (Nat.one_le_pow _ _ (by omega)) h
  have hh := dec_head h0
  have hv := dec_val m
  have a : k < (decDigits m).length := (Nat.pow_lt_pow_iff_right (by omega)).1 (Nat.lt_of_le_of_lt h h1)
  cases hd : decDigits m with
  | nil => rw [hd] at a; simp at a
  | cons x r =>
    rw [hd] at hh hv a
    have hg := decVal_ge (b := x) (l := r) (by simpa using hh)
    rw [hv] at hg
    have : r.length < k + 1 := (Nat.pow_lt_pow_iff_right (a := 10) (by omega)).1 (Nat.lt_of_le_of_lt hg h')
    simp at a ⊢
    omega
theorem dec_len_le' {m k : Nat} (h : m < 10 ^ (k + 1)) : (decDigits m).length ≤ k + 1 := by
  by_cases h0 : m = 0
  · subst h0; rw [decDigits_one (by omega)]; simp
  · have hh := dec_head (show 1 ≤ m by omega)
    have hv := dec_val m
    cases hd : decDigits m with
    | nil => simp
    | cons x r =>
      rw [hd] at hh hv
      have hg := decVal_ge (b := x) (l := r) (by simpa using hh)
      rw [hv] at hg
      have : r.length < k + 1 := (Nat.pow_lt_pow_iff_right (a := 10) (by omega)).1 (Nat.lt_of_le_of_lt hg h)
      simp
      omega
theorem dec_pad {k r : Nat} (h : r < 10 ^ k) : ∃ P, (decDigits (10 ^ k + r)).drop 1 = P ∧ P.length = k ∧ P.all isDig = true ∧ decVal P = r := by
  have h0 : 1 ≤ 10 ^ k := Nat.one_le_pow _ _ (by omega)
  have hl := dec_len (m := 10 ^ k + r) (k := k) (by omega) (by rw [Nat.pow_succ]; omega)
  have ha := dec_all (10 ^ k + r)
  have hh := dec_head (m := 10 ^ k + r) (by omega)
  have hv := dec_val (10 ^ k + r)
  refine ⟨_, rfl, ?_⟩
  cases hd : decDigits (10 ^ k + r) with
  | nil => rw [hd] at hl; simp at hl
  | cons x P =>
    rw [hd] at hl ha hh hv
    have hk : P.length = k := by simpa using hl
    rw [List.all_cons, Bool.and_eq_true] at ha
    have hp := decVal_lt ha.2
    rw [decVal_cons] at hv
    rw [hk] at hp hv
    have hx := (isDig_iff.1 ha.1).2
    have hx' : 49 ≤ x.toNat := by simpa using hh
    refine ⟨hk, ha.2, ?_⟩
    show decVal P = r
    by_cases e : x.toNat - 48 = 1
    · rw [e] at hv; omega
    · have : 2 * 10 ^ k ≤ (x.toNat - 48) * 10 ^ k := Nat.mul_le_mul_right _ (by omega)
      omega
theorem dec_first (m : Nat) (r : List UInt8) : (decDigits m ++ r).head? ≠ some 45 := by
  have h := dec_all m
  have hp := dec_len_pos m
  cases hd : decDigits m with
  | nil => rw [hd] at hp; simp at hp
  | cons x t =>
    rw [hd, List.all_cons, Bool.and_eq_true] at h
    have := isDig_iff.1 h.1
    intro e
    simp at e
    subst e
    simp at this
theorem dtB_form (m k : Nat) (s : Int) (hs : s = k) : ∃ P, P.length = k ∧ P.all isDig = true ∧ decVal P = m % 10 ^ k ∧ Lib.cut (dtB m s) [46] = (decDigits (m / 10 ^ k), P, decide (0 < k)) ∧ (dtB m s).length = (decDigits (m / 10 ^ k)).length + (if 0 < k then 1 + k else 0) := by
  have h0 : 0 < 10 ^ k := Nat.one_le_pow _ _ (by omega)
  obtain ⟨P, e, hl, ha, hv⟩ := dec_pad (k := k) (r := m % 10 ^ k) (Nat.mod_lt _ h0)
  have ep : pwN s = 10 ^ k := by unfold pwN; rw [hs, Int.toNat_natCast]
  have hn := dig_ne_point (dec_all (m / 10 ^ k))
  unfold dtB
  rw [ep, e]
  by_cases hk : 0 < k
  · refine ⟨P, hl, ha, hv, ?_, ?_⟩
    · rw [if_pos (by omega), cut_at hn, decide_eq_true hk]
    · rw [if_pos (by omega), if_pos hk]; simp; omega
  · obtain rfl : k = 0 := by omega
    refine ⟨[], rfl, rfl, ?_, ?_, ?_⟩
    · simp [decVal, Nat.mod_one]
    · rw [if_neg (by omega), List.append_nil, cut_no hn]; rfl
    · rw [if_neg (by omega)]; simp
theorem dt_strip {n s : Int} (h : okDec n s = true) : unS (dt n s) = dtB n.natAbs s ∧ negB (dt n s) = decide (n < 0) := by
  unfold dt
  rw [h, if_pos rfl]
  by_cases hn : n < 0
  · rw [if_pos hn, decide_eq_true hn]
    have : negB (45 :: dtB n.natAbs s) = true := by simp [negB]
    exact ⟨by unfold unS; rw [this]; rfl, this⟩
  · rw [if_neg hn, decide_eq_false hn]
    have : negB (dtB n.natAbs s) = false := by
      unfold negB
      rw [beq_eq_false_iff_ne]
      unfold dtB
      exact dec_first _ _
    exact ⟨by unfold unS; rw [this]; rfl, this⟩
theorem lead_dec (m : Nat) : lead (decDigits m) = false := by
  unfold lead
  by_cases h : m = 0
  · subst h; rw [decDigits_one (by omega)]; rfl
  · have := dec_head (show 1 ≤ m by omega)
    have e : ((decDigits m).getD 0 0 == 48) = false := by
      rw [beq_eq_false_iff_ne]
      intro e
      rw [e] at this
      simp at this
    rw [e, Bool.and_false]
theorem isNum_of {l : List UInt8} (h : l.all isDig = true) (h0 : 0 < l.length) : isNum l = true := by
  unfold isNum
  rw [h]
  cases l with
  | nil => simp at h0
  | cons => rfl
theorem dt_len {n s : Int} (h : okDec n s = true) : (dt n s).length ≤ 60 := by
  obtain ⟨⟨n1, n2⟩, s1, s2⟩ := okDec_iff.1 h
  obtain ⟨k, rfl⟩ := Int.eq_ofNat_of_zero_le s1
  obtain ⟨P, hl, ha, hv, hc, hL⟩ := dtB_form n.natAbs k k rfl
  have h16 : (decDigits (n.natAbs / 10 ^ k)).length ≤ 16 := dec_len_le' (k := 15) (Nat.lt_of_le_of_lt (Nat.div_le_self _ _) (by omega))
  have : (dt n k).length ≤ (dtB n.natAbs k).length + 1 := by unfold dt; rw [h, if_pos rfl]; split <;> simp
  have : (if 0 < k then 1 + k else 0) ≤ 10 := by split <;> omega
  omega
/-- what is read from the text of a number, at its scale or a greater one -/
theorem parse_dt {n s t : Int} (h : okDec n s = true) (h1 : s ≤ t) (h2 : t ≤ 9) : pzE (dt n s) t = rsE n s t 2 ∧ pzV (dt n s) t = rsV n s t 2 := by
  obtain ⟨⟨n1, n2⟩, s1, s2⟩ := okDec_iff.1 h
  obtain ⟨k, rfl⟩ := Int.eq_ofNat_of_zero_le s1
  obtain ⟨q, rfl⟩ : ∃ q : Nat, t = (k : Int) + q := ⟨(t - k).toNat, by omega⟩
  obtain ⟨P, hl, ha, hv, hc, hL⟩ := dtB_form n.natAbs k k rfl
  obtain ⟨hu, hn⟩ := dt_strip h
  have hw : whL (dt n k) = decDigits (n.natAbs / 10 ^ k) := by unfold whL; rw [hu, hc]
  have hp : ptL (dt n k) = P := by unfold ptL; rw [hu, hc]
  have hb : pnB (dt n k) = decide (0 < k) := by unfold pnB; rw [hu, hc]
  have hm : decVal (decDigits (n.natAbs / 10 ^ k) ++ P) = n.natAbs := by
    rw [decVal_app, dec_val, hl, hv, Nat.mul_comm]
    exact Nat.div_add_mod _ _
  have h16 : (decDigits (n.natAbs / 10 ^ k)).length ≤ 16 := dec_len_le' (k := 15) (Nat.lt_of_le_of_lt (Nat.div_le_self _ _) (by omega))
  have hN : pzN (dt n k) (k + q) = n.natAbs * 10 ^ q := by
    unfold pzN
    rw [hw, hp, hl, decVal_app, hm, decVal_zeros, List.length_replicate, show ((k : Int) + q).toNat - k = q by omega]; rfl
  have hf : fmB (dt n k) = true := by
    unfold fmB
    rw [hw, hp, hb, hn, dec_num, lead_dec]
    have e1 : (!decide (0 < k) || isNum P) = true := by
      by_cases hk : 0 < k
      · rw [isNum_of ha (by omega), Bool.or_true]
      · rw [decide_eq_false hk]; rfl
    have e2 : (decide (n < 0) && zerosB (decDigits (n.natAbs / 10 ^ k) ++ P)) = false := by
      cases hz : zerosB (decDigits (n.natAbs / 10 ^ k) ++ P)
      · rw [Bool.and_false]
      · have := zeros_val hz
        rw [hm] at this
        rw [decide_eq_false (by omega)]; rfl
    rw [e1, e2]; rfl
  have hpw : pw ((k : Int) + q - k) = ((10 ^ q : Nat) : Int) := by unfold pw; rw [show ((k : Int) + q - k).toNat = q by omega]
  have hlt : ¬ ((k : Int) + q < k) := by omega
  have hsc : (decide (0 ≤ (k : Int) + q) && decide ((k : Int) + q ≤ 9)) = true := by rw [decide_eq_true (by omega), decide_eq_true h2]; rfl
  have hmo : (okMode 2 && okSc ((k : Int) + q)) = true := by rw [show okSc ((k : Int) + q) = true from hsc]; rfl
  have hX : ((n.natAbs * 10 ^ q : Nat) : Int) = n * pw ((k : Int) + q - k) ∨ ((n.natAbs * 10 ^ q : Nat) : Int) = -(n * pw ((k : Int) + q - k)) := by
    rw [hpw, Int.natCast_mul]
    rcases Int.natAbs_eq n with e | e
    · left; rw [← e]
    · right; rw [← Int.neg_mul]; congr 1; omega
  have hpos : 0 ≤ ((10 ^ q : Nat) : Int) := Int.natCast_nonneg _
  have hsg : (n < 0 → ((n.natAbs * 10 ^ q : Nat) : Int) = -(n * pw ((k : Int) + q - k))) ∧ (¬ n < 0 → ((n.natAbs * 10 ^ q : Nat) : Int) = n * pw ((k : Int) + q - k)) := by
    rw [hpw, Int.natCast_mul]
    constructor
    · intro hneg; rw [← Int.neg_mul, show ((n.natAbs : Nat) : Int) = -n by omega]
    · intro hneg; rw [show ((n.natAbs : Nat) : Int) = n by omega]
  have hE : pzE (dt n k) (k + q) = if decide (n.natAbs * 10 ^ q ≤ 1000000000000000) then 0 else 2 := by
    unfold pzE pzB
    rw [hsc, hf, hN, hw, hp, hl, decide_eq_true h16, decide_eq_true (show (k : Int) ≤ k + q by omega)]
    simp
  have hV : pzV (dt n k) (k + q) = if pzE (dt n k) (k + q) = 0 then (if decide (n < 0) then -((n.natAbs * 10 ^ q : Nat) : Int) else ((n.natAbs * 10 ^ q : Nat) : Int)) else 0 := by
    unfold pzV
    rw [hn, hN]
  generalize hY : n.natAbs * 10 ^ q = Y at *
  generalize hZ : n * pw ((k : Int) + q - k) = Z at *
  cases hno : okNo Z
  · obtain ⟨e1, e2⟩ := rs_over (n := n) (f := k) (t := (k : Int) + q) (m := 2) hmo h hlt (by rw [hZ]; exact hno)
    have := okNo_not hno
    have e3 : pzE (dt n k) (k + q) = 2 := by rw [hE, decide_eq_false (by omega)]; rfl
    rw [e1, e2, hV, e3]
    exact ⟨rfl, rfl⟩
  · obtain ⟨e1, e2⟩ := rs_more (n := n) (f := k) (t := (k : Int) + q) (m := 2) hmo h hlt (by rw [hZ]; exact hno)
    have := okNo_iff.1 hno
    have e3 : pzE (dt n k) (k + q) = 0 := by rw [hE, decide_eq_true (by omega)]; rfl
    rw [e1, e2, hV, e3, hZ]
    refine ⟨rfl, ?_⟩
    rw [if_pos rfl]
    by_cases hneg : n < 0
    · rw [decide_eq_true hneg, if_pos rfl, hsg.1 hneg, Int.neg_neg]
    · rw [decide_eq_false hneg, if_neg (by simp), hsg.2 hneg]
end Go.Proofs.YtklpeibmjiolhaaDoor
