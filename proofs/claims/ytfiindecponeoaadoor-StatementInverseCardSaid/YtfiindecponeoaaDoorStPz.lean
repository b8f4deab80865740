/-
  Reading a line of a statement: plain laws.
-/
import Derived.Test.YtfiindecponeoaaDoorStW10
import Derived.Lib.AtoiTie
import Derived.Lib.AtoiAllCases
namespace Go.Proofs.YtfiindecponeoaaDoor
set_option linter.unusedVariables false
/-! the place of a byte -/
def idxL (l : List UInt8) (c : UInt8) : Nat := runG (fun b => !(b == c)) l
theorem idxL_le (l : List UInt8) (c : UInt8) : idxL l c ≤ l.length := runG_le _ l
theorem idxL_at {a b : List UInt8} {c : UInt8} (h : c ∉ a) : idxL (a ++ c :: b) c = a.length := by
  refine runG_eq 0 (by simp) (fun j hj => ?_) (fun _ => ?_)
  · have : (a ++ c :: b).getD j 0 = a.getD j 0 := by simp [List.getD, List.getElem?_append_left hj]
    rw [this]
    have hm : a.getD j 0 ∈ a := by simp [List.getD, hj]
    simp only [Bool.not_eq_true', beq_eq_false_iff_ne]
    rintro rfl
    exact h hm
  · simp [List.getD]
theorem idxL_no {l : List UInt8} {c : UInt8} (h : c ∉ l) : idxL l c = l.length := by
  refine runG_eq 0 (Nat.le_refl _) (fun j hj => ?_) (fun hl => absurd hl (Nat.lt_irrefl _))
  have hm : l.getD j 0 ∈ l := by simp [List.getD, hj]
  simp only [Bool.not_eq_true', beq_eq_false_iff_ne]
  rintro rfl
  exact h hm
theorem idxL_split {l : List UInt8} {c : UInt8} (h : idxL l c < l.length) : l = l.take (idxL l c) ++ c :: l.drop (idxL l c + 1) ∧ c ∉ l.take (idxL l c) := by
  by_cases hm : c ∈ l
  · obtain ⟨a, b, rfl, hna⟩ := split_at hm
    rw [idxL_at hna]
    simp [hna]
  · rw [idxL_no hm] at h; omega
/-! numbers, read loosely -/
def numG (l : List UInt8) (k : Nat) : Int := (l.take k).foldl (fun n b => 10 * n + (b.toNat : Int) - 48) 0
def numV (l : List UInt8) : Int := numG l 5
theorem numG_step {l : List UInt8} {k : Nat} (h : k < l.length) : numG l (k + 1) = 10 * numG l k + ((l.getD k 0).toNat : Int) - 48 := by
  unfold numG
  rw [List.take_succ_eq_append_getElem h, List.foldl_append]
  simp [List.getD, h]
theorem numG_bd (l : List UInt8) : ∀ k, k ≤ 5 → 23 - 23 * ((10 ^ k : Nat) : Int) ≤ numG l k ∧ numG l k ≤ 23 * ((10 ^ k : Nat) : Int) - 23 := by
  intro k
  induction k with
  | zero => intro _; simp [numG]
  | succ k ih =>
    intro hk
    have := ih (by omega)
    by_cases h : k < l.length
    · rw [numG_step h]
      have hb : (l.getD k 0).toNat < 256 := UInt8.toNat_lt _
      rw [Nat.pow_succ]
      have h1 : (1 : Nat) ≤ 10 ^ k := Nat.one_le_pow _ _ (by omega)
      omega
    · have e : numG l (k + 1) = numG l k := by unfold numG; rw [List.take_of_length_le (by omega), List.take_of_length_le (by omega)]
      rw [e, Nat.pow_succ]
      omega
theorem numG_end {l : List UInt8} {k : Nat} (hk : k ≤ 5) (h : l.length ≤ k ∨ k = 5) : numG l k = numV l := by
  rcases h with h | rfl
  · unfold numV numG; rw [List.take_of_length_le h, List.take_of_length_le (by omega)]
  · rfl
theorem numV_bd (l : List UInt8) : -2300000 ≤ numV l ∧ numV l ≤ 2300000 := by
  have := numG_bd l 5 (by omega)
  unfold numV
  omega
theorem numV_dec (l : List UInt8) (h : l.all isDig = true) (hl : l.length ≤ 5) : numV l = decVal l := by
  unfold numV numG
  rw [List.take_of_length_le hl]
  unfold decVal
  have key : ∀ (r : List UInt8) (n : Nat), r.all isDig = true → r.foldl (fun (n : Int) b => 10 * n + (b.toNat : Int) - 48) (n : Int) = ((r.foldl (fun (n : Nat) b => n * 10 + (b.toNat - 48)) n : Nat) : Int) := by
    intro r
    induction r with
    | nil => intro n _; rfl
    | cons b r ih =>
      intro n h
      simp only [List.all_cons, Bool.and_eq_true] at h
      have hb := isDig_iff.1 h.1
      simp only [List.foldl_cons]
      rw [← ih _ h.2]
      congr 1
      omega
  exact key l 0 h
theorem dec_len_le' {m k : Nat} (h : m < 10 ^ (k + 1)) : (Lib.decDigits m).length ≤ k + 1 := by
  by_cases h0 : m = 0
  · subst h0; rw [Lib.decDigits_one (by omega)]; simp
  · have hh := dec_head (show 1 ≤ m by omega)
    have hv := dec_val m
    cases hd : Lib.decDigits m with
    | nil => simp
    | cons x r =>
      rw [hd] at hh hv
      have hg := decVal_ge (b := x) (l := r) (by simpa using hh)
      rw [hv] at hg
      have : r.length < k + 1 := (Nat.pow_lt_pow_iff_right (a := 10) (by omega)).1 (Nat.lt_of_le_of_lt hg h)
      simp
      omega
theorem numV_itoa {x : Int} (h0 : 0 ≤ x) (h1 : x ≤ 99999) : numV (Lib.itoa x) = x := by
  obtain ⟨m, rfl⟩ : ∃ m : Nat, x = m := ⟨x.toNat, by omega⟩
  rw [Lib.itoa_nonneg, numV_dec _ (dec_all m) (dec_len_le' (k := 4) (by omega)), dec_val]
theorem atoi_itoa {x : Int} (h0 : 0 ≤ x) (h1 : x ≤ 99999) : Lib.atoiAll (Lib.itoa x) = .ok x := by
  obtain ⟨m, rfl⟩ : ∃ m : Nat, x = m := ⟨x.toNat, by omega⟩
  have hl := dec_len_le' (m := m) (k := 4) (by omega)
  rw [Lib.itoa_nonneg, Lib.atoiAll_short _ (by omega), atoi_digits (dec_num m), dec_val]
  rfl
theorem itoa_digs {x : Int} (h0 : 0 ≤ x) : (Lib.itoa x).all isDig = true ∧ 1 ≤ (Lib.itoa x).length := by
  obtain ⟨m, rfl⟩ : ∃ m : Nat, x = m := ⟨x.toNat, by omega⟩
  rw [Lib.itoa_nonneg]
  exact ⟨dec_all m, dec_len_pos m⟩
theorem itoa_one {x : Int} (h0 : 0 ≤ x) (h1 : x ≤ 9) : ∃ d, Lib.itoa x = [d] ∧ isDig d = true ∧ numV [d] = x := by
  obtain ⟨m, rfl⟩ : ∃ m : Nat, x = m := ⟨x.toNat, by omega⟩
  refine ⟨UInt8.ofNat (48 + m), ?_, (dig_of (by omega)).1, ?_⟩
  · rw [Lib.itoa_nonneg, Lib.decDigits_one (by omega)]
  · unfold numV numG
    simp only [List.take_succ_cons, List.take_nil, List.foldl_cons, List.foldl_nil, (dig_of (show m < 10 by omega)).2]
    omega
theorem dig_not_mem {l : List UInt8} {c : UInt8} (h : l.all isDig = true) (hc : isDig c = false) : c ∉ l := by
  intro hm
  have := List.all_eq_true.1 h c hm
  rw [hc] at this; cases this
/-! two bytes that are sought -/
theorem index_two_at {a b : List UInt8} {c d : UInt8} (h : c ∉ a) : Lib.index (a ++ c :: d :: b) [c, d] = a.length := by
  induction a with
  | nil => simp [Lib.index, List.isPrefixOf]
  | cons x r ih =>
    simp only [List.mem_cons, not_or] at h
    have e := ih h.2
    rw [List.cons_append]
    unfold Lib.index
    have : ([c, d] : List UInt8).isPrefixOf (x :: (r ++ c :: d :: b)) = false := by simp [List.isPrefixOf, h.1]
    rw [this, e]
    have h1 : (((r.length : Nat) : Int) == -1) = false := by rw [beq_eq_false_iff_ne]; omega
    rw [h1]; simp
theorem cut_two {a b : List UInt8} {c d : UInt8} (h : c ∉ a) : Lib.cut (a ++ c :: d :: b) [c, d] = (a, b, true) := by
  unfold Lib.cut
  rw [index_two_at h]
  simp
/-! the reference's reading -/
def rrd3 (nm : List UInt8) (lv : Int) (r3 : List UInt8) (ng : Bool) : SRow := ⟨nm, lv, numV (r3.take (idxL r3 46)), if idxL r3 46 + 2 ≤ r3.length then numV (r3.drop (idxL r3 46 + 2)) else 0, ng⟩
def rrd2 (nm : List UInt8) (lv : Int) (r2 : List UInt8) : SRow := if decide (2 < r2.length) && (r2.drop (r2.length - 2) == [32, 45]) then rrd3 nm lv (r2.take (r2.length - 2)) true else rrd3 nm lv r2 false
def rrd1 (lv : Int) (rest : List UInt8) (k : Nat) : SRow := if rest.length ≤ k + 2 then ⟨rest.take k, lv, 1, 0, false⟩ else rrd2 (rest.take k) lv (rest.drop (k + 2))
def rrd (l : List UInt8) : SRow := if l.length < 4 then ⟨[63], 0, 1, 0, false⟩ else rrd1 (numV (l.take 1)) (l.drop 3) (idxL (l.drop 3) 34)
theorem name_no34 {l : List UInt8} (h : nameOk l = true) : (34 : UInt8) ∉ l := by
  intro hm
  unfold nameOk at h
  simp only [Bool.and_eq_true] at h
  have := List.all_eq_true.1 h.1.1 34 hm
  exact absurd this (by decide)
def tailL (r : SRow) : List UInt8 := if isTitle r then [] else [32] ++ Lib.itoa r.from_ ++ [46, 46] ++ Lib.itoa r.to_ ++ (if r.neg then [32, 45] else [])
theorem line_shape {b : Int} {r : SRow} (h : okRow b r = true) : ∃ d, Lib.itoa r.level = [d] ∧ isDig d = true ∧ numV [d] = r.level ∧ lineL r = d :: 32 :: 34 :: (r.name ++ 34 :: tailL r) := by
  obtain ⟨hn, hl, hf, ht⟩ := okRow_bds h
  obtain ⟨d, h1, h2, h3⟩ := itoa_one hl.1 hl.2
  refine ⟨d, h1, h2, h3, ?_⟩
  unfold lineL tailL
  rw [h1]
  simp
theorem title_row {b : Int} {r : SRow} (h : okRow b r = true) (ht : isTitle r = true) : r.from_ = 1 ∧ r.to_ = 0 ∧ r.neg = false := by
  unfold isTitle at ht
  rw [decide_eq_true_eq] at ht
  exact (okRow_iff.1 h).2.2.1 ht
theorem rrd_line {b : Int} {r : SRow} (h : okRow b r = true) : rrd (lineL r) = r := by
  obtain ⟨hn, hl, hf, hto⟩ := okRow_bds h
  obtain ⟨d, h1, h2, h3, h4⟩ := line_shape h
  have hnm := (okRow_iff.1 h).1
  have h34 := name_no34 hnm
  have hnl : 1 ≤ r.name.length := by unfold nameOk at hnm; simp only [Bool.and_eq_true, decide_eq_true_eq] at hnm; exact hnm.1.2.1
  unfold rrd
  rw [h4]
  have e1 : (d :: 32 :: 34 :: (r.name ++ 34 :: tailL r)).drop 3 = r.name ++ 34 :: tailL r := rfl
  have e2 : (d :: 32 :: 34 :: (r.name ++ 34 :: tailL r)).take 1 = [d] := rfl
  rw [if_neg (by simp; omega), e1, e2, idxL_at h34, h3]
  unfold rrd1
  have e0 : (r.name ++ 34 :: tailL r).take r.name.length = r.name := by simp
  rw [e0]
  cases ht : isTitle r
  · have e3 : tailL r = 32 :: (Lib.itoa r.from_ ++ 46 :: 46 :: (Lib.itoa r.to_ ++ (if r.neg then [32, 45] else []))) := by unfold tailL; rw [ht]; simp
    obtain ⟨f1, f2⟩ := itoa_digs hf.1
    obtain ⟨t1, t2⟩ := itoa_digs hto.1
    rw [if_neg (by rw [e3]; simp)]
    have e4 : (r.name ++ 34 :: tailL r).drop (r.name.length + 2) = Lib.itoa r.from_ ++ 46 :: 46 :: (Lib.itoa r.to_ ++ (if r.neg then [32, 45] else [])) := by
      rw [e3]; simp
    rw [e4]
    have k1 : idxL (Lib.itoa r.from_ ++ 46 :: 46 :: Lib.itoa r.to_) 46 = (Lib.itoa r.from_).length := idxL_at (dig_not_mem f1 (by decide))
    have e6 : (Lib.itoa r.from_ ++ 46 :: 46 :: Lib.itoa r.to_).take (Lib.itoa r.from_).length = Lib.itoa r.from_ := by simp
    have e7 : (Lib.itoa r.from_ ++ 46 :: 46 :: Lib.itoa r.to_).drop ((Lib.itoa r.from_).length + 2) = Lib.itoa r.to_ := by simp
    have fin : rrd3 r.name r.level (Lib.itoa r.from_ ++ 46 :: 46 :: Lib.itoa r.to_) r.neg = r := by
      unfold rrd3
      rw [k1, if_pos (by simp), e6, e7, numV_itoa hf.1 hf.2, numV_itoa hto.1 hto.2]
    unfold rrd2
    cases hng : r.neg
    · rw [hng] at fin
      simp only [Bool.false_eq_true, if_false, List.append_nil]
      have e5 : ((Lib.itoa r.from_ ++ 46 :: 46 :: Lib.itoa r.to_).drop ((Lib.itoa r.from_ ++ 46 :: 46 :: Lib.itoa r.to_).length - 2) == [32, 45]) = false := by
        rw [beq_eq_false_iff_ne]
        intro hx
        have hlast : (Lib.itoa r.from_ ++ 46 :: 46 :: Lib.itoa r.to_).getLast? = some 45 := by
          rw [← List.take_append_drop ((Lib.itoa r.from_ ++ 46 :: 46 :: Lib.itoa r.to_).length - 2) (Lib.itoa r.from_ ++ 46 :: 46 :: Lib.itoa r.to_), hx]
          simp
        have hne : Lib.itoa r.to_ ≠ [] := by intro h0; rw [h0] at t2; simp at t2
        have : (Lib.itoa r.to_).getLast? = some 45 := by
          have h9 : (Lib.itoa r.from_ ++ 46 :: 46 :: Lib.itoa r.to_) = (Lib.itoa r.from_ ++ [46, 46]) ++ Lib.itoa r.to_ := by simp
          rw [h9, List.getLast?_append] at hlast
          cases hq : (Lib.itoa r.to_).getLast? with
          | none => rw [List.getLast?_eq_none_iff] at hq; exact absurd hq hne
          | some z => rw [hq] at hlast; simpa using hlast
        exact dig_not_mem t1 (show isDig 45 = false by decide) (List.mem_of_getLast? this)
      rw [e5, Bool.and_false, if_neg (by simp)]
      exact fin
    · rw [hng] at fin
      simp only [if_true]
      have e8 : (Lib.itoa r.from_ ++ 46 :: 46 :: (Lib.itoa r.to_ ++ [32, 45])) = (Lib.itoa r.from_ ++ 46 :: 46 :: Lib.itoa r.to_) ++ [32, 45] := by simp
      have e9 : ((Lib.itoa r.from_ ++ 46 :: 46 :: Lib.itoa r.to_) ++ [32, 45]).length - 2 = (Lib.itoa r.from_ ++ 46 :: 46 :: Lib.itoa r.to_).length := by simp; omega
      have e5 : decide (2 < ((Lib.itoa r.from_ ++ 46 :: 46 :: Lib.itoa r.to_) ++ [32, 45]).length) = true := by rw [decide_eq_true_eq]; simp; omega
      rw [e8, e9, e5, List.drop_left' rfl, List.take_left' rfl, if_pos (by simp)]
      exact fin
  · obtain ⟨g1, g2, g3⟩ := title_row h ht
    have e3 : tailL r = [] := by unfold tailL; rw [ht]; rfl
    rw [if_pos (by rw [e3]; simp)]
    obtain ⟨a, b', c, d', e⟩ := r
    simp only at g1 g2 g3
    rw [g1, g2, g3]
theorem line_inj {b b' : Int} {r r' : SRow} (h : okRow b r = true) (h' : okRow b' r' = true) (e : lineL r = lineL r') : r = r' := by
  rw [← rrd_line h, e, rrd_line h']
/-! the program's reading -/
theorem pr_line {b : Int} {r : SRow} (h : okRow b r = true) : Lib.cut (lineL r) [32, 34] = (Lib.itoa r.level, r.name ++ 34 :: tailL r, true) ∧ Lib.cut (r.name ++ 34 :: tailL r) [34] = (r.name, tailL r, true) ∧ Lib.atoiAll (Lib.itoa r.level) = .ok r.level := by
  obtain ⟨hn, hl, hf, hto⟩ := okRow_bds h
  obtain ⟨d, h1, h2, h3, h4⟩ := line_shape h
  refine ⟨?_, cut_at (name_no34 (okRow_iff.1 h).1), atoi_itoa hl.1 (by omega)⟩
  rw [h4, h1]
  exact cut_two (a := [d]) (by
    intro hm
    rw [List.mem_singleton] at hm
    subst hm
    exact absurd h2 (by decide))
theorem suffix_iff (s p : List UInt8) : Lib.hasSuffix s p = true ↔ ∃ t, s = t ++ p := by
  unfold Lib.hasSuffix
  rw [List.isSuffixOf_iff_suffix]
  constructor
  · rintro ⟨t, h⟩; exact ⟨t, h.symm⟩
  · rintro ⟨t, h⟩; exact ⟨t, h.symm⟩
theorem pr_tail {b : Int} {r : SRow} (h : okRow b r = true) (ht : isTitle r = false) : tailL r ≠ [] ∧ Lib.hasSuffix (tailL r) [32, 45] = r.neg ∧
    Lib.cut (Lib.trimPrefix (Lib.trimSuffix (tailL r) [32, 45]) [32]) [46, 46] = (Lib.itoa r.from_, Lib.itoa r.to_, true) ∧ Lib.atoiAll (Lib.itoa r.from_) = .ok r.from_ ∧ Lib.atoiAll (Lib.itoa r.to_) = .ok r.to_ := by
  obtain ⟨hn, hl, hf, hto⟩ := okRow_bds h
  have e3 : tailL r = 32 :: (Lib.itoa r.from_ ++ 46 :: 46 :: (Lib.itoa r.to_ ++ (if r.neg then [32, 45] else []))) := by unfold tailL; rw [ht]; simp
  obtain ⟨f1, f2⟩ := itoa_digs hf.1
  obtain ⟨t1, t2⟩ := itoa_digs hto.1
  have hc : Lib.cut (Lib.itoa r.from_ ++ 46 :: 46 :: Lib.itoa r.to_) [46, 46] = (Lib.itoa r.from_, Lib.itoa r.to_, true) := cut_two (dig_not_mem f1 (by decide))
  have hA : Lib.hasSuffix (tailL r) [32, 45] = r.neg ∧ Lib.trimSuffix (tailL r) [32, 45] = 32 :: (Lib.itoa r.from_ ++ 46 :: 46 :: Lib.itoa r.to_) := by
    cases hng : r.neg
    · rw [hng] at e3
      simp only [Bool.false_eq_true, if_false, List.append_nil] at e3
      have hs : Lib.hasSuffix (tailL r) [32, 45] = false := by
        cases hs : Lib.hasSuffix (tailL r) [32, 45]
        · rfl
        · exfalso
          obtain ⟨t, hx⟩ := (suffix_iff _ _).1 hs
          rw [e3] at hx
          have hlast : (32 :: (Lib.itoa r.from_ ++ 46 :: 46 :: Lib.itoa r.to_)).getLast? = some 45 := by rw [hx]; simp
          have hne : Lib.itoa r.to_ ≠ [] := by intro h0; rw [h0] at t2; simp at t2
          have h9 : 32 :: (Lib.itoa r.from_ ++ 46 :: 46 :: Lib.itoa r.to_) = (32 :: (Lib.itoa r.from_ ++ [46, 46])) ++ Lib.itoa r.to_ := by simp
          rw [h9, List.getLast?_append] at hlast
          have : (Lib.itoa r.to_).getLast? = some 45 := by
            cases hq : (Lib.itoa r.to_).getLast? with
            | none => rw [List.getLast?_eq_none_iff] at hq; exact absurd hq hne
            | some z => rw [hq] at hlast; simpa using hlast
          exact dig_not_mem t1 (show isDig 45 = false by decide) (List.mem_of_getLast? this)
      refine ⟨hs, ?_⟩
      unfold Lib.trimSuffix
      rw [hs, if_neg (by simp), e3]
    · rw [hng] at e3
      simp only [if_true] at e3
      have e8 : tailL r = (32 :: (Lib.itoa r.from_ ++ 46 :: 46 :: Lib.itoa r.to_)) ++ [32, 45] := by rw [e3]; simp
      have hs : Lib.hasSuffix (tailL r) [32, 45] = true := (suffix_iff _ _).2 ⟨_, e8⟩
      refine ⟨hs, ?_⟩
      unfold Lib.trimSuffix
      rw [hs, if_pos rfl, e8]
      have : ((32 :: (Lib.itoa r.from_ ++ 46 :: 46 :: Lib.itoa r.to_)) ++ [32, 45]).length - ([32, 45] : List UInt8).length = (32 :: (Lib.itoa r.from_ ++ 46 :: 46 :: Lib.itoa r.to_)).length := by simp; omega
      rw [this, List.take_left' rfl]
  refine ⟨by rw [e3]; simp, hA.1, ?_, atoi_itoa hf.1 hf.2, atoi_itoa hto.1 hto.2⟩
  rw [hA.2, trimPrefix_cons, hc]
theorem title_tail {r : SRow} (ht : isTitle r = true) : tailL r = [] := by unfold tailL; rw [ht]; rfl
end Go.Proofs.YtfiindecponeoaaDoor
