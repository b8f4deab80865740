/-
  The cell that a text is, as the reference reads it: plain laws.
-/
import Derived.Test.YtophffmofpmbpaaDoorCelPz2
namespace Go.Proofs.YtophffmofpmbpaaDoor
set_option linter.unusedVariables false
def numF (n : Int) (b : UInt8) : Int := 10 * n + (b.toNat : Int) - 48
/-- the number of the first k bytes of a word -/
def refNumT (l : List UInt8) (k : Nat) : Int := (l.take k).foldl numF 0
def refNum (l : List UInt8) : Int := refNumT l 4
theorem numF_bd {n : Int} {b : UInt8} {M : Int} (h : -M ≤ n ∧ n ≤ M) (hM : 0 ≤ M) : -(10 * M + 300) ≤ numF n b ∧ numF n b ≤ 10 * M + 300 := by
  have : b.toNat < 256 := b.toNat_lt
  unfold numF
  omega
theorem refNumT_succ {l : List UInt8} {k : Nat} (h : k < l.length) : refNumT l (k + 1) = numF (refNumT l k) (l.getD k 0) := by
  unfold refNumT
  rw [List.take_succ_eq_append_getElem h, List.foldl_append, List.getD_eq_getElem?_getD, List.getElem?_eq_getElem h]
  rfl
theorem refNumT_bd (l : List UInt8) : ∀ k, k ≤ l.length → k ≤ 4 → -1000000 ≤ refNumT l k ∧ refNumT l k ≤ 1000000 := by
  intro k hk h4
  have h0 : -0 ≤ refNumT l 0 ∧ refNumT l 0 ≤ 0 := by simp [refNumT]
  have s : ∀ j, j < l.length → ∀ M : Int, 0 ≤ M → (-M ≤ refNumT l j ∧ refNumT l j ≤ M) → (-(10 * M + 300) ≤ refNumT l (j + 1) ∧ refNumT l (j + 1) ≤ 10 * M + 300) := by
    intro j hj M hM h
    rw [refNumT_succ hj]
    exact numF_bd h hM
  obtain rfl | rfl | rfl | rfl | rfl : k = 0 ∨ k = 1 ∨ k = 2 ∨ k = 3 ∨ k = 4 := by omega
  · simp [refNumT]
  · have h1 : -300 ≤ refNumT l 1 ∧ refNumT l 1 ≤ 300 := by have := s 0 (by omega) 0 (by omega) h0; simpa using this
    omega
  · have h1 : -300 ≤ refNumT l 1 ∧ refNumT l 1 ≤ 300 := by have := s 0 (by omega) 0 (by omega) h0; simpa using this
    have h2 : -3300 ≤ refNumT l 2 ∧ refNumT l 2 ≤ 3300 := s 1 (by omega) 300 (by omega) h1
    omega
  · have h1 : -300 ≤ refNumT l 1 ∧ refNumT l 1 ≤ 300 := by have := s 0 (by omega) 0 (by omega) h0; simpa using this
    have h2 : -3300 ≤ refNumT l 2 ∧ refNumT l 2 ≤ 3300 := s 1 (by omega) 300 (by omega) h1
    have h3 : -33300 ≤ refNumT l 3 ∧ refNumT l 3 ≤ 33300 := s 2 (by omega) 3300 (by omega) h2
    omega
  · have h1 : -300 ≤ refNumT l 1 ∧ refNumT l 1 ≤ 300 := by have := s 0 (by omega) 0 (by omega) h0; simpa using this
    have h2 : -3300 ≤ refNumT l 2 ∧ refNumT l 2 ≤ 3300 := s 1 (by omega) 300 (by omega) h1
    have h3 : -33300 ≤ refNumT l 3 ∧ refNumT l 3 ≤ 33300 := s 2 (by omega) 3300 (by omega) h2
    have h4 : -333300 ≤ refNumT l 4 ∧ refNumT l 4 ≤ 333300 := s 3 (by omega) 33300 (by omega) h3
    omega
theorem refNumT_all {l : List UInt8} {k : Nat} (h : l.length ≤ k) : refNumT l k = refNumT l l.length := by
  unfold refNumT
  rw [List.take_of_length_le h, List.take_length]
theorem refNum_stop {l : List UInt8} {k : Nat} (hk : k ≤ l.length) (h4 : k ≤ 4) (h : ¬ (k < l.length ∧ k < 4)) : refNumT l k = refNum l := by
  unfold refNum
  by_cases h5 : k = 4
  · rw [h5]
  · have : k = l.length := by omega
    rw [this, refNumT_all (l := l) (k := 4) (by omega)]
theorem fold_dec (l : List UInt8) (h : l.all isDig = true) : ∀ (n : Nat), l.foldl numF (n : Int) = ((l.foldl (fun n b => n * 10 + (b.toNat - 48)) n : Nat) : Int) := by
  induction l with
  | nil => intro n; rfl
  | cons b l ih =>
    intro n
    rw [List.all_cons, Bool.and_eq_true] at h
    have hb := isDig_iff.1 h.1
    rw [List.foldl_cons, List.foldl_cons, ← ih h.2]
    congr 1
    unfold numF
    omega
theorem refNum_dec {n : Int} (h0 : 0 ≤ n) (h1 : n ≤ 999) : refNum (Lib.decDigits n.toNat) = n := by
  have hl : (Lib.decDigits n.toNat).length ≤ 3 := dec_len_le' (m := n.toNat) (k := 2) (by omega)
  unfold refNum refNumT
  rw [List.take_of_length_le (by omega)]
  have := fold_dec (Lib.decDigits n.toNat) (dec_all _) 0
  rw [show ((0 : Nat) : Int) = 0 from rfl] at this
  rw [this]
  have hv := dec_val n.toNat
  unfold decVal at hv
  rw [hv]
  omega
def refN (ws : List (List UInt8)) (i : Nat) : Int := if i < ws.length then refNum (ws.getD i []) else -1
def refD (ws : List (List UInt8)) : SCell :=
  if uO (stOf (ws.getD 0 [])) then ofC (stOf (ws.getD 0 [])) (refN ws 1) (refN ws 2) (refN ws 3)
  else if uE (stOf (ws.getD 0 [])) then ofC (stOf (ws.getD 0 [])) (refN ws 1) 0 (refN ws 2)
  else ofC (stOf (ws.getD 0 [])) 0 0 (refN ws 1)
theorem flags_o : ∀ k : Fin 23, oL.getD k false = true → eL.getD k false = true ∧ pL.getD k false = true := by decide
theorem uO_all {s : Int} (h : uO s = true) : uE s = true ∧ uP s = true := by
  have hk : known s = true := by
    unfold uO at h
    rw [Bool.and_eq_true] at h
    exact h.1
  obtain ⟨k, rfl, h1, h2, e1, e2, e3, _⟩ := uses_flags hk
  rw [e2] at h
  have := flags_o ⟨k, by omega⟩ h
  rw [e1, e3]
  exact this
theorem refN_at {ws : List (List UInt8)} {i : Nat} {n : Int} (h : ws[i]? = some (Lib.decDigits n.toNat)) (h0 : 0 ≤ n) (h1 : n ≤ 999) : refN ws i = n := by
  obtain ⟨hi, he⟩ := List.getElem?_eq_some_iff.1 h
  unfold refN
  rw [if_pos hi, List.getD_eq_getElem?_getD, h]
  exact refNum_dec h0 h1
theorem words_text {c : SCell} (hv : validC c = true) : stOf ((wordsL (textC c)).getD 0 []) ≠ 0 ∧ refD (wordsL (textC c)) = c := by
  have hbd := validC_bd hv
  obtain ⟨hk, u1, u2, u3, _⟩ := validC_iff.1 hv
  have e1 := inB_used u1
  have e2 := inB_used u2
  have e3 := inB_used u3
  have a1 := inB_iff.1 u1
  have a2 := inB_iff.1 u2
  have a3 := inB_iff.1 u3
  obtain ⟨st, en, ot, pe⟩ := c
  simp only [] at hbd hk e1 e2 e3 a1 a2 a3
  obtain ⟨k, rfl, k1, k2⟩ := known_nat hk
  have hnm : nmS (k : Int) = nmL.getD k [] := by unfold nmS; rw [hk]; rfl
  have ht : textC ⟨(k : Int), en, ot, pe⟩ = nmL.getD k [] ++ [en, ot, pe].flatMap numT := by
    unfold textC
    rw [hv, if_pos rfl]
    simp only [hnm, List.flatMap_cons, List.flatMap_nil, List.append_nil, List.append_assoc]
  have hw : wordsL (textC ⟨(k : Int), en, ot, pe⟩) = nmL.getD k [] :: [en, ot, pe].flatMap wNum := by
    rw [ht, wordsL_nums _ _ (let_no32 (i := ⟨k, by omega⟩))]
  have hs : stOf (nmL.getD k []) = k := stOf_at k1 k2 rfl
  rw [hw]
  simp only [List.getD_cons_zero, hs]
  refine ⟨by omega, ?_⟩
  unfold refD
  simp only [List.getD_cons_zero, hs]
  have w1 : ∀ n : Int, 0 ≤ n → wNum n = [Lib.decDigits n.toNat] := fun n h => by unfold wNum; rw [if_pos h]
  have w0 : ∀ n : Int, n = -1 → wNum n = [] := fun n h => by unfold wNum; rw [if_neg (by omega)]
  cases ho : uO (k : Int)
  · have hot : ot = -1 := a2.2 ho
    simp only [Bool.false_eq_true, if_false]
    cases he : uE (k : Int)
    · have hen : en = -1 := a1.2 he
      simp only [Bool.false_eq_true, if_false]
      unfold ofC
      simp only [ho, he, Bool.false_eq_true, if_false]
      cases hp : uP (k : Int)
      · rw [a3.2 hp, hen, hot]; rfl
      · have hpe := a3.1 hp
        rw [if_pos rfl, hen, hot, refN_at (n := pe) ?_ hpe.1 (by omega)]
        simp only [List.flatMap_cons, List.flatMap_nil, w1 pe hpe.1, w0 (-1) rfl]
        rfl
    · have hen := a1.1 he
      simp only [if_true]
      unfold ofC
      simp only [ho, he, Bool.false_eq_true, if_false, if_true]
      cases hp : uP (k : Int)
      · rw [a3.2 hp, hot, refN_at (n := en) ?_ hen.1 (by omega)]; rfl
        simp only [List.flatMap_cons, List.flatMap_nil, w1 en hen.1]
        rfl
      · have hpe := a3.1 hp
        rw [if_pos rfl, hot, refN_at (n := en) ?_ hen.1 (by omega), refN_at (n := pe) ?_ hpe.1 (by omega)]
        · simp only [List.flatMap_cons, List.flatMap_nil, w1 en hen.1, w1 pe hpe.1, w0 (-1) rfl]
          rfl
        · simp only [List.flatMap_cons, List.flatMap_nil, w1 en hen.1]
          rfl
  · obtain ⟨he, hp⟩ := uO_all ho
    have hen := a1.1 he
    have hot := a2.1 ho
    have hpe := a3.1 hp
    simp only [if_true]
    unfold ofC
    simp only [ho, he, hp, if_true]
    simp only [List.flatMap_cons, List.flatMap_nil, w1 en hen.1, w1 ot hot.1, w1 pe hpe.1]
    rw [refN_at (n := en) rfl hen.1 (by omega), refN_at (n := ot) rfl hot.1 (by omega), refN_at (n := pe) rfl hpe.1 (by omega)]
/-- what the reference answers -/
theorem pcD_ref (l : List UInt8) : pcD l = if stOf ((wordsL l).getD 0 []) = 0 then none else if validC (refD (wordsL l)) && (textC (refD (wordsL l)) == l) then some (refD (wordsL l)) else none := by
  cases h : pcD l with
  | some c =>
    obtain ⟨hv, rfl⟩ := pcD_iff.1 h
    obtain ⟨h1, h2⟩ := words_text hv
    rw [if_neg h1, h2, hv]
    simp
  | none =>
    split
    · rfl
    · split
      · rename_i hc
        rw [Bool.and_eq_true, beq_iff_eq] at hc
        rw [pcD_iff.2 hc] at h
        cases h
      · rfl
end Go.Proofs.YtophffmofpmbpaaDoor
