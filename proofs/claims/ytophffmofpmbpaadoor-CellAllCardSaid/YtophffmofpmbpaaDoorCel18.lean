/-
  All: plain laws (sorted, exactly the cells that are asked for, the reference's list).
-/
import Derived.Test.YtophffmofpmbpaaDoorCel17
namespace Go.Proofs.YtophffmofpmbpaaDoor
set_option linter.unusedVariables false
def askC (s m p : Int) (c : SCell) : Bool := validC c && (c.st == s && ((!uE s || decide (c.en < m)) && ((!uO s || decide (c.ot < m)) && (!uP s || c.pe == p))))
theorem mem_rowA {s p e : Int} {n : Nat} {c : SCell} : c ∈ rowA s p e n ↔ validC c = true ∧ ∃ o : Nat, o < n ∧ ofC s e o p = c := by
  unfold rowA
  rw [List.mem_filter, List.mem_map]
  constructor
  · rintro ⟨⟨o, ho, rfl⟩, hv⟩
    exact ⟨hv, o, List.mem_range.1 ho, rfl⟩
  · rintro ⟨hv, o, ho, rfl⟩
    exact ⟨⟨o, List.mem_range.2 ho, rfl⟩, hv⟩
theorem mem_allA {s p : Int} {q n : Nat} {c : SCell} : c ∈ allA s p q n ↔ validC c = true ∧ ∃ e : Nat, e < n ∧ ∃ o : Nat, o < q ∧ ofC s e o p = c := by
  unfold allA
  rw [List.mem_flatMap]
  constructor
  · rintro ⟨e, he, h⟩
    obtain ⟨hv, o, ho, h⟩ := mem_rowA.1 h
    exact ⟨hv, e, List.mem_range.1 he, o, ho, h⟩
  · rintro ⟨hv, e, he, o, ho, h⟩
    exact ⟨e, List.mem_range.2 he, mem_rowA.2 ⟨hv, o, ho, h⟩⟩
theorem upI_nat (u : Bool) (m : Int) (n : Nat) : n < (upI u m).toNat ↔ (u = true ∧ (n : Int) < m ∧ n < 12) ∨ (u = false ∧ n = 0) := by
  unfold upI
  cases u
  · simp
  · simp only [if_true, true_and, Bool.true_eq_false, false_and, or_false]
    omega
theorem mem_allC {s m p : Int} {c : SCell} : c ∈ allC s m p ↔ askC s m p c = true := by
  unfold allC askC
  rw [mem_allA]
  simp only [Bool.and_eq_true, Bool.or_eq_true, Bool.not_eq_true', beq_iff_eq, decide_eq_true_eq]
  constructor
  · rintro ⟨hv, e, he, o, ho, rfl⟩
    rw [upI_nat] at he ho
    refine ⟨hv, rfl, ?_, ?_, ?_⟩
    · rcases he with ⟨h1, h2, h3⟩ | ⟨h1, _⟩
      · right; unfold ofC; simp only [h1, if_true]; omega
      · exact .inl h1
    · rcases ho with ⟨h1, h2, h3⟩ | ⟨h1, _⟩
      · right; unfold ofC; simp only [h1, if_true]; omega
      · exact .inl h1
    · cases hp : uP s
      · exact .inl rfl
      · right; unfold ofC; simp only [hp, if_true]
  · rintro ⟨hv, hs, h1, h2, h3⟩
    refine ⟨hv, ?_⟩
    obtain ⟨hk, u1, u2, u3, _⟩ := validC_iff.1 hv
    rw [hs] at u1 u2 u3
    have a1 := inB_iff.1 u1
    have a2 := inB_iff.1 u2
    have a3 := inB_iff.1 u3
    refine ⟨if uE s then c.en.toNat else 0, ?_, if uO s then c.ot.toNat else 0, ?_, ?_⟩
    · rw [upI_nat]
      cases hu : uE s
      · exact .inr ⟨rfl, rfl⟩
      · have b := a1.1 hu
        have : c.en < m := by
          rcases h1 with h | h
          · rw [hu] at h; cases h
          · exact h
        refine .inl ⟨rfl, ?_, ?_⟩
        · simp only [if_true]; omega
        · simp only [if_true]; omega
    · rw [upI_nat]
      cases hu : uO s
      · exact .inr ⟨rfl, rfl⟩
      · have b := a2.1 hu
        have : c.ot < m := by
          rcases h2 with h | h
          · rw [hu] at h; cases h
          · exact h
        refine .inl ⟨rfl, ?_, ?_⟩
        · simp only [if_true]; omega
        · simp only [if_true]; omega
    · obtain ⟨st, en, ot, pe⟩ := c
      simp only [] at hs h1 h2 h3 a1 a2 a3 ⊢
      unfold ofC
      rw [SCell.mk.injEq]
      refine ⟨hs.symm, ?_, ?_, ?_⟩
      · cases hu : uE s
        · simp only [Bool.false_eq_true, if_false]; exact (a1.2 hu).symm
        · have b := a1.1 hu
          simp only [if_true]; omega
      · cases hu : uO s
        · simp only [Bool.false_eq_true, if_false]; exact (a2.2 hu).symm
        · have b := a2.1 hu
          simp only [if_true]; omega
      · cases hu : uP s
        · simp only [Bool.false_eq_true, if_false]; exact (a3.2 hu).symm
        · simp only [if_true]
          rcases h3 with h | h
          · rw [hu] at h; cases h
          · exact h.symm
theorem ltC_e {s p : Int} {e e' o o' : Nat} (hu : uE s = true) (h : e < e') : ltC (ofC s e o p) (ofC s e' o' p) := by
  unfold ltC ofC
  simp only [hu, if_true]
  exact .inr ⟨trivial, .inr ⟨trivial, .inl (by omega)⟩⟩
theorem ltC_o {s p : Int} {e o o' : Nat} (hu : uO s = true) (h : o < o') : ltC (ofC s e o p) (ofC s e o' p) := by
  unfold ltC ofC
  simp only [hu, if_true]
  exact .inr ⟨trivial, .inr ⟨trivial, .inr ⟨trivial, by omega⟩⟩⟩
theorem rowA_sorted {s p e : Int} {m : Int} {en : Nat} (he : e = (en : Int)) : (rowA s p e (upI (uO s) m).toNat).Pairwise ltC := by
  subst he
  unfold rowA
  refine List.Pairwise.filter _ ?_
  rw [List.pairwise_map]
  refine List.Pairwise.imp_of_mem ?_ (List.pairwise_lt_range)
  intro a b ha hb hab
  have hb' := List.mem_range.1 hb
  rw [upI_nat] at hb'
  rcases hb' with ⟨hu, _⟩ | ⟨_, h0⟩
  · exact ltC_o hu hab
  · omega
theorem allC_sorted (s m p : Int) : (allC s m p).Pairwise ltC := by
  unfold allC allA
  rw [List.pairwise_flatMap]
  refine ⟨fun e _ => rowA_sorted rfl, ?_⟩
  refine List.Pairwise.imp_of_mem ?_ (List.pairwise_lt_range)
  intro a b ha hb hab x hx y hy
  obtain ⟨_, o, _, rfl⟩ := mem_rowA.1 hx
  obtain ⟨_, o', _, rfl⟩ := mem_rowA.1 hy
  have hb' := List.mem_range.1 hb
  rw [upI_nat] at hb'
  rcases hb' with ⟨hu, _⟩ | ⟨_, h0⟩
  · exact ltC_e hu hab
  · omega
theorem cmpC_lt {a b : SCell} (h : ltC a b) : cmpC a b = -1 := by
  have h1 := cmpC_spec a b
  unfold ltC at h h1
  omega
theorem allC_next {s m p : Int} {i : Nat} (h : i + 1 < (allC s m p).length) : cmpC ((allC s m p).getD i default) ((allC s m p).getD (i + 1) default) = -1 := by
  have hs := List.pairwise_iff_getElem.1 (allC_sorted s m p) i (i + 1) (by omega) h (by omega)
  rw [List.getD_eq_getElem?_getD, List.getD_eq_getElem?_getD, List.getElem?_eq_getElem h, List.getElem?_eq_getElem (show i < _ by omega)]
  exact cmpC_lt hs
theorem allC_valid {s m p : Int} {i : Nat} (h : i < (allC s m p).length) : validC ((allC s m p).getD i default) = true := by
  have hm : (allC s m p)[i] ∈ allC s m p := List.getElem_mem h
  rw [mem_allC] at hm
  unfold askC at hm
  rw [Bool.and_eq_true] at hm
  rw [List.getD_eq_getElem?_getD, List.getElem?_eq_getElem h]
  exact hm.1
/-- what the reference skips -/
def refKeep (s m p : Int) (i j : Nat) : Bool := (if uE s then decide ((i : Int) < m) else i == 0) && ((if uO s then decide ((j : Int) < m) else j == 0) && validC (ofC s i j p))
def refRow (s m p : Int) (i n : Nat) : List SCell := ((List.range n).filter (refKeep s m p i)).map fun (j : Nat) => ofC s i j p
def refAllC (s m p : Int) (n : Nat) : List SCell := (List.range n).flatMap fun i => refRow s m p i 12
theorem refRow_yes {s m p : Int} {i n : Nat} (h : refKeep s m p i n = true) : refRow s m p i (n + 1) = refRow s m p i n ++ [ofC s i n p] := by
  unfold refRow
  rw [List.range_succ, List.filter_append, List.map_append]
  simp [h]
theorem refRow_no {s m p : Int} {i n : Nat} (h : refKeep s m p i n = false) : refRow s m p i (n + 1) = refRow s m p i n := by
  unfold refRow
  rw [List.range_succ, List.filter_append, List.map_append]
  simp [h]
theorem refAllC_step (s m p : Int) (n : Nat) : refAllC s m p (n + 1) = refAllC s m p n ++ refRow s m p n 12 := by
  unfold refAllC
  rw [List.range_succ, List.flatMap_append]
  simp
theorem refRow_len (s m p : Int) (i n : Nat) : (refRow s m p i n).length ≤ n := by
  unfold refRow
  rw [List.length_map]
  exact Nat.le_trans (List.length_filter_le _ _) (by simp)
theorem refAllC_len (s m p : Int) : ∀ n, (refAllC s m p n).length ≤ n * 12 := by
  intro n
  induction n with
  | zero => simp [refAllC]
  | succ n ih =>
    rw [refAllC_step, List.length_append]
    have := refRow_len s m p n 12
    omega
theorem range_take {n k : Nat} {q : Nat → Bool} (h : ∀ j, j < n → (q j = true → j < k)) (hk : k ≤ n) : (List.range n).filter q = (List.range k).filter q := by
  obtain ⟨d, rfl⟩ := Nat.exists_eq_add_of_le hk
  rw [List.range_add, List.filter_append]
  have : ((List.range d).map fun x => k + x).filter q = [] := by
    rw [List.filter_eq_nil_iff]
    intro a ha hq
    obtain ⟨x, hx, rfl⟩ := List.mem_map.1 ha
    have := h (k + x) (by have := List.mem_range.1 hx; omega) hq
    omega
  rw [this, List.append_nil]
theorem upI_le (u : Bool) (m : Int) : (upI u m).toNat ≤ 12 := by
  have := upI_bd u m
  omega
theorem in_up (u : Bool) (m : Int) (n : Nat) (h : n < 12) : (if u then decide ((n : Int) < m) else n == 0) = decide (n < (upI u m).toNat) := by
  rw [Bool.eq_iff_iff, decide_eq_true_eq, upI_nat]
  cases u
  · simp
  · simp; omega
theorem refRow_eq {s m p : Int} {i : Nat} (h : i < (upI (uE s) m).toNat) : refRow s m p i 12 = rowA s p i (upI (uO s) m).toNat := by
  have h12 : i < 12 := by have := upI_le (uE s) m; omega
  unfold refRow rowA
  rw [List.filter_map, range_take (k := (upI (uO s) m).toNat) ?_ (upI_le _ _)]
  · congr 1
    apply List.filter_congr
    intro j hj
    have hj' := List.mem_range.1 hj
    unfold refKeep
    rw [in_up _ _ _ h12, in_up _ _ _ (by have := upI_le (uO s) m; omega), decide_eq_true h, decide_eq_true hj']
    simp
  · intro j hj hq
    unfold refKeep at hq
    rw [in_up _ _ _ h12, in_up _ _ _ hj] at hq
    simp only [Bool.and_eq_true, decide_eq_true_eq] at hq
    exact hq.2.1
theorem refRow_none {s m p : Int} {i : Nat} (h : ¬ i < (upI (uE s) m).toNat) (h12 : i < 12) : refRow s m p i 12 = [] := by
  unfold refRow
  have : (List.range 12).filter (refKeep s m p i) = [] := by
    rw [List.filter_eq_nil_iff]
    intro j hj hq
    unfold refKeep at hq
    rw [in_up _ _ _ h12, decide_eq_false h] at hq
    cases hq
  rw [this]; rfl
theorem refAllC_eq (s m p : Int) : ∀ n, n ≤ 12 → refAllC s m p n = allA s p (upI (uO s) m).toNat (min n (upI (uE s) m).toNat) := by
  intro n
  induction n with
  | zero => intro _; simp [refAllC, allA]
  | succ n ih =>
    intro hn
    rw [refAllC_step, ih (by omega)]
    by_cases h : n < (upI (uE s) m).toNat
    · rw [refRow_eq h, Nat.min_eq_left (by omega), Nat.min_eq_left (by omega), allA_step]
    · rw [refRow_none h (by omega), List.append_nil, Nat.min_eq_right (by omega), Nat.min_eq_right (by omega)]
theorem refAllC_all (s m p : Int) : refAllC s m p 12 = allC s m p := by
  rw [refAllC_eq s m p 12 (by omega), Nat.min_eq_right (upI_le _ _)]
  rfl
end Go.Proofs.YtophffmofpmbpaaDoor
