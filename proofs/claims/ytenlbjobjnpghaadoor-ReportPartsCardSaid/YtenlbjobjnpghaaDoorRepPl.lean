/-
  Lines as text: plain laws.
-/
import Derived.Test.YtenlbjobjnpghaaDoorRep5
import Derived.Test.YtenlbjobjnpghaaDoorStFew
namespace Go.Proofs.YtenlbjobjnpghaaDoor
set_option linter.unusedVariables false
def capL (x : SLine) : List UInt8 := List.replicate (2 * x.row.level.toNat) 32 ++ x.row.name
def widL (x : SLine) : Nat := if isTitle x.row then 0 else (capL x).length + 1 + (amtText x.amt).length
def longL (xs : List SLine) : Nat := xs.foldl (fun m x => max m (widL x)) 0
def oneL (W : Nat) (x : SLine) : List UInt8 := capL x ++ (if isTitle x.row then [] else List.replicate (W - widL x + 1) 32 ++ amtText x.amt) ++ [10]
def linesT (W : Nat) (xs : List SLine) : List UInt8 := xs.flatMap (oneL W)
def okLn (x : SLine) : Bool := okAmt x.amt && (!isTitle x.row || x.amt == 0)
def rowsOf (xs : List SLine) : List SRow := xs.map (·.row)
def validL (xs : List SLine) : Bool := validR (rowsOf xs) && xs.all okLn
def rtS (xs : List SLine) : List UInt8 := if validL xs then linesT (longL xs) xs else []
def rtE (xs : List SLine) : Int := if validL xs then 0 else 1
theorem rt_no {xs : List SLine} (h : validL xs = false) : rtS xs = [] ∧ rtE xs = 1 := by
  unfold rtS rtE; rw [h]; exact ⟨rfl, rfl⟩
theorem rt_yes {xs : List SLine} (h : validL xs = true) : rtS xs = linesT (longL xs) xs ∧ rtE xs = 0 := by
  unfold rtS rtE; rw [h]; exact ⟨rfl, rfl⟩
theorem rowsOf_len (xs : List SLine) : (rowsOf xs).length = xs.length := by simp [rowsOf]
theorem rowsOf_getD (xs : List SLine) (k : Nat) : (rowsOf xs).getD k default = (xs.getD k default).row := by
  unfold rowsOf
  rcases Nat.lt_or_ge k xs.length with h | h
  · simp [List.getD, h]
  · simp [List.getD, List.getElem?_eq_none h]; rfl
theorem getD_memL {xs : List SLine} {k : Nat} (h : k < xs.length) : xs.getD k default ∈ xs := by
  have : xs.getD k default = xs[k] := by simp [List.getD, h]
  rw [this]; exact List.getElem_mem h
theorem validL_iff {xs : List SLine} : validL xs = true ↔ validR (rowsOf xs) = true ∧ xs.all okLn = true := by
  unfold validL; rw [Bool.and_eq_true]
theorem okLn_iff {x : SLine} : okLn x = true ↔ okAmt x.amt = true ∧ (isTitle x.row = true → x.amt = 0) := by
  unfold okLn
  rw [Bool.and_eq_true, Bool.or_eq_true, Bool.not_eq_true', beq_iff_eq]
  constructor
  · rintro ⟨h1, h2 | h2⟩
    · exact ⟨h1, fun h => by rw [h2] at h; cases h⟩
    · exact ⟨h1, fun _ => h2⟩
  · rintro ⟨h1, h2⟩
    refine ⟨h1, ?_⟩
    cases h : isTitle x.row
    · exact .inl rfl
    · exact .inr (h2 h)
theorem validL_len {xs : List SLine} (h : validL xs = true) : xs.length ≤ 300 := by
  have := validR_len (validL_iff.1 h).1
  rwa [rowsOf_len] at this
theorem validL_at {xs : List SLine} {k : Nat} (h : validL xs = true) (hk : k < xs.length) :
    (xs.getD k default).row.name.length ≤ 16 ∧ (0 ≤ (xs.getD k default).row.level ∧ (xs.getD k default).row.level ≤ 9) ∧ okLn (xs.getD k default) = true := by
  obtain ⟨h1, h2⟩ := validL_iff.1 h
  have h3 := okRow_bds (validR_row h1 (k := k) (by rw [rowsOf_len]; exact hk))
  rw [rowsOf_getD] at h3
  exact ⟨h3.1, h3.2.1, List.all_eq_true.1 h2 _ (getD_memL hk)⟩
theorem amtText_len (n : Int) : (amtText n).length ≤ 26 := by
  unfold amtText
  cases h : okAmt n
  · simp
  · have hb := okAmt_iff.1 h
    have h2 := dec_len_le (m := n.natAbs / 100) (by omega)
    rw [if_pos rfl]
    unfold amtBody
    split <;> simp [two] <;> omega
theorem amtText_pos_len {n : Int} (h : okAmt n = true) : 1 ≤ (amtText n).length := by
  unfold amtText
  rw [if_pos h]
  split <;> simp [amtBody]; omega
theorem capL_len (x : SLine) : (capL x).length = 2 * x.row.level.toNat + x.row.name.length := by simp [capL]
theorem widL_title {x : SLine} (h : isTitle x.row = true) : widL x = 0 := by unfold widL; rw [if_pos h]
theorem widL_row {x : SLine} (h : isTitle x.row = false) : widL x = (capL x).length + 1 + (amtText x.amt).length := by unfold widL; rw [h]; rfl
theorem widL_le {x : SLine} (h1 : x.row.name.length ≤ 16) (h2 : x.row.level ≤ 9) : widL x ≤ 61 := by
  have h3 := amtText_len x.amt
  have h4 := capL_len x
  unfold widL
  split <;> omega
theorem longL_step {xs : List SLine} {k : Nat} (hk : k < xs.length) : longL (xs.take (k + 1)) = max (longL (xs.take k)) (widL (xs.getD k default)) := by
  unfold longL
  rw [List.take_succ_eq_append_getElem hk, List.foldl_append]
  have e : xs.getD k default = xs[k] := by simp [List.getD, hk]
  rw [e]; rfl
theorem longL_ge {xs : List SLine} {k : Nat} (hk : k < xs.length) : widL (xs.getD k default) ≤ longL xs := by
  have key : ∀ j, k < j → j ≤ xs.length → widL (xs.getD k default) ≤ longL (xs.take j) := by
    intro j
    induction j with
    | zero => intro h; omega
    | succ j ih =>
      intro h1 h2
      rw [longL_step (by omega)]
      by_cases hj : k = j
      · subst hj; exact Nat.le_max_right _ _
      · exact Nat.le_trans (ih (by omega) (by omega)) (Nat.le_max_left _ _)
  have := key xs.length hk (Nat.le_refl _)
  rwa [List.take_length] at this
theorem longL_bd {xs : List SLine} (h : validL xs = true) : ∀ k, k ≤ xs.length → longL (xs.take k) ≤ 61 := by
  intro k
  induction k with
  | zero => intro _; simp [longL]
  | succ k ih =>
    intro hk
    have h0 := validL_at h (show k < xs.length by omega)
    have h1 := widL_le h0.1 h0.2.1.2
    have h2 := ih (by omega)
    rw [longL_step (by omega)]
    omega
theorem longL_all {xs : List SLine} (h : validL xs = true) : longL xs ≤ 61 := by
  have := longL_bd h xs.length (Nat.le_refl _)
  rwa [List.take_length] at this
theorem oneL_len {W : Nat} {x : SLine} (hW : W ≤ 61) (h1 : x.row.name.length ≤ 16) (h2 : x.row.level ≤ 9) : (oneL W x).length ≤ 130 := by
  have h3 := amtText_len x.amt
  have h4 := capL_len x
  unfold oneL
  rw [List.length_append, List.length_append]
  split
  · simp; omega
  · rw [List.length_append, List.length_replicate]; simp; omega
theorem linesT_step {W : Nat} {xs : List SLine} {k : Nat} (hk : k < xs.length) : linesT W (xs.take (k + 1)) = linesT W (xs.take k) ++ oneL W (xs.getD k default) := by
  unfold linesT
  rw [List.take_succ_eq_append_getElem hk, List.flatMap_append]
  have e : xs.getD k default = xs[k] := by simp [List.getD, hk]
  rw [e]; simp
theorem linesT_len {W : Nat} {xs : List SLine} (hW : W ≤ 61) (h : validL xs = true) : ∀ k, k ≤ xs.length → (linesT W (xs.take k)).length ≤ k * 130 := by
  intro k
  induction k with
  | zero => intro _; simp [linesT]
  | succ k ih =>
    intro hk
    have h0 := validL_at h (show k < xs.length by omega)
    have h1 := oneL_len (W := W) hW h0.1 h0.2.1.2
    have h2 := ih (by omega)
    rw [linesT_step (by omega), List.length_append]
    omega
theorem okLn_no {xs : List SLine} {k : Nat} (hk : k < xs.length) (h : okLn (xs.getD k default) = false) : xs.all okLn = false := by
  rw [List.all_eq_false]
  exact ⟨xs.getD k default, getD_memL hk, by rw [h]; simp⟩
theorem okLn_step {xs : List SLine} {k : Nat} (hk : k < xs.length) (h : (xs.take k).all okLn = true) (h' : okLn (xs.getD k default) = true) : (xs.take (k + 1)).all okLn = true := by
  rw [List.take_succ_eq_append_getElem hk, List.all_append, h]
  have e : xs.getD k default = xs[k] := by simp [List.getD, hk]
  rw [e] at h'
  simp [h']
theorem rowsCells_step {xs : List SLine} {k : Nat} (hk : k < xs.length) : rowsCells (rowsOf (xs.take (k + 1))) = rowsCells (rowsOf (xs.take k)) ++ rowCells (xs.getD k default).row := by
  unfold rowsOf
  rw [List.take_succ_eq_append_getElem hk, List.map_append, List.map_cons, List.map_nil, rowsCells_snoc]
  simp [List.getD, hk]
theorem row_one (r : SRow) : ∀ u ∈ rowCells r, u.oneCell' = true := by
  intro u hu
  unfold rowCells at hu
  simp only [List.mem_cons, List.not_mem_nil, or_false] at hu
  rcases hu with rfl | rfl | rfl | rfl | rfl <;> rfl
end Go.Proofs.YtenlbjobjnpghaaDoor
