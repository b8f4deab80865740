/-
  Reading decimal numbers: plain laws.
-/
import Derived.Test.YtfnlddloalineaaGreatDoorDig
import Derived.Lib.SlTrimSet
namespace Go.Proofs.YtfnlddloalineaaGreatDoor
set_option linter.unusedVariables false
def runL (p : UInt8 → Bool) : List UInt8 → Nat
  | [] => 0
  | c :: r => if p c then runL p r + 1 else 0
theorem runL_le (p : UInt8 → Bool) : ∀ l : List UInt8, runL p l ≤ l.length := by
  intro l
  induction l with
  | nil => simp [runL]
  | cons x r ih => simp only [runL, List.length_cons]; split <;> omega
theorem runL_all (p : UInt8 → Bool) : ∀ l : List UInt8, (l.take (runL p l)).all p = true := by
  intro l
  induction l with
  | nil => simp [runL]
  | cons x r ih =>
    simp only [runL]
    split
    · rename_i h; simp [h]; simpa using ih
    · simp
theorem runL_stop (p : UInt8 → Bool) : ∀ l : List UInt8, runL p l < l.length → p (l.getD (runL p l) 0) = false := by
  intro l
  induction l with
  | nil => simp [runL]
  | cons x r ih =>
    intro h
    simp only [runL] at h ⊢
    by_cases hx : p x = true
    · rw [if_pos hx] at h ⊢
      have := ih (by simpa using h)
      simpa using this
    · rw [if_neg hx]; simpa using hx
theorem runL_eq {p : UInt8 → Bool} : ∀ {l : List UInt8} {k : Nat}, k ≤ l.length → (l.take k).all p = true → (k < l.length → p (l.getD k 0) = false) → runL p l = k := by
  intro l
  induction l with
  | nil => intro k h _ _; simp at h; simp [runL, h]
  | cons x r ih =>
    intro k hk ha hs
    cases k with
    | zero =>
      have := hs (by simp)
      simp at this
      simp [runL, this]
    | succ k =>
      simp only [List.take_succ_cons, List.all_cons, Bool.and_eq_true] at ha
      simp only [runL, if_pos ha.1]
      have := ih (k := k) (by simpa using hk) ha.2 (fun h => by simpa using hs (by simpa using h))
      omega
theorem runL_full {p : UInt8 → Bool} {l : List UInt8} : runL p l = l.length ↔ l.all p = true := by
  constructor
  · intro h; have := runL_all p l; rwa [h, List.take_length] at this
  · intro h; exact runL_eq (Nat.le_refl _) (by rwa [List.take_length]) (fun h => absurd h (by omega))
/-! trimming -/
theorem dropWhile_nil {p : UInt8 → Bool} : ∀ {l : List UInt8}, l.dropWhile p = [] ↔ l.all p = true := by
  intro l
  induction l with
  | nil => simp
  | cons x r ih =>
    rw [List.dropWhile_cons]
    split
    · rename_i h; rw [ih]; simp [h]
    · rename_i h; simp [h]
theorem trimS_nil {l cs : List UInt8} : Lib.trimS l cs = [] ↔ l.all (cs.contains ·) = true := by
  unfold Lib.trimS Lib.trimLeftS Lib.trimRightS
  rw [dropWhile_nil]
  constructor
  · intro h
    by_cases hr : l.reverse.dropWhile (cs.contains ·) = []
    · rw [dropWhile_nil, List.all_reverse] at hr; exact hr
    · exfalso
      cases hd : l.reverse.dropWhile (cs.contains ·) with
      | nil => exact hr hd
      | cons x r =>
        rw [hd, List.all_reverse, List.all_cons, Bool.and_eq_true] at h
        have := List.head?_dropWhile_not (cs.contains ·) l.reverse
        rw [hd] at this
        simp only [List.head?_cons] at this
        rw [h.1] at this
        cases this
  · intro h
    have : l.reverse.dropWhile (cs.contains ·) = [] := by rw [dropWhile_nil, List.all_reverse]; exact h
    rw [this]; rfl
def digs : List UInt8 := [48, 49, 50, 51, 52, 53, 54, 55, 56, 57]
theorem digs_dig (b : UInt8) : digs.contains b = isDig b := by
  rw [Bool.eq_iff_iff, isDig_iff, List.contains_iff_mem]
  simp only [digs, List.mem_cons, List.not_mem_nil, or_false]
  constructor
  · rintro (rfl | rfl | rfl | rfl | rfl | rfl | rfl | rfl | rfl | rfl) <;> decide
  · intro h
    have e : ∀ k : Nat, b.toNat = k → b = UInt8.ofNat k := by intro k hk; rw [← hk]; simp
    have : b.toNat = 48 ∨ b.toNat = 49 ∨ b.toNat = 50 ∨ b.toNat = 51 ∨ b.toNat = 52 ∨ b.toNat = 53 ∨ b.toNat = 54 ∨ b.toNat = 55 ∨ b.toNat = 56 ∨ b.toNat = 57 := by omega
    rcases this with h | h | h | h | h | h | h | h | h | h <;> (have := e _ h; subst this; simp)
theorem trim_digs {l : List UInt8} : Lib.trimS l digs = [] ↔ l.all isDig = true := by
  rw [trimS_nil]
  have : (fun b => digs.contains b) = isDig := by funext b; exact digs_dig b
  rw [this]
def zerosB (l : List UInt8) : Bool := l.all (· == 48)
theorem trim_zeros {l : List UInt8} : Lib.trimS l [48] = [] ↔ zerosB l = true := by
  rw [trimS_nil]
  unfold zerosB
  have : (fun b : UInt8 => ([48] : List UInt8).contains b) = (· == 48) := by
    funext b
    rw [Bool.eq_iff_iff, List.contains_iff_mem]
    simp
  rw [this]
/-! the form -/
def negB (l : List UInt8) : Bool := l.head? == some 45
def unS (l : List UInt8) : List UInt8 := if negB l then l.drop 1 else l
def whL (l : List UInt8) : List UInt8 := (Lib.cut (unS l) [46]).1
def ptL (l : List UInt8) : List UInt8 := (Lib.cut (unS l) [46]).2.1
def pnB (l : List UInt8) : Bool := (Lib.cut (unS l) [46]).2.2
def lead (w : List UInt8) : Bool := decide (1 < w.length) && (w.getD 0 0 == 48)
def fmB (l : List UInt8) : Bool := isNum (whL l) && !lead (whL l) && (!pnB l || isNum (ptL l)) && !(negB l && zerosB (whL l ++ ptL l))
def pzN (l : List UInt8) (sc : Int) : Nat := decVal (whL l ++ ptL l ++ List.replicate (sc.toNat - (ptL l).length) 48)
def pzB (l : List UInt8) (sc : Int) : Bool := decide (((ptL l).length : Int) ≤ sc) && decide ((whL l).length ≤ 16) && decide (pzN l sc ≤ 1000000000000000)
/-- the error and the number -/
def pzE (l : List UInt8) (sc : Int) : Int := if decide (0 ≤ sc) && decide (sc ≤ 9) then (if fmB l then (if pzB l sc then 0 else 2) else 3) else 1
def pzV (l : List UInt8) (sc : Int) : Int := if pzE l sc = 0 then (if negB l then -(pzN l sc : Int) else pzN l sc) else 0
/-- the reference's reading of the form: so many digits, then the end or a point -/
theorem cut_end {r : List UInt8} (h : runL isDig r = r.length) : Lib.cut r [46] = (r, [], false) := by
  have ha := runL_full.1 h
  exact cut_no (dig_ne_point ha)
theorem cut_point {r p : List UInt8} (h : r.drop (runL isDig r) = 46 :: p) : Lib.cut r [46] = (r.take (runL isDig r), p, true) := by
  have ha := runL_all isDig r
  have e : r = r.take (runL isDig r) ++ 46 :: p := by rw [← h, List.take_append_drop]
  conv => lhs; rw [e]
  exact cut_at (dig_ne_point ha)
theorem cut_other {r p : List UInt8} {c : UInt8} (h : r.drop (runL isDig r) = c :: p) (hc : c ≠ 46) : isNum (Lib.cut r [46]).1 = false := by
  cases hn : isNum (Lib.cut r [46]).1
  · rfl
  · exfalso
    have hall : (Lib.cut r [46]).1.all isDig = true := by
      unfold isNum at hn
      simp only [Bool.and_eq_true] at hn
      exact hn.1
    by_cases hm : (46 : UInt8) ∈ r
    · obtain ⟨a, b, e, hna⟩ := split_at hm
      subst e
      rw [cut_at hna] at hall
      simp only at hall
      have hk : runL isDig (a ++ 46 :: b) = a.length := runL_eq (by simp) (by rw [List.take_left']; exact hall; rfl) (fun _ => by simp [List.getD]; decide)
      rw [hk, List.drop_left'] at h
      · injection h with h _; exact hc h.symm
      · rfl
    · rw [cut_no hm] at hall
      have := runL_full.2 hall
      rw [this, List.drop_length] at h
      cases h
end Go.Proofs.YtfnlddloalineaaGreatDoor
