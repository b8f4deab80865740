/-
  Rows of statements: plain laws, no program in sight.
-/
import Derived.Test.YtcmmppkmkejniaaGreatDoorDig
import Derived.Lib.TrimByte
namespace Go.Proofs.YtcmmppkmkejniaaGreatDoor
set_option linter.unusedVariables false
structure SRow where
  name : List UInt8
  level : Int
  from_ : Int
  to_ : Int
  neg : Bool
instance : Inhabited SRow := ⟨⟨[], 0, 0, 0, false⟩⟩
def prB (b : UInt8) : Bool := decide (32 ≤ b.toNat) && decide (b.toNat ≤ 126) && !(b == 34)
def nameOk (s : List UInt8) : Bool := s.all prB && (decide (1 ≤ s.length) && decide (s.length ≤ 16)) && (!(s.getD 0 0 == 32) && !(s.getD (s.length - 1) 0 == 32))
def isTitle (r : SRow) : Bool := decide (r.to_ < r.from_)
def rowIn (r : SRow) : Bool := if isTitle r then decide (r.from_ = 1) && decide (r.to_ = 0) && !r.neg else decide (0 ≤ r.from_) && decide (r.to_ ≤ 99999)
def okRow (before : Int) (r : SRow) : Bool := nameOk r.name && (decide (0 ≤ r.level) && decide (r.level ≤ 9) && decide (r.level ≤ before + 1)) && rowIn r
def validF : Int → List SRow → Bool
  | _, [] => true
  | b, r :: rs => okRow b r && validF r.level rs
def validR (rs : List SRow) : Bool := validF (-1) rs && decide (rs.length ≤ 300)
def lineL (r : SRow) : List UInt8 :=
  Lib.itoa r.level ++ [32, 34] ++ r.name ++ [34] ++ (if isTitle r then [] else [32] ++ Lib.itoa r.from_ ++ [46, 46] ++ Lib.itoa r.to_ ++ (if r.neg then [32, 45] else []))
def textL (rs : List SRow) : List UInt8 := rs.flatMap fun r => lineL r ++ [10]
/-- the level of the row before number k -/
def lvl (rs : List SRow) : Nat → Int
  | 0 => -1
  | k + 1 => (rs.getD k default).level
theorem okRow_level {b : Int} {r : SRow} (h : okRow b r = true) : 0 ≤ r.level ∧ r.level ≤ 9 := by
  unfold okRow at h
  simp only [Bool.and_eq_true, decide_eq_true_eq] at h
  omega
/-- all the rows are valid just where each is valid behind the one before it -/
theorem validF_at : ∀ (rs : List SRow) (b : Int), validF b rs = true ↔ ∀ k, k < rs.length → okRow (if k = 0 then b else (rs.getD (k - 1) default).level) (rs.getD k default) = true := by
  intro rs
  induction rs with
  | nil => intro b; simp [validF]
  | cons r rs ih =>
    intro b
    simp only [validF, Bool.and_eq_true]
    rw [ih]
    constructor
    · rintro ⟨h1, h2⟩ k hk
      cases k with
      | zero => simpa using h1
      | succ k =>
        have := h2 k (by simpa using hk)
        cases k with
        | zero => simpa using this
        | succ k => simpa using this
    · intro h
      refine ⟨by simpa using h 0 (by simp), fun k hk => ?_⟩
      have := h (k + 1) (by simpa using hk)
      cases k with
      | zero => simpa using this
      | succ k => simpa using this
theorem validF_lvl {rs : List SRow} : validF (-1) rs = true ↔ ∀ k, k < rs.length → okRow (lvl rs k) (rs.getD k default) = true := by
  rw [validF_at]
  constructor
  · intro h k hk
    have := h k hk
    cases k with
    | zero => exact this
    | succ k => simpa [lvl] using this
  · intro h k hk
    have := h k hk
    cases k with
    | zero => exact this
    | succ k => simpa [lvl] using this
theorem take_getD {α : Type} {l : List α} {k j : Nat} (d : α) (h : j < k) : (l.take k).getD j d = l.getD j d := by
  simp [List.getD, h]
theorem lvl_take {rs : List SRow} {k j : Nat} (h : j ≤ k) : lvl (rs.take k) j = lvl rs j := by
  cases j with
  | zero => rfl
  | succ j => simp only [lvl, take_getD _ (show j < k by omega)]
theorem validF_take {rs : List SRow} (h : validF (-1) rs = true) (k : Nat) : validF (-1) (rs.take k) = true := by
  rw [validF_lvl] at h ⊢
  intro j hj
  rw [List.length_take] at hj
  rw [lvl_take (by omega), take_getD _ (by omega)]
  exact h j (by omega)
theorem validF_step {rs : List SRow} {k : Nat} (hk : k < rs.length) (h : validF (-1) (rs.take k) = true) (h' : okRow (lvl rs k) (rs.getD k default) = true) : validF (-1) (rs.take (k + 1)) = true := by
  rw [validF_lvl] at h ⊢
  intro j hj
  rw [List.length_take] at hj
  rw [lvl_take (by omega), take_getD _ (by omega)]
  rcases Nat.lt_or_ge j k with hjk | hjk
  · have := h j (by rw [List.length_take]; omega)
    rwa [lvl_take (by omega), take_getD _ (by omega)] at this
  · obtain rfl : j = k := by omega
    exact h'
theorem validF_no {rs : List SRow} {k : Nat} (hk : k < rs.length) (h' : okRow (lvl rs k) (rs.getD k default) = false) : validF (-1) rs = false := by
  cases h : validF (-1) rs
  · rfl
  · have := validF_lvl.1 h k hk
    rw [h'] at this; cases this
theorem validF_level {rs : List SRow} (h : validF (-1) rs = true) {k : Nat} (hk : k < rs.length) : 0 ≤ (rs.getD k default).level ∧ (rs.getD k default).level ≤ 9 := okRow_level (validF_lvl.1 h k hk)
theorem textL_step {rs : List SRow} {k : Nat} (hk : k < rs.length) : textL (rs.take (k + 1)) = textL (rs.take k) ++ (lineL (rs.getD k default) ++ [10]) := by
  unfold textL
  rw [List.take_succ_eq_append_getElem hk, List.flatMap_append]
  have e : rs.getD k default = rs[k] := by simp [List.getD, hk]
  rw [e]; simp
theorem textL_prefix (rs : List SRow) (k : Nat) : ∃ t, textL rs = textL (rs.take k) ++ t := by
  refine ⟨textL (rs.drop k), ?_⟩
  unfold textL
  rw [← List.flatMap_append, List.take_append_drop]
/-! trimming spaces -/
theorem dropW_id {p : UInt8 → Bool} : ∀ {l : List UInt8}, (∀ b, l.head? = some b → p b = false) → l.dropWhile p = l := by
  intro l h
  cases l with
  | nil => rfl
  | cons x r => rw [List.dropWhile_cons, if_neg (by rw [h x rfl]; simp)]
theorem dropW_len (p : UInt8 → Bool) : ∀ l : List UInt8, (l.dropWhile p).length ≤ l.length := by
  intro l
  induction l with
  | nil => simp
  | cons x r ih => rw [List.dropWhile_cons]; split <;> simp <;> omega
theorem trimB_id {l : List UInt8} {c : UInt8} : (Lib.trimB l c == l) = (!(l.head? == some c) && !(l.getLast? == some c)) := by
  unfold Lib.trimB Lib.trimLeftB Lib.trimRightB
  rw [Bool.eq_iff_iff, beq_iff_eq]
  simp only [Bool.and_eq_true, Bool.not_eq_true', beq_eq_false_iff_ne, ne_eq]
  constructor
  · intro h
    have hlen : ((l.reverse.dropWhile (· == c)).reverse.dropWhile (· == c)).length = l.length := by rw [h]
    have h1 := dropW_len (· == c) (l.reverse.dropWhile (· == c)).reverse
    have h2 := dropW_len (· == c) l.reverse
    rw [List.length_reverse] at h1 h2
    have hr : l.reverse.dropWhile (· == c) = l.reverse := by
      cases hl : l.reverse with
      | nil => rfl
      | cons x r =>
        rw [List.dropWhile_cons]
        split
        · rename_i hx
          exfalso
          rw [hl, List.dropWhile_cons, if_pos hx] at h1 hlen
          have h3 := dropW_len (· == c) r
          have h4 : l.length = r.length + 1 := by rw [← List.length_reverse, hl]; rfl
          omega
        · rfl
    rw [hr, List.reverse_reverse] at h
    constructor
    · intro hh
      cases l with
      | nil => simp at hh
      | cons x r =>
        simp only [List.head?_cons, Option.some.injEq] at hh
        subst hh
        rw [List.dropWhile_cons, if_pos (by simp)] at h
        have := dropW_len (· == x) r
        have := congrArg List.length h
        simp at this
        omega
    · intro hh
      rw [List.getLast?_eq_head?_reverse] at hh
      cases hl : l.reverse with
      | nil => rw [hl] at hh; simp at hh
      | cons x r =>
        rw [hl] at hh hr
        simp only [List.head?_cons, Option.some.injEq] at hh
        subst hh
        rw [List.dropWhile_cons, if_pos (by simp)] at hr
        have := dropW_len (· == x) r
        have := congrArg List.length hr
        simp at this
        omega
  · rintro ⟨h1, h2⟩
    have hr : l.reverse.dropWhile (· == c) = l.reverse := dropW_id (by
      intro b hb
      rw [← List.getLast?_eq_head?_reverse] at hb
      simp only [beq_eq_false_iff_ne]
      rintro rfl
      exact h2 hb)
    rw [hr, List.reverse_reverse]
    exact dropW_id (by
      intro b hb
      simp only [beq_eq_false_iff_ne]
      rintro rfl
      exact h1 hb)
theorem ends_getD {s : List UInt8} (h : 1 ≤ s.length) (c : UInt8) : (!(s.head? == some c) && !(s.getLast? == some c)) = (!(s.getD 0 0 == c) && !(s.getD (s.length - 1) 0 == c)) := by
  have e1 : s.head? = some (s.getD 0 0) := by
    cases s with
    | nil => simp at h
    | cons x r => rfl
  have e2 : s.getLast? = some (s.getD (s.length - 1) 0) := by
    rw [List.getLast?_eq_getElem?]
    simp [List.getD, show s.length - 1 < s.length by omega]
  rw [e1, e2]
  rfl
end Go.Proofs.YtcmmppkmkejniaaGreatDoor
