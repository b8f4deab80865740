/-
  Tokens: plain laws, no program in sight.
-/
import Derived.Test.YtblpgdfjmkefkaaDoorBytes
namespace Go.Proofs.YtblpgdfjmkefkaaDoor
set_option linter.unusedVariables false
def isLet (b : UInt8) : Bool := decide (97 ≤ b.toNat) && decide (b.toNat ≤ 122)
def isNam (b : UInt8) : Bool := isLet b || isDig b || b == 95
def isBl (b : UInt8) : Bool := b == 32 || b == 9 || b == 10 || b == 13
theorem isLet_iff {b : UInt8} : isLet b = true ↔ 97 ≤ b.toNat ∧ b.toNat ≤ 122 := by simp [isLet]
/-- how many bytes are skipped; in a comment or not -/
def skipL : Bool → List UInt8 → Nat
  | _, [] => 0
  | true, c :: r => (if c == 10 then skipL false r else skipL true r) + 1
  | false, c :: r => if c == 35 then skipL true r + 1 else if isBl c then skipL false r + 1 else 0
def runL (p : UInt8 → Bool) : List UInt8 → Nat
  | [] => 0
  | c :: r => if p c then runL p r + 1 else 0
def dbls : List (List UInt8) := [[46, 46], [60, 61], [62, 61], [33, 61]]
def sgls : List UInt8 := [123, 125, 40, 41, 44, 59, 61, 43, 45, 42, 60, 62]
/-- kind and length of the token at the beginning -/
def nextL (l : List UInt8) : Int × Nat :=
  match l with
  | [] => (0, 0)
  | c :: r => if isLet c then (1, runL isNam l) else if isDig c then (2, runL isDig l) else if dbls.contains (l.take 2) then (3, 2) else if sgls.contains c then (3, 1) else (0, 0)
def valOk (l : List UInt8) : Bool := isNum l && decide (decVal l ≤ 1000000000000)
structure Tok where
  kind : Int
  text : List UInt8
  from_ : Int
def badTok (k : Int) (t : List UInt8) : Bool := (k == 1 && decide (16 < t.length)) || (k == 2 && !valOk t)
abbrev TR := Except (Int × Int) (List Tok)
def consR (t : Tok) : TR → TR
  | .ok l => .ok (t :: l)
  | .error e => .error e
/-- the tokens of what is left of a text, from place 'at' on -/
def tkE : Nat → List UInt8 → Nat → TR
  | 0, _, _ => .ok []
  | f + 1, r, at_ =>
    if r.drop (skipL false r) = [] then .ok []
    else if (nextL (r.drop (skipL false r))).1 = 0 then .error ((at_ + skipL false r : Nat), 3)
    else if badTok (nextL (r.drop (skipL false r))).1 ((r.drop (skipL false r)).take (nextL (r.drop (skipL false r))).2) then .error ((at_ + skipL false r : Nat), 6)
    else consR ⟨(nextL (r.drop (skipL false r))).1, (r.drop (skipL false r)).take (nextL (r.drop (skipL false r))).2, (at_ + skipL false r : Nat)⟩
      (tkE f ((r.drop (skipL false r)).drop (nextL (r.drop (skipL false r))).2) (at_ + skipL false r + (nextL (r.drop (skipL false r))).2))
def tokE (l : List UInt8) : TR := if 8000 < l.length then .error (8000, 6) else tkE (l.length + 1) l 0
def glue (acc : List Tok) : TR → TR
  | .ok l => .ok (acc ++ l)
  | .error e => .error e
theorem glue_nil (x : TR) : glue [] x = x := by cases x <;> rfl
theorem glue_cons (acc : List Tok) (t : Tok) (x : TR) : glue acc (consR t x) = glue (acc ++ [t]) x := by
  cases x <;> simp [glue, consR]
def trToks : TR → List Tok | .ok l => l | .error _ => []
def trAt : TR → Int | .ok _ => 0 | .error e => e.1
def trErr : TR → Int | .ok _ => 0 | .error e => e.2
/-! laws of skipping -/
theorem skipL_le : ∀ (l : List UInt8) (c : Bool), skipL c l ≤ l.length := by
  intro l
  induction l with
  | nil => intro c; cases c <;> simp [skipL]
  | cons x r ih =>
    intro c
    have h1 := ih true; have h2 := ih false
    cases c <;> simp only [skipL, List.length_cons] <;> (repeat' split) <;> omega
theorem runL_le (p : UInt8 → Bool) : ∀ l : List UInt8, runL p l ≤ l.length := by
  intro l
  induction l with
  | nil => simp [runL]
  | cons x r ih => simp only [runL, List.length_cons]; split <;> omega
theorem runL_all (p : UInt8 → Bool) : ∀ l : List UInt8, (l.take (runL p l)).all p = true := by
  intro l
  induction l with
  | nil => simp [runL]
  | cons x r ih =>
    simp only [runL]
    split
    · rename_i h; simp [h]; simpa using ih
    · simp
theorem runL_stop (p : UInt8 → Bool) : ∀ l : List UInt8, runL p l < l.length → p (l.getD (runL p l) 0) = false := by
  intro l
  induction l with
  | nil => simp [runL]
  | cons x r ih =>
    intro h
    simp only [runL] at h ⊢
    by_cases hx : p x = true
    · rw [if_pos hx] at h ⊢
      have := ih (by simpa using h)
      simpa using this
    · rw [if_neg hx]; simpa using hx
theorem runL_eq {p : UInt8 → Bool} : ∀ {l : List UInt8} {k : Nat}, k ≤ l.length → (l.take k).all p = true → (k < l.length → p (l.getD k 0) = false) → runL p l = k := by
  intro l
  induction l with
  | nil => intro k h _ _; simp at h; simp [runL, h]
  | cons x r ih =>
    intro k hk ha hs
    cases k with
    | zero =>
      have := hs (by simp)
      simp at this
      simp [runL, this]
    | succ k =>
      simp only [List.take_succ_cons, List.all_cons, Bool.and_eq_true] at ha
      simp only [runL, if_pos ha.1]
      have := ih (k := k) (by simpa using hk) ha.2 (fun h => by simpa using hs (by simpa using h))
      omega
theorem runL_full {p : UInt8 → Bool} {l : List UInt8} : runL p l = l.length ↔ l.all p = true := by
  constructor
  · intro h; have := runL_all p l; rwa [h, List.take_length] at this
  · intro h; exact runL_eq (Nat.le_refl _) (by rwa [List.take_length]) (fun h => absurd h (by omega))
theorem nextL_pos {l : List UInt8} (h : (nextL l).1 ≠ 0) : 1 ≤ (nextL l).2 := by
  cases l with
  | nil => simp [nextL] at h
  | cons c r =>
    simp only [nextL] at h ⊢
    by_cases h1 : isLet c = true
    · have : isNam c = true := by simp [isNam, h1]
      simp [h1, runL, this]
    · by_cases h2 : isDig c = true
      · simp [h1, h2, runL]
      · simp only [h1, h2] at h ⊢
        simp only [Bool.false_eq_true, if_false] at h ⊢
        (repeat' split) <;> simp_all
theorem nextL_le {l : List UInt8} : (nextL l).2 ≤ l.length := by
  cases l with
  | nil => simp [nextL]
  | cons c r =>
    have a := runL_le isNam (c :: r)
    have b := runL_le isDig (c :: r)
    simp only [nextL]
    by_cases h1 : isLet c = true
    · simp only [h1, if_true]; exact a
    · by_cases h2 : isDig c = true
      · simp only [h1, h2, Bool.false_eq_true, if_false, if_true]; exact b
      · simp only [h1, h2, Bool.false_eq_true, if_false]
        split
        · rename_i h
          simp only [dbls, List.contains_eq_mem, List.mem_cons, List.not_mem_nil, or_false, decide_eq_true_eq] at h
          cases r with
          | nil => simp at h
          | cons d r => simp
        · split <;> simp
theorem nextL_kind (l : List UInt8) : (nextL l).1 = 0 ∨ (nextL l).1 = 1 ∨ (nextL l).1 = 2 ∨ (nextL l).1 = 3 := by
  cases l with
  | nil => simp [nextL]
  | cons c r => simp only [nextL]; (repeat' split) <;> simp
/-! one step of the tokens -/
section
variable {r q : List UInt8} {f at_ k n : Nat} {kd : Int}
theorem tkE_end (h : skipL false r = r.length) : tkE (f + 1) r at_ = .ok [] := by simp [tkE, h]
theorem drop_ne (h : skipL false r ≠ r.length) : r.drop (skipL false r) ≠ [] := by
  have := skipL_le r false
  intro e
  have := List.drop_eq_nil_iff.1 e
  omega
theorem tkE_syn (hs : skipL false r = k) (hk : k < r.length) (hn : (nextL (r.drop k)).1 = 0) : tkE (f + 1) r at_ = .error ((at_ + k : Nat), 3) := by
  subst hs
  simp only [tkE]
  rw [if_neg (drop_ne (by omega)), if_pos hn]
theorem tkE_lim (hs : skipL false r = k) (hk : k < r.length) (hn : nextL (r.drop k) = (kd, n)) (h0 : kd ≠ 0) (hb : badTok kd ((r.drop k).take n) = true) : tkE (f + 1) r at_ = .error ((at_ + k : Nat), 6) := by
  subst hs
  simp only [tkE]
  rw [if_neg (drop_ne (by omega)), hn, if_neg h0, if_pos hb]
theorem tkE_tok (hs : skipL false r = k) (hk : k < r.length) (hn : nextL (r.drop k) = (kd, n)) (h0 : kd ≠ 0) (hb : badTok kd ((r.drop k).take n) = false) :
    tkE (f + 1) r at_ = consR ⟨kd, (r.drop k).take n, (at_ + k : Nat)⟩ (tkE f ((r.drop k).drop n) (at_ + k + n)) := by
  subst hs
  simp only [tkE]
  rw [if_neg (drop_ne (by omega)), hn, if_neg h0, if_neg (by rw [hb]; simp)]
end
end Go.Proofs.YtblpgdfjmkefkaaDoor
