/-
  What Parse returns: plain laws.
-/
import Derived.Test.YtfiindecponeoaaDoorStPz
namespace Go.Proofs.YtfiindecponeoaaDoor
set_option linter.unusedVariables false
def lvE (acc : List SRow) : Int := lvl acc acc.length
inductive PzR : List SRow → List UInt8 → List SRow → Int → Int → Prop
  | done (acc : List SRow) : PzR acc [] acc 0 0
  | full {acc : List SRow} {s : List UInt8} : s ≠ [] → acc.length = 300 → PzR acc s [] 300 6
  | bad {acc : List SRow} {s : List UInt8} : s ≠ [] → acc.length ≠ 300 → (∀ r rest, okRow (lvE acc) r = true → s = lineL r ++ 10 :: rest → False) → PzR acc s [] acc.length 3
  | step {acc out : List SRow} {s rest : List UInt8} {r : SRow} {i e : Int} : acc.length ≠ 300 → okRow (lvE acc) r = true → s = lineL r ++ 10 :: rest → PzR (acc ++ [r]) rest out i e → PzR acc s out i e
theorem itoa_no10 {x : Int} (h : 0 ≤ x) : (10 : UInt8) ∉ Lib.itoa x := dig_not_mem (itoa_digs h).1 (by decide)
theorem name_no10 {l : List UInt8} (h : nameOk l = true) : (10 : UInt8) ∉ l := by
  intro hm
  unfold nameOk at h
  simp only [Bool.and_eq_true] at h
  have := List.all_eq_true.1 h.1.1 10 hm
  exact absurd this (by decide)
theorem line_no10 {b : Int} {r : SRow} (h : okRow b r = true) : (10 : UInt8) ∉ lineL r := by
  obtain ⟨hn, hl, hf, hto⟩ := okRow_bds h
  have h1 := itoa_no10 hl.1
  have h2 := itoa_no10 hf.1
  have h3 := itoa_no10 hto.1
  have h4 := name_no10 (okRow_iff.1 h).1
  unfold lineL
  simp only [List.mem_append, not_or]
  refine ⟨⟨⟨⟨h1, by decide⟩, h4⟩, by decide⟩, ?_⟩
  split
  · simp
  · simp only [List.mem_append, not_or]
    refine ⟨⟨⟨⟨by decide, h2⟩, by decide⟩, h3⟩, ?_⟩
    split <;> decide
theorem split_uniq {a a' b b' : List UInt8} {c : UInt8} (h : c ∉ a) (h' : c ∉ a') (e : a ++ c :: b = a' ++ c :: b') : a = a' ∧ b = b' := by
  have h1 := idxL_at (b := b) h
  have h2 := idxL_at (b := b') h'
  rw [e, h2] at h1
  have := List.append_inj e h1.symm
  exact ⟨this.1, by injection this.2⟩
theorem pz_det {acc : List SRow} {s : List UInt8} {o o' : List SRow} {i i' e e' : Int} (h : PzR acc s o i e) (h' : PzR acc s o' i' e') : o = o' ∧ i = i' ∧ e = e' := by
  induction h generalizing o' i' e' with
  | done acc =>
    cases h' with
    | done => exact ⟨rfl, rfl, rfl⟩
    | full h1 => exact absurd rfl h1
    | bad h1 => exact absurd rfl h1
    | step _ _ h1 => simp at h1
  | full h1 h2 =>
    cases h' with
    | done => exact absurd rfl h1
    | full => exact ⟨rfl, rfl, rfl⟩
    | bad _ h3 => exact absurd h2 h3
    | step h3 => exact absurd h2 h3
  | bad h1 h2 h3 =>
    cases h' with
    | done => exact absurd rfl h1
    | full _ h4 => exact absurd h4 h2
    | bad => exact ⟨rfl, rfl, rfl⟩
    | step _ h4 h5 _ => exact absurd h5 (fun h => h3 _ _ h4 h)
  | step h1 h2 h3 _ ih =>
    cases h' with
    | done => simp at h3
    | full _ h4 => exact absurd h4 h1
    | bad _ _ h4 => exact absurd h3 (fun h => h4 _ _ h2 h)
    | step _ h4 h5 h6 =>
      rw [h3] at h5
      obtain ⟨e1, rfl⟩ := split_uniq (line_no10 h2) (line_no10 h4) h5
      obtain rfl := line_inj h2 h4 e1
      exact ih h6
theorem lvl_app {acc rs : List SRow} {k : Nat} (h : k ≤ acc.length) : lvl (acc ++ rs) k = lvl acc k := by
  cases k with
  | zero => rfl
  | succ k =>
    simp only [lvl]
    congr 1
    simp [List.getD, List.getElem?_append_left (show k < acc.length by omega)]
theorem validF_snoc {acc : List SRow} {r : SRow} (h : validF (-1) acc = true) (h' : okRow (lvE acc) r = true) : validF (-1) (acc ++ [r]) = true := by
  have := validF_step (rs := acc ++ [r]) (k := acc.length) (by simp) (by rwa [List.take_left' rfl]) (by
    rw [lvl_app (Nat.le_refl _)]
    have : (acc ++ [r]).getD acc.length default = r := by simp [List.getD]
    rw [this]; exact h')
  rwa [List.take_of_length_le (by simp)] at this
theorem lvE_snoc (acc : List SRow) (r : SRow) : lvE (acc ++ [r]) = r.level := by
  unfold lvE
  rw [List.length_append]
  show ((acc ++ [r]).getD acc.length default).level = _
  simp [List.getD]
theorem textL_app (a b : List SRow) : textL (a ++ b) = textL a ++ textL b := by unfold textL; rw [List.flatMap_append]
theorem textL_one (r : SRow) : textL [r] = lineL r ++ [10] := by simp [textL]
/-- what is accepted is the text of the result -/
theorem pz_text {acc : List SRow} {s : List UInt8} {o : List SRow} {i e : Int} (h : PzR acc s o i e) (he : e = 0) (hv : validF (-1) acc = true) (hn : acc.length ≤ 300) : validF (-1) o = true ∧ o.length ≤ 300 ∧ textL o = textL acc ++ s ∧ i = 0 := by
  induction h with
  | done acc => exact ⟨hv, hn, by simp, rfl⟩
  | full => cases he
  | bad => cases he
  | step h1 h2 h3 _ ih =>
    obtain ⟨a, b, c, d⟩ := ih he (validF_snoc hv h2) (by simp; omega)
    refine ⟨a, b, ?_, d⟩
    rw [c, textL_app, textL_one, h3]
    simp
/-- the text of valid rows is accepted -/
theorem pz_rows : ∀ (rs acc : List SRow), validF (-1) (acc ++ rs) = true → (acc ++ rs).length ≤ 300 → PzR acc (textL rs) (acc ++ rs) 0 0 := by
  intro rs
  induction rs with
  | nil => intro acc _ _; rw [List.append_nil]; exact .done acc
  | cons r rs ih =>
    intro acc hv hn
    have hok : okRow (lvE acc) r = true := by
      have := validF_lvl.1 hv acc.length (by simp)
      rw [lvl_app (Nat.le_refl _)] at this
      have e : (acc ++ r :: rs).getD acc.length default = r := by simp [List.getD]
      rwa [e] at this
    have e : acc ++ r :: rs = (acc ++ [r]) ++ rs := by simp
    rw [e] at hv hn ⊢
    exact .step (by simp at hn; omega) hok (by simp [textL]) (ih _ hv hn)
/-- results that are no error hold rows; others hold none -/
theorem pz_err {acc : List SRow} {s : List UInt8} {o : List SRow} {i e : Int} (h : PzR acc s o i e) : e = 0 ∨ o = [] := by
  induction h with
  | done => exact .inl rfl
  | full => exact .inr rfl
  | bad => exact .inr rfl
  | step _ _ _ _ ih => exact ih
end Go.Proofs.YtfiindecponeoaaDoor
