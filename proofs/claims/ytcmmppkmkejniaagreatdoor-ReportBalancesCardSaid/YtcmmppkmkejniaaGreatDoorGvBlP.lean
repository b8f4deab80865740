/-
  Balances: the sums under the titles of both statements, plain.
-/
import Derived.Test.YtcmmppkmkejniaaGreatDoorGvSd
namespace Go.Proofs.YtcmmppkmkejniaaGreatDoor
open Go.RowKit
set_option linter.unusedVariables false
theorem lnR_rows (bs : List SBal) (rs : List SRow) : rowsOf (rs.map (lnR bs)) = rs := by
  unfold rowsOf
  rw [List.map_map]
  have : ((fun x : SLine => x.row) ∘ lnR bs) = id := rfl
  rw [this, List.map_id]
theorem su_ok {xs : List SLine} {i : Int} (h : suE xs i = 0) : suN xs i = sumU xs i.toNat (unN (rowsOf xs) i.toNat) := by
  unfold suN; rw [if_pos h]
theorem su_bd {xs : List SLine} {i : Int} (h : suE xs i = 0) : -1000000000000 ≤ suN xs i ∧ suN xs i ≤ 1000000000000 := by
  rw [su_ok h]
  unfold suE at h
  split at h
  · split at h
    · split at h
      · exact okAmt_iff.1 (by assumption)
      · cases h
    · rename_i h1 h2; exact absurd h h2
  · cases h
/-- each sum of sides is an amount -/
theorem sdUp_bd {xs : List SLine} {rs : List SRow} : ∀ {k : Nat} {l : List Int}, sdUp xs rs k = some l → ∀ x ∈ l, -1000000000000 ≤ x ∧ x ≤ 1000000000000 := by
  intro k
  induction k with
  | zero => intro l h; simp [sdUp] at h; subst h; intro x hx; cases hx
  | succ k ih =>
    intro l h
    unfold sdUp at h
    cases e : sdUp xs rs k with
    | none => rw [e] at h; cases h
    | some l0 =>
      rw [e] at h
      have i := ih e
      simp only [] at h
      split at h
      · cases h; exact i
      · split at h
        · cases h
          intro x hx
          rcases List.mem_append.1 hx with hx | hx
          · exact i x hx
          · rw [List.mem_singleton] at hx
            subst hx
            exact su_bd (by assumption)
        · cases h
/-- the figures of the accounts of a kind -/
def kindS (bs : List SBal) (ch : List SAcc) (kind : Int) : Int := ((ch.filter fun a => a.kind == kind).map fun a => figL bs a.code a.code).sum
def negS (neg : Bool) (x : Int) : Int := if neg then -x else x
theorem amt_acc (bs : List SBal) (neg : Bool) (a : SAcc) : amtR bs (accRow neg a) = negS neg (figL bs a.code a.code) := by
  unfold amtR negS
  rw [if_neg (by simp [isTitle, accRow])]
  rfl
theorem sum_neg (neg : Bool) {α : Type} (f : α → Int) : ∀ l : List α, (l.map fun a => negS neg (f a)).sum = negS neg (l.map f).sum := by
  intro l
  induction l with
  | nil => cases neg <;> rfl
  | cons a t ih =>
    rw [List.map_cons, List.sum_cons, ih, List.map_cons, List.sum_cons]
    unfold negS
    split
    · omega
    · rfl
theorem sumU_list {xs : List SLine} {q : Nat} {l : List SLine} : ∀ m, m ≤ l.length → (∀ j, j < l.length → (xs.getD (q + 1 + j) default).amt = (l.getD j default).amt) → sumU xs q m = ((l.take m).map (·.amt)).sum := by
  intro m
  induction m with
  | zero => intro _ _; simp [sumU]
  | succ m ih =>
    intro hm h
    rw [sumU_step, ih (by omega) h, h m (by omega), List.take_succ_eq_append_getElem (by omega), List.map_append, List.sum_append]
    simp [List.getD, show m < l.length by omega]
theorem getD_mid {α : Type} (d : α) (a b c : List α) {j : Nat} (h : j < b.length) : (a ++ (b ++ c)).getD (a.length + j) d = b.getD j d := by
  unfold List.getD
  rw [List.getElem?_append_right (by omega), show a.length + j - a.length = j by omega, List.getElem?_append_left h]
theorem sec_len (ch : List SAcc) (nm : List UInt8) (kind : Int) (neg : Bool) : (secRows ch nm kind neg).length = (ch.filter fun a => a.kind == kind).length + 1 := by
  simp [secRows]
/-- one section: its title's sum is that of its accounts -/
theorem sd_sec {bs : List SBal} {ch : List SAcc} {nm : List UInt8} {kind : Int} {neg : Bool} {pre rest : List SRow} {rs : List SRow} (hrs : rs = pre ++ (secRows ch nm kind neg ++ rest)) (hrest : rest = [] ∨ (rest.getD 0 default).level = 0) {l l' : List Int}
    (h : sdUp (rs.map (lnR bs)) rs pre.length = some l) (h' : sdUp (rs.map (lnR bs)) rs (pre ++ secRows ch nm kind neg).length = some l') : l' = l ++ [negS neg (kindS bs ch kind)] := by
  have hsl := sec_len ch nm kind neg
  generalize hA : (ch.filter fun a => a.kind == kind) = qs at *
  have hsec : secRows ch nm kind neg = ⟨nm, 0, 1, 0, false⟩ :: qs.map (accRow neg) := by unfold secRows; rw [hA]
  have hlen : rs.length = pre.length + (qs.length + 1 + rest.length) := by rw [hrs, List.length_append, List.length_append, hsl]
  have hat : ∀ j, j < qs.length + 1 → rs.getD (pre.length + j) default = (secRows ch nm kind neg).getD j default := fun j hj => by rw [hrs]; exact getD_mid default pre _ rest (by omega)
  have hat0 : (rs.getD pre.length default).level = 0 := by
    have := hat 0 (by omega)
    rw [Nat.add_zero] at this
    rw [this, hsec]; rfl
  have hatk : ∀ j, j < qs.length → rs.getD (pre.length + (j + 1)) default = accRow neg (qs.getD j default) := fun j hj => by
    rw [hat (j + 1) (by omega), hsec]
    simp [List.getD, hj]
  have hun : unN rs pre.length = qs.length := by
    have := unN_eq (rs := rs) (q := pre.length) (k := pre.length + 1 + qs.length) (by omega) (by omega) (fun j h1 h2 => ?_) (fun h1 => ?_)
    · omega
    · unfold lev
      rw [hat0, show j = pre.length + ((j - pre.length - 1) + 1) by omega, hatk _ (by omega)]
      show (0 : Int) < 1
      omega
    · unfold lev
      rw [hat0]
      rcases hrest with e | e
      · rw [e] at hlen; simp at hlen; omega
      · have e2 : rs.getD (pre.length + 1 + qs.length) default = rest.getD 0 default := by
          rw [hrs, ← List.append_assoc]
          have := getD_mid (default : SRow) (pre ++ secRows ch nm kind neg) rest [] (j := 0) (by omega)
          rw [List.append_nil, Nat.add_zero, List.length_append, hsl] at this
          rw [← this]
          congr 1
          omega
        rw [e2, e]
        omega
  have hsu : ∀ hE : suE (rs.map (lnR bs)) (pre.length : Nat) = 0, suN (rs.map (lnR bs)) (pre.length : Nat) = negS neg (kindS bs ch kind) := by
    intro hE
    rw [su_ok hE, lnR_rows, Int.toNat_natCast, hun, sumU_list (l := qs.map fun a => lnR bs (accRow neg a)) qs.length (by simp) (fun j hj => ?_), List.take_of_length_le (by simp), List.map_map]
    · show (qs.map fun a => amtR bs (accRow neg a)).sum = _
      unfold kindS
      rw [hA, ← sum_neg]
      congr 1
      exact List.map_congr_left fun a _ => amt_acc bs neg a
    · rw [List.length_map] at hj
      have e3 : pre.length + 1 + j = pre.length + (j + 1) := by omega
      have hb : pre.length + (j + 1) < rs.length := by omega
      rw [e3, mkL_getD hb, hatk j hj]
      simp [List.getD, hj, lnR]
  have h1 : sdUp (rs.map (lnR bs)) rs (pre.length + 1) = some (l ++ [negS neg (kindS bs ch kind)]) := by
    by_cases hE : suE (rs.map (lnR bs)) (pre.length : Nat) = 0
    · rw [sdUp_top h (by rw [hat0]; omega) hE, hsu hE]
    · have h0 := sdUp_bad h (by rw [hat0]; omega) hE
      have := sdUp_none h0 (pre ++ secRows ch nm kind neg).length (by rw [List.length_append]; omega)
      rw [this] at h'
      cases h'
  have h2 : ∀ j, j ≤ qs.length → sdUp (rs.map (lnR bs)) rs (pre.length + 1 + j) = some (l ++ [negS neg (kindS bs ch kind)]) := by
    intro j
    induction j with
    | zero => intro _; exact h1
    | succ j ih =>
      intro hj
      refine sdUp_in (ih (by omega)) ?_
      show 0 < (rs.getD (pre.length + 1 + j) default).level
      rw [show pre.length + 1 + j = pre.length + (j + 1) by omega, hatk j (by omega)]
      show (0 : Int) < 1
      omega
  have h3 := h2 qs.length (Nat.le_refl _)
  rw [show pre.length + 1 + qs.length = (pre ++ secRows ch nm kind neg).length by rw [List.length_append]; omega, h'] at h3
  exact Option.some.inj h3
theorem sd_some {xs : List SLine} {rs : List SRow} {k m : Nat} {l : List Int} (h : sdUp xs rs m = some l) (hk : k ≤ m) : ∃ l', sdUp xs rs k = some l' := by
  cases e : sdUp xs rs k with
  | some l' => exact ⟨l', rfl⟩
  | none => rw [sdUp_none e m hk] at h; cases h
theorem sec_head (ch : List SAcc) (nm : List UInt8) (kind : Int) (neg : Bool) (rest : List SRow) : ((secRows ch nm kind neg ++ rest).getD 0 default).level = 0 := rfl
theorem pos_sides {bs : List SBal} {ch : List SAcc} {l : List Int} (h : sdUp ((posRows ch).map (lnR bs)) (posRows ch) (posRows ch).length = some l) : l = [kindS bs ch 1, -kindS bs ch 2, -kindS bs ch 3] := by
  have e : posRows ch = secRows ch nmAssets 1 false ++ (secRows ch nmLiab 2 true ++ (secRows ch nmEquity 3 true ++ [])) := by simp [posRows]
  have e2 : posRows ch = secRows ch nmAssets 1 false ++ secRows ch nmLiab 2 true ++ (secRows ch nmEquity 3 true ++ []) := by simp [posRows]
  have e3 : posRows ch = secRows ch nmAssets 1 false ++ secRows ch nmLiab 2 true ++ secRows ch nmEquity 3 true := rfl
  have hL1 : (secRows ch nmAssets 1 false).length ≤ (posRows ch).length := by rw [e3]; simp only [List.length_append]; omega
  have hL2 : (secRows ch nmAssets 1 false ++ secRows ch nmLiab 2 true).length ≤ (posRows ch).length := by rw [e3]; simp only [List.length_append]; omega
  obtain ⟨l1, h1⟩ := sd_some h hL1
  obtain ⟨l2, h2⟩ := sd_some h hL2
  have r1 := sd_sec (pre := []) (rs := posRows ch) (by rw [List.nil_append]; exact e) (.inr (sec_head _ _ _ _ _)) (l := []) rfl (by rw [List.nil_append]; exact h1)
  have r2 := sd_sec (rs := posRows ch) e (.inr (sec_head _ _ _ _ _)) h1 h2
  have r3 := sd_sec (rs := posRows ch) e2 (.inl rfl) h2 (by rw [← e3]; exact h)
  rw [r3, r2, r1]
  rfl
theorem inc_sides {bs : List SBal} {ch : List SAcc} {l : List Int} (h : sdUp ((incRows ch).map (lnR bs)) (incRows ch) (incRows ch).length = some l) : l = [-kindS bs ch 4, kindS bs ch 5] := by
  have e : incRows ch = secRows ch nmIncome 4 true ++ (secRows ch nmExpenses 5 false ++ []) := by simp [incRows]
  have e3 : incRows ch = secRows ch nmIncome 4 true ++ secRows ch nmExpenses 5 false := rfl
  have hL1 : (secRows ch nmIncome 4 true).length ≤ (incRows ch).length := by rw [e3]; simp only [List.length_append]; omega
  obtain ⟨l1, h1⟩ := sd_some h hL1
  have r1 := sd_sec (pre := []) (rs := incRows ch) (by rw [List.nil_append]; exact e) (.inr (sec_head _ _ _ _ _)) (l := []) rfl (by rw [List.nil_append]; exact h1)
  have r2 := sd_sec (rs := incRows ch) e (.inl rfl) h1 (by rw [← e3]; exact h)
  rw [r2, r1]
  rfl
/-- all kinds together -/
theorem kinds_all (bs : List SBal) : ∀ l : List SAcc, (∀ a ∈ l, 1 ≤ a.kind ∧ a.kind ≤ 5) → kindS bs l 1 + kindS bs l 2 + kindS bs l 3 + kindS bs l 4 + kindS bs l 5 = (l.map fun a => figL bs a.code a.code).sum := by
  intro l
  induction l with
  | nil => intro _; rfl
  | cons a t ih =>
    intro h
    have i := ih fun x hx => h x (by simp [hx])
    have k := h a (by simp)
    rw [List.map_cons, List.sum_cons]
    unfold kindS at i ⊢
    have : a.kind = 1 ∨ a.kind = 2 ∨ a.kind = 3 ∨ a.kind = 4 ∨ a.kind = 5 := by omega
    rcases this with e | e | e | e | e <;> simp [e] <;> omega
theorem one_sum {c x : Int} : ∀ l : List SAcc, (l.map fun a => if a.code ≤ c ∧ c ≤ a.code then x else 0).sum = x * ((l.filter fun a => a.code == c).length : Int) := by
  intro l
  induction l with
  | nil => simp
  | cons a t ih =>
    rw [List.map_cons, List.sum_cons, ih, List.filter_cons]
    by_cases e : a.code = c
    · rw [if_pos (by omega), if_pos (by simpa using e), List.length_cons]
      generalize (t.filter fun a => a.code == c).length = m
      rw [Int.natCast_add, Int.mul_add]
      simp
      omega
    · rw [if_neg (by omega), if_neg (by simpa using e)]
      omega
theorem sum_add {α : Type} (f g : α → Int) : ∀ l : List α, (l.map fun a => f a + g a).sum = (l.map f).sum + (l.map g).sum := by
  intro l
  induction l with
  | nil => rfl
  | cons a t ih => simp only [List.map_cons, List.sum_cons, ih]; omega
theorem figs_all {ch : List SAcc} : ∀ bs : List SBal, (∀ b ∈ bs, (ch.filter fun a => a.code == b.acct).length = 1) → (ch.map fun a => figL bs a.code a.code).sum = (bs.map (·.amt)).sum := by
  intro bs
  induction bs with
  | nil =>
    intro _
    have : ∀ l : List SAcc, (l.map fun a => figL [] a.code a.code).sum = 0 := by
      intro l
      induction l with
      | nil => rfl
      | cons a t ih => rw [List.map_cons, List.sum_cons, ih]; rfl
    exact this ch
  | cons b t ih =>
    intro h
    have i := ih fun x hx => h x (by simp [hx])
    have e : (ch.map fun a => figL (b :: t) a.code a.code) = ch.map fun a => (if a.code ≤ b.acct ∧ b.acct ≤ a.code then b.amt else 0) + figL t a.code a.code := List.map_congr_left fun a _ => figL_cons b t _ _
    rw [e, sum_add, one_sum, i, h b (by simp), List.map_cons, List.sum_cons]
    simp
/-- the sum of the totals' first ones -/
def balS (bs : List SBal) (k : Nat) : Int := ((bs.take k).map (·.amt)).sum
theorem balS_step {bs : List SBal} {k : Nat} (hk : k < bs.length) : balS bs (k + 1) = balS bs k + (bs.getD k default).amt := by
  unfold balS
  rw [List.take_succ_eq_append_getElem hk, List.map_append, List.sum_append]
  simp [List.getD, hk]
/-- a found account is there once -/
theorem found_one {ch : List SAcc} (h : chartR ch true = true) {c : Int} {a : SAcc} (ha : findA ch c = some a) : (ch.filter fun x => x.code == c).length = 1 := by
  obtain ⟨i, hi, e⟩ := List.mem_iff_getElem.1 (findA_mem ha)
  have e2 : ch.getD i default = a := by rw [← e]; simp [List.getD, hi]
  have := code_one h hi
  rwa [e2, findA_code ha] at this
theorem bal_law {bs : List SBal} {ch : List SAcc} (h : chartR ch true = true) (hk : ∀ a ∈ ch, 1 ≤ a.kind ∧ a.kind ≤ 5) (hf : ∀ b ∈ bs, ∃ a, findA ch b.acct = some a) {l m : List Int}
    (hp : sdUp ((posRows ch).map (lnR bs)) (posRows ch) (posRows ch).length = some l) (hi : sdUp ((incRows ch).map (lnR bs)) (incRows ch) (incRows ch).length = some m) :
    ∃ a0 a1 a2 b0 b1 : Int, l = [a0, a1, a2] ∧ m = [b0, b1] ∧ a0 - a1 - a2 - b0 + b1 = balS bs bs.length ∧ (-1000000000000 ≤ a0 ∧ a0 ≤ 1000000000000) ∧ (-1000000000000 ≤ a1 ∧ a1 ≤ 1000000000000) ∧ (-1000000000000 ≤ a2 ∧ a2 ≤ 1000000000000) ∧ (-1000000000000 ≤ b0 ∧ b0 ≤ 1000000000000) ∧ (-1000000000000 ≤ b1 ∧ b1 ≤ 1000000000000) := by
  have q1 := pos_sides hp
  have q2 := inc_sides hi
  have d1 := sdUp_bd hp
  have d2 := sdUp_bd hi
  subst q1 q2
  refine ⟨_, _, _, _, _, rfl, rfl, ?_, d1 _ (by simp), d1 _ (by simp), d1 _ (by simp), d2 _ (by simp), d2 _ (by simp)⟩
  have k := kinds_all bs ch hk
  have s := figs_all bs fun b hb => by
    obtain ⟨a, ha⟩ := hf b hb
    exact found_one h ha
  unfold balS
  rw [List.take_length]
  omega
end Go.Proofs.YtcmmppkmkejniaaGreatDoor
