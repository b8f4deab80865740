/-
  All the rows of both statements of a group: plain.
-/
import Derived.Test.YtcmmppkmkejniaaGreatDoorGvLw
namespace Go.Proofs.YtcmmppkmkejniaaGreatDoor
open Go.RowKit
set_option linter.unusedVariables false
/-- how many rows cover a code; how many are no titles -/
def cov (c : Int) (rs : List SRow) : Nat := (rs.filter fun r => decide (r.from_ ≤ c) && decide (c ≤ r.to_)).length
def ttl (rs : List SRow) : Nat := (rs.filter fun r => !isTitle r).length
def allRows (ch : List SAcc) : List SRow := posRows ch ++ incRows ch
theorem cov_app (c : Int) (a b : List SRow) : cov c (a ++ b) = cov c a + cov c b := by simp [cov]
theorem ttl_app (a b : List SRow) : ttl (a ++ b) = ttl a + ttl b := by simp [ttl]
theorem cov_sec (ch : List SAcc) (nm : List UInt8) (kind : Int) (neg : Bool) (c : Int) : cov c (secRows ch nm kind neg) = ((ch.filter fun a => a.code == c).filter fun a => a.kind == kind).length := by
  unfold cov secRows
  rw [List.filter_cons_of_neg (by simp; omega), List.filter_map, List.length_map, List.filter_filter, List.filter_filter]
  congr 1
  refine List.filter_congr fun a _ => ?_
  have e : (decide ((accRow neg a).from_ ≤ c) && decide (c ≤ (accRow neg a).to_)) = (a.code == c) := by
    rw [Bool.eq_iff_iff]
    simp only [Bool.and_eq_true, decide_eq_true_eq, beq_iff_eq]
    show a.code ≤ c ∧ c ≤ a.code ↔ a.code = c
    omega
  show ((decide ((accRow neg a).from_ ≤ c) && decide (c ≤ (accRow neg a).to_)) && a.kind == kind) = _
  rw [e, Bool.and_comm]
theorem ttl_sec (ch : List SAcc) (nm : List UInt8) (kind : Int) (neg : Bool) : ttl (secRows ch nm kind neg) = (ch.filter fun a => a.kind == kind).length := by
  unfold ttl secRows
  rw [List.filter_cons_of_neg (by simp [isTitle]), List.filter_map, List.length_map, List.filter_filter]
  congr 1
  refine List.filter_congr fun a _ => ?_
  simp [Function.comp, accRow, isTitle]
theorem kinds5 : ∀ l : List SAcc, (∀ a ∈ l, 1 ≤ a.kind ∧ a.kind ≤ 5) → (l.filter fun a => a.kind == 1).length + (l.filter fun a => a.kind == 2).length + (l.filter fun a => a.kind == 3).length + (l.filter fun a => a.kind == 4).length + (l.filter fun a => a.kind == 5).length = l.length := by
  intro l
  induction l with
  | nil => intro _; rfl
  | cons a t ih =>
    intro h
    have i := ih fun x hx => h x (by simp [hx])
    have k := h a (by simp)
    have : a.kind = 1 ∨ a.kind = 2 ∨ a.kind = 3 ∨ a.kind = 4 ∨ a.kind = 5 := by omega
    rcases this with e | e | e | e | e <;> simp [e] <;> omega
theorem cov_all {ch : List SAcc} (h : ∀ a ∈ ch, 1 ≤ a.kind ∧ a.kind ≤ 5) (c : Int) : cov c (allRows ch) = (ch.filter fun a => a.code == c).length := by
  unfold allRows posRows incRows
  simp only [cov_app, cov_sec]
  have := kinds5 (ch.filter fun a => a.code == c) fun a ha => h a (List.mem_filter.1 ha).1
  omega
theorem ttl_all {ch : List SAcc} (h : ∀ a ∈ ch, 1 ≤ a.kind ∧ a.kind ≤ 5) : ttl (allRows ch) = ch.length := by
  unfold allRows posRows incRows
  simp only [ttl_app, ttl_sec]
  have := kinds5 ch h
  omega
theorem chartR_asc {l : List SAcc} {g : Bool} (h : chartR l g = true) : ∀ i, i < l.length → ascAt l i = true := by
  intro i hi
  unfold chartR at h
  simp only [Bool.and_eq_true, List.all_eq_true, List.mem_range] at h
  have := h.2 i hi
  unfold chartAtR at this
  simp only [Bool.and_eq_true] at this
  exact this.2.1
theorem code_one {l : List SAcc} {g : Bool} (h : chartR l g = true) {i : Nat} (hi : i < l.length) : (l.filter fun a => a.code == (l.getD i default).code).length = 1 := by
  have ha := asc_lt (chartR_asc h)
  have e : l = l.take i ++ l.getD i default :: l.drop (i + 1) := by
    have e2 : l.getD i default = l[i] := by simp [List.getD, hi]
    rw [e2, ← List.drop_eq_getElem_cons hi, List.take_append_drop]
  have h1 : (l.take i).filter (fun a => a.code == (l.getD i default).code) = [] := by
    rw [List.filter_eq_nil_iff]
    intro x hx
    obtain ⟨k, hk, rfl⟩ := List.mem_iff_getElem.1 hx
    rw [List.length_take] at hk
    have := ha i k (by omega) hi
    have e3 : l.getD k default = (l.take i)[k] := by simp [List.getD, show k < l.length by omega]
    rw [← e3]
    simp only [beq_iff_eq]
    omega
  have h2 : (l.drop (i + 1)).filter (fun a => a.code == (l.getD i default).code) = [] := by
    rw [List.filter_eq_nil_iff]
    intro x hx
    obtain ⟨k, hk, rfl⟩ := List.mem_iff_getElem.1 hx
    rw [List.length_drop] at hk
    have := ha (i + 1 + k) i (by omega) (by omega)
    have e3 : l.getD (i + 1 + k) default = (l.drop (i + 1))[k] := by simp [List.getD, show i + 1 + k < l.length by omega]
    rw [← e3]
    simp only [beq_iff_eq]
    omega
  generalize hc : (l.getD i default).code = c at *
  rw [e, List.filter_append, h1, List.nil_append, List.filter_cons_of_pos (by rw [hc]; simp), h2]
  rfl
theorem sec_row {ch : List SAcc} {nm : List UInt8} {kind : Int} {neg : Bool} {r : SRow} (h : r ∈ secRows ch nm kind neg) : r = ⟨nm, 0, 1, 0, false⟩ ∨ ∃ a ∈ ch, r = accRow neg a := by
  unfold secRows at h
  rcases List.mem_cons.1 h with h | h
  · exact .inl h
  · obtain ⟨a, ha, rfl⟩ := List.mem_map.1 h
    exact .inr ⟨a, (List.mem_filter.1 ha).1, rfl⟩
theorem all_row {ch : List SAcc} {r : SRow} (h : r ∈ allRows ch) : (∃ nm, r = ⟨nm, 0, 1, 0, false⟩) ∨ ∃ a ∈ ch, ∃ neg, r = accRow neg a := by
  unfold allRows posRows incRows at h
  simp only [List.mem_append] at h
  rcases h with ((h | h) | h) | h | h <;> (rcases sec_row h with h | ⟨a, ha, h⟩) <;> first | exact .inl ⟨_, h⟩ | exact .inr ⟨a, ha, _, h⟩
/-- a row is a title, or its account is found -/
theorem all_found {ch : List SAcc} {r : SRow} (h : r ∈ allRows ch) : isTitle r = true ∨ isTitle r = false ∧ r.to_ = r.from_ ∧ ∃ a, findA ch r.from_ = some a := by
  rcases all_row h with ⟨nm, rfl⟩ | ⟨a, ha, neg, rfl⟩
  · exact .inl rfl
  · refine .inr ⟨by simp [isTitle, accRow], rfl, ?_⟩
    show ∃ x, List.find? _ _ = some x
    cases e : List.find? (fun x => x.code == (accRow neg a).from_) ch with
    | some x => exact ⟨x, rfl⟩
    | none =>
      have := List.find?_eq_none.1 e a ha
      simp [accRow] at this
theorem dec_len_le' {m k : Nat} (h : m < 10 ^ (k + 1)) : (Lib.decDigits m).length ≤ k + 1 := by
  by_cases h0 : m = 0
  · subst h0; rw [Lib.decDigits_one (by omega)]; simp
  · have hh := dec_head (show 1 ≤ m by omega)
    have hv := dec_val m
    cases hd : Lib.decDigits m with
    | nil => simp
    | cons x r =>
      rw [hd] at hh hv
      have hg := decVal_ge (b := x) (l := r) (by simpa using hh)
      rw [hv] at hg
      have : r.length < k + 1 := (Nat.pow_lt_pow_iff_right (a := 10) (by omega)).1 (Nat.lt_of_le_of_lt hg h)
      simp
      omega
theorem nameOk_acc {c : Int} (h1 : 1 ≤ c) (h2 : c ≤ 99999) : nameOk (accName c) = true := by
  obtain ⟨m, rfl⟩ : ∃ m : Nat, c = m := ⟨c.toNat, by omega⟩
  have hd := dec_all m
  have hp := dec_len_pos m
  have hl := dec_len_le' (m := m) (k := 4) (by omega)
  unfold accName
  rw [Lib.itoa_nonneg]
  generalize Lib.decDigits m = ds at *
  have hds : ∀ b ∈ ds, 48 ≤ b.toNat ∧ b.toNat ≤ 57 := fun b hb => isDig_iff.1 (List.all_eq_true.1 hd b hb)
  have hlen : ([65, 99, 99, 111, 117, 110, 116, 32] ++ ds : List UInt8).length = 8 + ds.length := by rw [List.length_append]; rfl
  have e0 : ([65, 99, 99, 111, 117, 110, 116, 32] ++ ds : List UInt8).getD 0 0 = 65 := rfl
  have eN : ([65, 99, 99, 111, 117, 110, 116, 32] ++ ds : List UInt8).getD (8 + ds.length - 1) 0 = ds.getD (ds.length - 1) 0 := by
    unfold List.getD
    have h8 : ([65, 99, 99, 111, 117, 110, 116, 32] : List UInt8).length = 8 := rfl
    rw [List.getElem?_append_right (by rw [h8]; omega), h8, show 8 + ds.length - 1 - 8 = ds.length - 1 by omega]
  have eL : ds.getD (ds.length - 1) 0 ∈ ds := by
    have : ds.getD (ds.length - 1) 0 = ds[ds.length - 1]'(by omega) := by simp [List.getD, show ds.length - 1 < ds.length by omega]
    rw [this]
    exact List.getElem_mem _
  have hpr : (ds.all prB) = true := by
    rw [List.all_eq_true]
    intro b hb
    have := hds b hb
    unfold prB
    have hne : (b == 34) = false := by
      rw [beq_eq_false_iff_ne]
      rintro rfl
      simp at this
    rw [hne, decide_eq_true (by omega), decide_eq_true (by omega)]
    rfl
  have hn32 : (ds.getD (ds.length - 1) 0 == 32) = false := by
    rw [beq_eq_false_iff_ne]
    intro e
    rw [e] at eL
    have := hds _ eL
    simp at this
  unfold nameOk
  rw [hlen, eN, e0, hn32, List.all_append, hpr, decide_eq_true (by omega), decide_eq_true (by omega)]
  rfl
theorem okRow_acc {b : Int} {neg : Bool} {a : SAcc} (hb : 0 ≤ b) (h : 1 ≤ a.code ∧ a.code ≤ 99999) : okRow b (accRow neg a) = true := by
  rw [okRow_iff]
  refine ⟨nameOk_acc h.1 h.2, ⟨by show (0 : Int) ≤ 1; omega, by show (1 : Int) ≤ 9; omega, by show (1 : Int) ≤ b + 1; omega⟩, fun hlt => ?_, fun _ => ⟨by show 0 ≤ a.code; omega, h.2⟩⟩
  have : a.code < a.code := hlt
  omega
theorem okRow_tit {b : Int} {nm : List UInt8} (hb : -1 ≤ b) (h : nameOk nm = true) : okRow b ⟨nm, 0, 1, 0, false⟩ = true := by
  rw [okRow_iff]
  exact ⟨h, ⟨by show (0 : Int) ≤ 0; omega, by show (0 : Int) ≤ 9; omega, by show (0 : Int) ≤ b + 1; omega⟩, fun _ => ⟨rfl, rfl, rfl⟩, fun hle => by have : (1 : Int) ≤ 0 := hle; omega⟩
theorem validF_accs {neg : Bool} {rest : List SRow} (hr : ∀ b, -1 ≤ b → validF b rest = true) : ∀ l : List SAcc, (∀ a ∈ l, 1 ≤ a.code ∧ a.code ≤ 99999) → ∀ b, 0 ≤ b → validF b (l.map (accRow neg) ++ rest) = true := by
  intro l
  induction l with
  | nil => intro _ b hb; exact hr b (by omega)
  | cons a t ih =>
    intro h b hb
    rw [List.map_cons, List.cons_append, validF, okRow_acc hb (h a (by simp)), Bool.true_and]
    exact ih (fun x hx => h x (by simp [hx])) 1 (by omega)
theorem validF_sec {ch : List SAcc} {nm : List UInt8} {kind : Int} {neg : Bool} {rest : List SRow} (hn : nameOk nm = true) (hc : ∀ a ∈ ch, 1 ≤ a.code ∧ a.code ≤ 99999) (hr : ∀ b, -1 ≤ b → validF b rest = true) : ∀ b, -1 ≤ b → validF b (secRows ch nm kind neg ++ rest) = true := by
  intro b hb
  unfold secRows
  rw [List.cons_append, validF, okRow_tit hb hn, Bool.true_and]
  exact validF_accs hr _ (fun a ha => hc a (List.mem_filter.1 ha).1) 0 (by omega)
theorem pos_valid {ch : List SAcc} (hc : ∀ a ∈ ch, 1 ≤ a.code ∧ a.code ≤ 99999) (hl : ch.length ≤ 60) : validR (posRows ch) = true := by
  have h1 := posRows_len ch
  have e : posRows ch = secRows ch nmAssets 1 false ++ (secRows ch nmLiab 2 true ++ (secRows ch nmEquity 3 true ++ [])) := by simp [posRows]
  unfold validR
  rw [decide_eq_true (by omega), Bool.and_true, e]
  exact validF_sec (by decide) hc (validF_sec (by decide) hc (validF_sec (by decide) hc fun b _ => rfl)) (-1) (by omega)
theorem inc_valid {ch : List SAcc} (hc : ∀ a ∈ ch, 1 ≤ a.code ∧ a.code ≤ 99999) (hl : ch.length ≤ 60) : validR (incRows ch) = true := by
  have h1 := incRows_len ch
  have e : incRows ch = secRows ch nmIncome 4 true ++ (secRows ch nmExpenses 5 false ++ []) := by simp [incRows]
  unfold validR
  rw [decide_eq_true (by omega), Bool.and_true, e]
  exact validF_sec (by decide) hc (validF_sec (by decide) hc fun b _ => rfl) (-1) (by omega)
theorem all_names {ch : List SAcc} (hc : ∀ a ∈ ch, 1 ≤ a.code ∧ a.code ≤ 99999) {r : SRow} (h : r ∈ allRows ch) : r.name.length ≤ 16 := by
  have tit : ∀ nm, nameOk nm = true → nm.length ≤ 16 := fun nm h => name_le h
  unfold allRows posRows incRows at h
  simp only [List.mem_append] at h
  rcases h with ((h | h) | h) | h | h <;> (rcases sec_row h with rfl | ⟨a, ha, rfl⟩) <;> first | exact name_le (nameOk_acc (hc a ha).1 (hc a ha).2) | exact tit _ (by decide)
end Go.Proofs.YtcmmppkmkejniaaGreatDoor
