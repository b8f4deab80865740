/-
  Plain: charts of accounts, and which of them are valid: by the program's climb and by the reference's; both are the same.
-/
namespace Go.Proofs.YtcmmppkmkejniaaGreatDoor
set_option linter.unusedVariables false
/-- a number is a day -/
def dateB (n : Int) : Bool := decide (-25567 ≤ n) && decide (n ≤ 84005)
/-- a calendar is valid -/
def calOk (y m p : Int) : Bool := decide (1 ≤ m) && decide (m ≤ 12) && decide (1 ≤ p) && decide (p ≤ 120) && decide (1900 ≤ y) && decide (y ≤ 2199) && decide ((12 * y + m - 1 + (p - 1)) / 12 ≤ 2199)
structure SAcc where
  code : Int
  kind : Int
  basis : Int
  parent : Int
deriving DecidableEq
instance : Inhabited SAcc := ⟨⟨0, 0, 0, 0⟩⟩
/-- the first account with a code -/
def findA (l : List SAcc) (c : Int) : Option SAcc := l.find? fun a => a.code == c
theorem findA_code {l : List SAcc} {c : Int} {a : SAcc} (h : findA l c = some a) : a.code = c := by
  have := List.find?_some h
  simpa using this
theorem findA_mem {l : List SAcc} {c : Int} {a : SAcc} (h : findA l c = some a) : a ∈ l := List.mem_of_find?_eq_some h
theorem findA_none {l : List SAcc} {c : Int} (h : findA l c = none) : ∀ a ∈ l, a.code ≠ c := by
  intro a ha
  have := List.find?_eq_none.1 h a ha
  simpa using this
theorem findA_some {l : List SAcc} {a : SAcc} (h : a ∈ l) : ∃ b, findA l a.code = some b := by
  cases e : findA l a.code with
  | none => exact absurd rfl (findA_none e a h)
  | some b => exact ⟨b, rfl⟩
theorem findA_take {l : List SAcc} {c : Int} {k : Nat} {a : SAcc} (h : (l.take k).find? (fun a => a.code == c) = none) (hk : k < l.length) (e : (l.getD k default) = a) (hc : (a.code == c) = true) : findA l c = some a := by
  have e2 : l = l.take k ++ a :: l.drop (k + 1) := by
    have : a = l[k] := by rw [← e]; simp [List.getD, hk]
    rw [this, List.getElem_cons_drop, List.take_append_drop]
  unfold findA
  rw [e2, List.find?_append, h]
  simp [hc]
theorem find_step {l : List SAcc} {c : Int} {k : Nat} (h : (l.take k).find? (fun a => a.code == c) = none) (hk : k < l.length) (hc : ((l.getD k default).code == c) = false) : (l.take (k + 1)).find? (fun a => a.code == c) = none := by
  rw [List.take_succ_eq_append_getElem hk, List.find?_append, h]
  have e : l.getD k default = l[k] := by simp [List.getD, hk]
  rw [e] at hc
  simp [hc]
/-- the reference's climb: at most n codes -/
def climbR (l : List SAcc) : Nat → Int → List Int
  | 0, _ => []
  | n + 1, c => match findA l c with
    | none => []
    | some a => c :: climbR l n a.parent
/-- the program's climb: the path, and where it stops -/
def climbP (l : List SAcc) : Nat → Int → List Int → List Int × Int
  | 0, c, path => (path, c)
  | n + 1, c, path => match findA l c with
    | none => (path, c)
    | some a => if path.contains c then (path, c) else climbP l n a.parent (path ++ [c])
def accIn (g : Bool) (a : SAcc) : Bool :=
  decide (1 ≤ a.code) && decide (a.code ≤ 99999) && decide (1 ≤ a.kind) && decide (a.kind ≤ 5) && (if g then decide (1 ≤ a.basis) && decide (a.basis ≤ 3) else a.basis == 0)
/-- the parent is there, is another one, and of the same kind -/
def parOk (l : List SAcc) (a : SAcc) : Bool := match findA l a.parent with
  | none => false
  | some p => (p.code != a.code) && p.kind == a.kind
/-- the account at the top of the program's path -/
def topA (l : List SAcc) (c : Int) : SAcc := (findA l ((climbP l (l.length + 1) c []).1.getLastD 0)).getD default
def properP (l : List SAcc) (g : Bool) (a : SAcc) : Bool := accIn g a && ((a.parent == 0) || parOk l a && (topA l a.code).parent == 0)
def properR (l : List SAcc) (g : Bool) (a : SAcc) : Bool := accIn g a && ((a.parent == 0) || parOk l a)
/-- in ascending order at i -/
def ascAt (l : List SAcc) (i : Nat) : Bool := decide (i = 0) || decide ((l.getD (i - 1) default).code < (l.getD i default).code)
def chartAtP (l : List SAcc) (g : Bool) (i : Nat) : Bool := ascAt l i && properP l g (l.getD i default)
def chartAtR (l : List SAcc) (g : Bool) (i : Nat) : Bool := properR l g (l.getD i default) && (ascAt l i && decide ((climbR l (l.length + 1) (l.getD i default).code).length ≤ l.length))
def chartP (l : List SAcc) (g : Bool) : Bool := (List.range l.length).all (chartAtP l g) && decide (l.length ≤ 200)
def chartR (l : List SAcc) (g : Bool) : Bool := decide (l.length ≤ 200) && (List.range l.length).all (chartAtR l g)
/-- both climbs -/
theorem climbR_len (l : List SAcc) : ∀ n c, (climbR l n c).length ≤ n := by
  intro n
  induction n with
  | zero => intro c; simp [climbR]
  | succ n ih =>
    intro c
    unfold climbR
    split
    · simp
    · simp only [List.length_cons]; have := ih ‹SAcc›.parent; omega
theorem climbR_same (l : List SAcc) : ∀ n m c, (climbR l n c).length < n → (climbR l m c).length < m → climbR l n c = climbR l m c := by
  intro n
  induction n with
  | zero => intro m c h; simp [climbR] at h
  | succ n ih =>
    intro m c h1 h2
    cases m with
    | zero => simp [climbR] at h2
    | succ m =>
      unfold climbR at h1 h2 ⊢
      cases e : findA l c with
      | none => rfl
      | some a =>
        rw [e] at h1 h2
        simp only [List.length_cons] at h1 h2
        simp only []
        rw [ih m a.parent (by omega) (by omega)]
/-- a climb that ends: the program's path is the reference's -/
theorem climb_ends (l : List SAcc) : ∀ n c path, (climbR l n c).length < n → (∀ s ∈ path, ∃ m, (climbR l m s).length < m ∧ (climbR l n c).length < (climbR l m s).length) →
    (climbP l n c path).1 = path ++ climbR l n c ∧ findA l (climbP l n c path).2 = none := by
  intro n
  induction n with
  | zero => intro c path h; simp [climbR] at h
  | succ n ih =>
    intro c path h1 h2
    unfold climbP
    cases e : findA l c with
    | none => simp [climbR, e]
    | some a =>
      have e1 : climbR l (n + 1) c = c :: climbR l n a.parent := by simp [climbR, e]
      have hn : path.contains c = false := by
        cases hc : path.contains c with
        | false => rfl
        | true =>
          obtain ⟨m, hm1, hm2⟩ := h2 c (by simpa using hc)
          rw [climbR_same l (n + 1) m c h1 hm1] at hm2
          omega
      simp only [hn]
      rw [e1] at h1 h2 ⊢
      simp only [List.length_cons] at h1 h2
      obtain ⟨r1, r2⟩ := ih a.parent (path ++ [c]) (by omega) (by
        intro s hs
        rcases List.mem_append.1 hs with hs | hs
        · obtain ⟨m, hm1, hm2⟩ := h2 s hs
          exact ⟨m, hm1, by omega⟩
        · rw [List.mem_singleton] at hs
          subst hs
          exact ⟨n + 1, by rw [e1]; simp only [List.length_cons]; omega, by rw [e1]; simp only [List.length_cons]; omega⟩)
      refine ⟨?_, by simpa using r2⟩
      simp only [Bool.false_eq_true, if_false]
      rw [r1]; simp
/-- a climb that does not end: the program's stops at an account that it knows, or goes on as long -/
theorem climb_goes (l : List SAcc) : ∀ n c path, (climbR l n c).length = n → (climbP l n c path).1.length = path.length + n ∨ ∃ a, findA l (climbP l n c path).2 = some a := by
  intro n
  induction n with
  | zero => intro c path h; left; simp [climbP]
  | succ n ih =>
    intro c path h
    unfold climbP
    unfold climbR at h
    cases e : findA l c with
    | none => rw [e] at h; simp at h
    | some a =>
      rw [e] at h
      simp only [List.length_cons] at h
      simp only []
      cases hc : path.contains c with
      | true => right; simp only [if_true]; exact ⟨a, e⟩
      | false =>
        simp only [Bool.false_eq_true, if_false]
        rcases ih a.parent (path ++ [c]) (by omega) with h1 | h1
        · left; rw [h1]; simp; omega
        · exact .inr h1
theorem nodup_len : ∀ (xs ys : List Int), xs.Nodup → (∀ x ∈ xs, x ∈ ys) → xs.length ≤ ys.length := by
  intro xs
  induction xs with
  | nil => intro ys _ _; simp
  | cons x r ih =>
    intro ys hn hs
    rw [List.nodup_cons] at hn
    have hx := hs x (by simp)
    have := ih (ys.erase x) hn.2 (fun z hz => by
      have hne : z ≠ x := by rintro rfl; exact hn.1 hz
      exact (List.mem_erase_of_ne hne).2 (hs z (List.mem_cons_of_mem _ hz)))
    rw [List.length_erase_of_mem hx] at this
    have hpos : 0 < ys.length := List.length_pos_of_mem hx
    simp only [List.length_cons]
    omega
/-- the path holds codes of the chart, each once -/
theorem climbP_ok (l : List SAcc) : ∀ n c path, path.Nodup → (∀ x ∈ path, x ∈ l.map (·.code)) → (climbP l n c path).1.Nodup ∧ (∀ x ∈ (climbP l n c path).1, x ∈ l.map (·.code)) := by
  intro n
  induction n with
  | zero => intro c path h1 h2; exact ⟨h1, h2⟩
  | succ n ih =>
    intro c path h1 h2
    unfold climbP
    cases e : findA l c with
    | none => exact ⟨h1, h2⟩
    | some a =>
      simp only []
      cases hc : path.contains c with
      | true => simp only [if_true]; exact ⟨h1, h2⟩
      | false =>
        simp only [Bool.false_eq_true, if_false]
        have hc' : c ∉ path := by simpa using hc
        refine ih _ _ ?_ ?_
        · refine List.nodup_append.2 ⟨h1, by simp, ?_⟩
          intro x hx y hy
          rw [List.mem_singleton] at hy
          subst hy
          rintro rfl
          exact hc' hx
        · intro x hx
          rcases List.mem_append.1 hx with hx | hx
          · exact h2 x hx
          · rw [List.mem_singleton] at hx
            subst hx
            exact List.mem_map.2 ⟨a, findA_mem e, findA_code e⟩
theorem climbP_none {l : List SAcc} {n : Nat} {c : Int} {path : List Int} (h : findA l c = none) : climbP l n c path = (path, c) := by
  cases n with
  | zero => rfl
  | succ n => unfold climbP; rw [h]
theorem climbP_seen {l : List SAcc} {n : Nat} {c : Int} {path : List Int} (h : path.contains c = true) : climbP l n c path = (path, c) := by
  cases n with
  | zero => rfl
  | succ n =>
    unfold climbP
    cases findA l c with
    | none => rfl
    | some a => simp only [h, if_true]
theorem climbP_step {l : List SAcc} {n : Nat} {c : Int} {path : List Int} {a : SAcc} (h : findA l c = some a) (h2 : path.contains c = false) : climbP l (n + 1) c path = climbP l n a.parent (path ++ [c]) := by
  conv => lhs; unfold climbP
  rw [h]
  simp only [h2, Bool.false_eq_true, if_false]
/-- one code more on the path -/
theorem path_snoc {l : List SAcc} {c : Int} {path : List Int} {a : SAcc} (h : findA l c = some a) (h2 : path.contains c = false) (h3 : path.Nodup) (h4 : ∀ x ∈ path, x ∈ l.map (·.code)) :
    (path ++ [c]).Nodup ∧ (∀ x ∈ path ++ [c], x ∈ l.map (·.code)) ∧ path.length + 1 ≤ l.length := by
  have hc' : c ∉ path := by simpa using h2
  have h5 : (path ++ [c]).Nodup := by
    refine List.nodup_append.2 ⟨h3, by simp, ?_⟩
    intro x hx y hy
    rw [List.mem_singleton] at hy
    subst hy
    rintro rfl
    exact hc' hx
  have h6 : ∀ x ∈ path ++ [c], x ∈ l.map (·.code) := by
    intro x hx
    rcases List.mem_append.1 hx with hx | hx
    · exact h4 x hx
    · rw [List.mem_singleton] at hx
      subst hx
      exact List.mem_map.2 ⟨a, findA_mem h, findA_code h⟩
  refine ⟨h5, h6, ?_⟩
  have := nodup_len _ _ h5 h6
  rw [List.length_map, List.length_append, List.length_singleton] at this
  exact this
/-- the last of the path leads to where the climb stops -/
theorem climbP_top (l : List SAcc) : ∀ n c path, (path ≠ [] → ∃ t, findA l (path.getLastD 0) = some t ∧ t.parent = c) → ((climbP l n c path).1 ≠ [] → ∃ t, findA l ((climbP l n c path).1.getLastD 0) = some t ∧ t.parent = (climbP l n c path).2) := by
  intro n
  induction n with
  | zero => intro c path h; exact h
  | succ n ih =>
    intro c path h
    unfold climbP
    cases e : findA l c with
    | none => exact h
    | some a =>
      simp only []
      cases hc : path.contains c with
      | true => simp only [if_true]; exact h
      | false =>
        simp only [Bool.false_eq_true, if_false]
        refine ih _ _ fun _ => ⟨a, ?_, rfl⟩
        simpa using e
theorem climbP_pre (l : List SAcc) : ∀ n c path, ∃ r, (climbP l n c path).1 = path ++ r := by
  intro n
  induction n with
  | zero => intro c path; exact ⟨[], by simp [climbP]⟩
  | succ n ih =>
    intro c path
    unfold climbP
    cases e : findA l c with
    | none => exact ⟨[], by simp⟩
    | some a =>
      simp only []
      cases hc : path.contains c with
      | true => exact ⟨[], by simp⟩
      | false =>
        simp only [Bool.false_eq_true, if_false]
        obtain ⟨r, hr⟩ := ih a.parent (path ++ [c])
        exact ⟨[c] ++ r, by rw [hr]; simp⟩
theorem climbP_ne {l : List SAcc} {a : SAcc} (h : a ∈ l) : (climbP l (l.length + 1) a.code []).1 ≠ [] := by
  obtain ⟨b, hb⟩ := findA_some h
  obtain ⟨r, hr⟩ := climbP_pre l l.length b.parent ([] ++ [a.code])
  have : (climbP l (l.length + 1) a.code []).1 = (climbP l l.length b.parent ([] ++ [a.code])).1 := by
    show (climbP l (l.length + 1) a.code []).1 = _
    conv => lhs; unfold climbP
    rw [hb]; rfl
  rw [this, hr]; simp
/-- the top has no parent just if the reference's climb ends -/
theorem top_iff {l : List SAcc} {a : SAcc} (ha : a ∈ l) (h1 : ∀ x ∈ l, 1 ≤ x.code) (h2 : ∀ x ∈ l, x.parent = 0 ∨ ∃ p, findA l x.parent = some p) :
    (topA l a.code).parent = 0 ↔ (climbR l (l.length + 1) a.code).length ≤ l.length := by
  obtain ⟨t, ht, hp⟩ := climbP_top l (l.length + 1) a.code [] (fun h => absurd rfl h) (climbP_ne ha)
  have htop : topA l a.code = t := by unfold topA; rw [ht]; rfl
  rw [htop, hp]
  have hle := climbR_len l (l.length + 1) a.code
  constructor
  · intro h0
    rcases Nat.lt_or_ge l.length (climbR l (l.length + 1) a.code).length with hlt | hge
    · exfalso
      have hok := climbP_ok l (l.length + 1) a.code [] (by simp) (by simp)
      have hlen := nodup_len _ _ hok.1 hok.2
      rw [List.length_map] at hlen
      rcases climb_goes l (l.length + 1) a.code [] (by omega) with h | ⟨x, hx⟩
      · rw [h] at hlen; simp only [List.length_nil] at hlen; omega
      · have := h1 x (findA_mem hx)
        have := findA_code hx
        omega
    · exact hge
  · intro hle2
    obtain ⟨_, hn⟩ := climb_ends l (l.length + 1) a.code [] (by omega) (by simp)
    rcases h2 t (findA_mem ht) with h | ⟨p, h⟩
    · rw [← hp]; exact h
    · rw [hp] at h
      rw [hn] at h; cases h
theorem getD_memA {l : List SAcc} {i : Nat} (h : i < l.length) : l.getD i default ∈ l := by
  simp [List.getD, h]
theorem accIn_code {g : Bool} {a : SAcc} (h : accIn g a = true) : 1 ≤ a.code := by
  unfold accIn at h
  simp only [Bool.and_eq_true, decide_eq_true_eq] at h
  exact h.1.1.1.1
theorem parOk_some {l : List SAcc} {a : SAcc} (h : parOk l a = true) : ∃ p, findA l a.parent = some p := by
  unfold parOk at h
  split at h
  · cases h
  · exact ⟨_, by assumption⟩
theorem all_props {l : List SAcc} {g : Bool} (h : ∀ i, i < l.length → properR l g (l.getD i default) = true) : (∀ x ∈ l, 1 ≤ x.code) ∧ (∀ x ∈ l, x.parent = 0 ∨ ∃ p, findA l x.parent = some p) := by
  have hx : ∀ x ∈ l, properR l g x = true := by
    intro x hx
    obtain ⟨i, hi, rfl⟩ := List.mem_iff_getElem.1 hx
    have := h i hi
    simpa [List.getD, hi] using this
  refine ⟨fun x hm => ?_, fun x hm => ?_⟩
  · have := hx x hm
    unfold properR at this
    rw [Bool.and_eq_true] at this
    exact accIn_code this.1
  · have := hx x hm
    unfold properR at this
    rw [Bool.and_eq_true, Bool.or_eq_true] at this
    rcases this.2 with h | h
    · exact .inl (by simpa using h)
    · exact .inr (parOk_some h)
theorem asc_lt {l : List SAcc} (h : ∀ i, i < l.length → ascAt l i = true) : ∀ j i, i < j → j < l.length → (l.getD i default).code < (l.getD j default).code := by
  intro j
  induction j with
  | zero => intro i h1; omega
  | succ j ih =>
    intro i h1 h2
    have := h (j + 1) h2
    unfold ascAt at this
    simp only [Bool.or_eq_true, decide_eq_true_eq, Nat.add_sub_cancel] at this
    rcases this with h3 | h3
    · omega
    · rcases Nat.lt_or_ge i j with h4 | h4
      · have := ih i h4 (by omega); omega
      · have : i = j := by omega
        subst this; exact h3
theorem asc_find {l : List SAcc} (h : ∀ i, i < l.length → ascAt l i = true) {i : Nat} (hi : i < l.length) : findA l (l.getD i default).code = some (l.getD i default) := by
  obtain ⟨b, hb⟩ := findA_some (getD_memA hi)
  rw [hb]
  obtain ⟨j, hj, rfl⟩ := List.mem_iff_getElem.1 (findA_mem hb)
  have hc := findA_code hb
  have e : l[j] = l.getD j default := by simp [List.getD, hj]
  rw [e] at hc ⊢
  rcases Nat.lt_trichotomy i j with h1 | h1 | h1
  · have := asc_lt h j i h1 hj; omega
  · rw [h1]
  · have := asc_lt h i j h1 hi; omega
theorem climbR_one {l : List SAcc} {c : Int} {a : SAcc} (hl : 0 < l.length) (hf : findA l c = some a) (h0 : a.parent = 0) (h1 : ∀ x ∈ l, 1 ≤ x.code) : (climbR l (l.length + 1) c).length ≤ l.length := by
  have hn : findA l 0 = none := by
    cases e : findA l 0 with
    | none => rfl
    | some b =>
      have := h1 b (findA_mem e)
      have := findA_code e
      omega
  obtain ⟨k, hk⟩ : ∃ k, l.length = k + 1 := ⟨l.length - 1, by omega⟩
  have e : climbR l (l.length + 1) c = [c] := by
    rw [hk]
    show climbR l (k + 1 + 1) c = [c]
    unfold climbR
    rw [hf]
    simp only [h0]
    unfold climbR
    rw [hn]
  rw [e]
  simp only [List.length_cons, List.length_nil]
  omega
/-- THE TWO ANSWER ALIKE -/
theorem chart_same (l : List SAcc) (g : Bool) : chartP l g = chartR l g := by
  rw [Bool.eq_iff_iff]
  unfold chartP chartR
  simp only [Bool.and_eq_true, List.all_eq_true, List.mem_range, decide_eq_true_eq]
  constructor
  · rintro ⟨h, hl⟩
    refine ⟨hl, ?_⟩
    have hP : ∀ i, i < l.length → properR l g (l.getD i default) = true := fun i hi => by
      have := h i hi
      unfold chartAtP properP at this
      unfold properR
      simp only [Bool.and_eq_true, Bool.or_eq_true] at this ⊢
      exact ⟨this.2.1, this.2.2.imp id (fun h => h.1)⟩
    obtain ⟨h1, h2⟩ := all_props hP
    have hA : ∀ i, i < l.length → ascAt l i = true := fun i hi => by
      have := h i hi
      unfold chartAtP at this
      rw [Bool.and_eq_true] at this
      exact this.1
    intro i hi
    have := h i hi
    unfold chartAtP properP at this
    unfold chartAtR
    simp only [Bool.and_eq_true, Bool.or_eq_true, decide_eq_true_eq] at this ⊢
    refine ⟨hP i hi, this.1, ?_⟩
    have hm := getD_memA hi
    rcases this.2.2 with h0 | h0
    · have hf := asc_find hA hi
      exact climbR_one (by omega) hf (by simpa using h0) h1
    · exact (top_iff hm h1 h2).1 (by simpa using h0.2)
  · rintro ⟨hl, h⟩
    refine ⟨?_, hl⟩
    have hP : ∀ i, i < l.length → properR l g (l.getD i default) = true := fun i hi => by
      have := h i hi
      unfold chartAtR at this
      rw [Bool.and_eq_true] at this
      exact this.1
    obtain ⟨h1, h2⟩ := all_props hP
    intro i hi
    have := h i hi
    unfold chartAtR at this
    unfold chartAtP properP
    simp only [Bool.and_eq_true, Bool.or_eq_true, decide_eq_true_eq] at this ⊢
    have hp := hP i hi
    unfold properR at hp
    simp only [Bool.and_eq_true, Bool.or_eq_true] at hp
    refine ⟨this.2.1, hp.1, hp.2.imp id fun hk => ⟨hk, ?_⟩⟩
    have := (top_iff (getD_memA hi) h1 h2).2 this.2.2
    simpa using this
end Go.Proofs.YtcmmppkmkejniaaGreatDoor
