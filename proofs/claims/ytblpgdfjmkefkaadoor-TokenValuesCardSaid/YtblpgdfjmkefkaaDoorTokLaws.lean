/-
  Tokens: what the statements ask, as plain laws.
-/
import Derived.Test.YtblpgdfjmkefkaaDoorTokPlain
namespace Go.Proofs.YtblpgdfjmkefkaaDoor
set_option linter.unusedVariables false
/-- with fuel enough the fuel does not matter -/
theorem tkE_fuel : ∀ (n : Nat) (r : List UInt8) (f g at_ : Nat), r.length < n → r.length < f → r.length < g → tkE f r at_ = tkE g r at_ := by
  intro n
  induction n with
  | zero => intro r f g at_ h; omega
  | succ n ih =>
    intro r f g at_ hn hf hg
    cases f with
    | zero => omega
    | succ f =>
      cases g with
      | zero => omega
      | succ g =>
        simp only [tkE]
        by_cases h1 : r.drop (skipL false r) = []
        · rw [if_pos h1, if_pos h1]
        · rw [if_neg h1, if_neg h1]
          by_cases h2 : (nextL (r.drop (skipL false r))).1 = 0
          · rw [if_pos h2, if_pos h2]
          · rw [if_neg h2, if_neg h2]
            have hp := nextL_pos h2
            have hl : (r.drop (skipL false r)).length ≤ r.length := by simp
            have hl0 : 0 < (r.drop (skipL false r)).length := List.length_pos_iff.2 h1
            split
            · rfl
            · rw [ih _ f g]
              all_goals (rw [List.length_drop]; omega)
/-- kinds and texts alone -/
def shape : TR → Option (List (Int × List UInt8))
  | .ok l => some (l.map fun t => (t.kind, t.text))
  | .error _ => none
theorem shape_cons (t : Tok) (x : TR) : shape (consR t x) = (shape x).map ((t.kind, t.text) :: ·) := by
  cases x <;> rfl
theorem shape_at : ∀ (f : Nat) (r : List UInt8) (a b : Nat), shape (tkE f r a) = shape (tkE f r b) := by
  intro f
  induction f with
  | zero => intro r a b; rfl
  | succ f ih =>
    intro r a b
    simp only [tkE]
    by_cases h1 : r.drop (skipL false r) = []
    · rw [if_pos h1, if_pos h1]
    · rw [if_neg h1, if_neg h1]
      by_cases h2 : (nextL (r.drop (skipL false r))).1 = 0
      · rw [if_pos h2, if_pos h2]; rfl
      · rw [if_neg h2, if_neg h2]
        split
        · rfl
        · rw [shape_cons, shape_cons, ih _ _ (b + skipL false r + (nextL (r.drop (skipL false r))).2)]
theorem skipL_line (rest : List UInt8) : ∀ (a : List UInt8) (c : Bool), skipL c (a ++ 10 :: rest) = if skipL c a = a.length then a.length + 1 + skipL false rest else skipL c a := by
  intro a
  induction a with
  | nil =>
    intro c
    cases c <;> simp [skipL, isBl] <;> omega
  | cons x r ih =>
    intro c
    have h1 := ih true
    have h2 := ih false
    cases c
    · simp only [List.cons_append, skipL, List.length_cons]
      by_cases hx : (x == 35) = true
      · simp only [hx, if_true, h1]; (repeat' split) <;> omega
      · by_cases hb : isBl x = true
        · simp only [hx, hb, if_true, Bool.false_eq_true, if_false, h2]; (repeat' split) <;> omega
        · simp only [hx, hb, Bool.false_eq_true, if_false]; rw [if_neg (by omega)]
    · simp only [List.cons_append, skipL, List.length_cons]
      by_cases hx : (x == 10) = true
      · simp only [hx, if_true, h2]; (repeat' split) <;> omega
      · simp only [hx, Bool.false_eq_true, if_false, h1]; (repeat' split) <;> omega
theorem runL_line {p : UInt8 → Bool} {c : UInt8} (hp : p c = false) (rest : List UInt8) : ∀ q : List UInt8, runL p (q ++ c :: rest) = runL p q := by
  intro q
  induction q with
  | nil => simp [runL, hp]
  | cons x r ih => simp only [List.cons_append, runL, ih]
/-- a byte that no token holds ends the token -/
theorem nextL_line {c : UInt8} (h1 : isNam c = false) (h2 : isDig c = false) (h3 : ∀ x : UInt8, dbls.contains [x, c] = false) (rest : List UInt8) {q : List UInt8} (hq : q ≠ []) : nextL (q ++ c :: rest) = nextL q := by
  cases q with
  | nil => exact absurd rfl hq
  | cons x r =>
    have e1 := runL_line h1 rest (x :: r)
    have e2 := runL_line h2 rest (x :: r)
    rw [List.cons_append] at e1 e2 ⊢
    simp only [nextL, e1, e2]
    cases r with
    | nil =>
      have : dbls.contains ([x] : List UInt8) = false := by simp [dbls]
      simp only [List.nil_append, List.take_succ_cons, List.take_zero, List.take_nil, h3, this]
    | cons y r => simp only [List.cons_append, List.take_succ_cons, List.take_zero]; rfl
theorem nl_ends : isNam 10 = false ∧ isDig 10 = false ∧ ∀ x : UInt8, dbls.contains [x, 10] = false := by
  refine ⟨by decide, by decide, fun x => ?_⟩
  simp [dbls]
theorem sp_ends : isNam 32 = false ∧ isDig 32 = false ∧ ∀ x : UInt8, dbls.contains [x, 32] = false := by
  refine ⟨by decide, by decide, fun x => ?_⟩
  simp [dbls]
def both (x y : Option (List (Int × List UInt8))) : Option (List (Int × List UInt8)) :=
  match x, y with
  | some a, some b => some (a ++ b)
  | _, _ => none
theorem both_none (y : Option (List (Int × List UInt8))) : both none y = none := by cases y <;> rfl
theorem both_nil (y : Option (List (Int × List UInt8))) : both (some []) y = y := by cases y <;> rfl
theorem both_cons (t : Int × List UInt8) (x y : Option (List (Int × List UInt8))) : both (x.map (t :: ·)) y = (both x y).map (t :: ·) := by
  cases x <;> cases y <;> rfl
theorem line_both : ∀ (f : Nat) (a rest : List UInt8) (F at_ : Nat), a.length < f → (a ++ 10 :: rest).length < F → ∀ g b : Nat, rest.length < g → shape (tkE F (a ++ 10 :: rest) at_) = both (shape (tkE f a at_)) (shape (tkE g rest b)) := by
  intro f
  induction f with
  | zero => intro a rest F at_ h; omega
  | succ f ih =>
    intro a rest F at_ hf hF g b hg
    cases F with
    | zero => omega
    | succ F =>
      have hk := skipL_line rest a false
      have hle := skipL_le a false
      rw [List.length_append, List.length_cons] at hF
      by_cases he : skipL false a = a.length
      · rw [if_pos he] at hk
        rw [tkE_end he]
        show _ = both (some []) _
        rw [both_nil]
        have hd : (a ++ 10 :: rest).drop (a.length + 1 + skipL false rest) = rest.drop (skipL false rest) := by
          rw [show a.length + 1 + skipL false rest = a.length + (1 + skipL false rest) from by omega, List.drop_append, List.drop_of_length_le (by omega), Nat.add_sub_cancel_left, List.nil_append, Nat.add_comm 1, List.drop_succ_cons]
        rw [tkE_fuel (rest.length + 1) rest g (F + 1) b (by omega) hg (by omega), shape_at (F + 1) rest b (at_ + a.length + 1)]
        simp only [tkE, hk, hd]
        rw [show at_ + (a.length + 1 + skipL false rest) = at_ + a.length + 1 + skipL false rest from by omega]
      · rw [if_neg he] at hk
        have hlt : skipL false a < a.length := by omega
        have hd : (a ++ 10 :: rest).drop (skipL false a) = a.drop (skipL false a) ++ 10 :: rest := by
          rw [List.drop_append_of_le_length hle]
        have hq : a.drop (skipL false a) ≠ [] := drop_ne he
        have hn := nextL_line nl_ends.1 nl_ends.2.1 nl_ends.2.2 rest hq
        generalize hqe : a.drop (skipL false a) = q at *
        have hql : q.length = a.length - skipL false a := by rw [← hqe, List.length_drop]
        obtain ⟨kd, n, hnn⟩ : ∃ kd n, nextL q = (kd, n) := ⟨_, _, rfl⟩
        have hkl : skipL false (a ++ 10 :: rest) < (a ++ 10 :: rest).length := by rw [hk]; simp; omega
        have hn' : nextL ((a ++ 10 :: rest).drop (skipL false a)) = (kd, n) := by rw [hd, hn, hnn]
        have hn'' : nextL (a.drop (skipL false a)) = (kd, n) := by rw [hqe, hnn]
        by_cases h0 : kd = 0
        · subst h0
          rw [tkE_syn hk (by rw [← hk]; exact hkl) (by rw [hn']), tkE_syn rfl hlt (by rw [hn''])]
          exact (both_none _).symm
        · have hnl : n ≤ q.length := by have := nextL_le (l := q); rw [hnn] at this; exact this
          have hnp : 1 ≤ n := by have := nextL_pos (l := q); rw [hnn] at this; exact this h0
          have ht : ((a ++ 10 :: rest).drop (skipL false a)).take n = q.take n := by rw [hd, List.take_append_of_le_length hnl]
          have ht' : (a.drop (skipL false a)).take n = q.take n := by rw [hqe]
          cases hb : badTok kd (q.take n)
          · rw [tkE_tok hk (by rw [← hk]; exact hkl) hn' h0 (by rw [ht]; exact hb), tkE_tok rfl hlt hn'' h0 (by rw [ht']; exact hb)]
            rw [shape_cons, shape_cons, both_cons, ht, ht', hd, List.drop_append_of_le_length hnl, hqe]
            rw [ih (q.drop n) rest F _ (by rw [List.length_drop]; omega) (by rw [List.length_append, List.length_cons, List.length_drop]; omega) g b hg]
          · rw [tkE_lim hk (by rw [← hk]; exact hkl) hn' h0 (by rw [ht]; exact hb), tkE_lim rfl hlt hn'' h0 (by rw [ht']; exact hb)]
            exact (both_none _).symm
/-! what lies between the two texts -/
def chunk (k : Nat) : List UInt8 := ([[32], [9], [10], [13], [35, 32, 120, 32, 61, 32, 49, 59, 10], [35, 10]] : List (List UInt8)).getD k []
def gapL (zs : List Nat) : List UInt8 := zs.flatMap fun z => chunk (z % 6)
theorem chunk_skip (k : Nat) (h : k < 6) (b : List UInt8) : skipL false (chunk k ++ b) = (chunk k).length + skipL false b := by
  obtain rfl | rfl | rfl | rfl | rfl | rfl : k = 0 ∨ k = 1 ∨ k = 2 ∨ k = 3 ∨ k = 4 ∨ k = 5 := by omega
  all_goals simp [chunk, skipL, isBl] <;> omega
theorem gap_skip (b : List UInt8) : ∀ zs : List Nat, skipL false (gapL zs ++ b) = (gapL zs).length + skipL false b := by
  intro zs
  induction zs with
  | nil => simp [gapL]
  | cons z r ih =>
    have e : gapL (z :: r) = chunk (z % 6) ++ gapL r := by simp [gapL]
    rw [e, List.append_assoc, chunk_skip _ (Nat.mod_lt _ (by omega)), ih, List.length_append]
    omega
theorem gap_len : ∀ zs : List Nat, (gapL zs).length ≤ 9 * zs.length := by
  intro zs
  induction zs with
  | nil => simp [gapL]
  | cons z r ih =>
    have e : gapL (z :: r) = chunk (z % 6) ++ gapL r := by simp [gapL]
    have hc : (chunk (z % 6)).length ≤ 9 := by
      have := Nat.mod_lt z (show 0 < 6 by omega)
      generalize z % 6 = k at *
      obtain rfl | rfl | rfl | rfl | rfl | rfl : k = 0 ∨ k = 1 ∨ k = 2 ∨ k = 3 ∨ k = 4 ∨ k = 5 := by omega
      all_goals simp [chunk]
    rw [e, List.length_append, List.length_cons]
    omega
theorem gap_tk (zs : List Nat) (b : List UInt8) (f at_ : Nat) : shape (tkE f (gapL zs ++ b) at_) = shape (tkE f b at_) := by
  cases f with
  | zero => rfl
  | succ f =>
    have hs := gap_skip b zs
    have hd : (gapL zs ++ b).drop ((gapL zs).length + skipL false b) = b.drop (skipL false b) := by
      rw [List.drop_append, List.drop_of_length_le (by omega), Nat.add_sub_cancel_left, List.nil_append]
    rw [shape_at (f + 1) b at_ (at_ + (gapL zs).length)]
    simp only [tkE, hs, hd]
    rw [show at_ + ((gapL zs).length + skipL false b) = at_ + (gapL zs).length + skipL false b from by omega]
theorem blanks_both (a b : List UInt8) (zs : List Nat) (hl : a.length + b.length ≤ 3000) (hz : zs.length ≤ 50) :
    shape (tokE (a ++ 10 :: (gapL zs ++ b))) = both (shape (tokE a)) (shape (tokE b)) := by
  have hg := gap_len zs
  unfold tokE
  rw [if_neg (by simp; omega), if_neg (by omega), if_neg (by omega)]
  rw [line_both (a.length + 1) a (gapL zs ++ b) _ 0 (by omega) (by omega) ((gapL zs ++ b).length + 1) 0 (by omega), gap_tk]
  rw [tkE_fuel (b.length + 1) b ((gapL zs ++ b).length + 1) (b.length + 1) 0 (by omega) (by simp; omega) (by omega)]
/-! joined tokens -/
structure Good (t : Tok) : Prop where
  ne : t.text ≠ []
  next : nextL t.text = (t.kind, t.text.length)
  kind : t.kind ≠ 0
  fine : badTok t.kind t.text = false
  head : skipL false t.text = 0
theorem runL_take (p : UInt8 → Bool) : ∀ l : List UInt8, runL p (l.take (runL p l)) = runL p l := by
  intro l
  have h := runL_all p l
  have hl : (l.take (runL p l)).length = runL p l := by rw [List.length_take]; have := runL_le p l; omega
  rw [runL_full.2 h, hl]
theorem nextL_take {q : List UInt8} (h : (nextL q).1 ≠ 0) : nextL (q.take (nextL q).2) = nextL q := by
  cases q with
  | nil => simp [nextL] at h
  | cons c r =>
    have hp := nextL_pos h
    have e : ∀ n, 1 ≤ n → (c :: r).take n = c :: r.take (n - 1) := by
      intro n hn
      obtain ⟨m, rfl⟩ : ∃ m, n = m + 1 := ⟨n - 1, by omega⟩
      simp
    by_cases h1 : isLet c = true
    · have hn : nextL (c :: r) = (1, runL isNam (c :: r)) := by simp [nextL, h1]
      rw [hn] at hp ⊢
      have ht := runL_take isNam (c :: r)
      simp only at hp ⊢
      rw [e _ hp] at ht ⊢
      simp only [nextL, h1, if_true, ht]
    · by_cases h2 : isDig c = true
      · have hn : nextL (c :: r) = (2, runL isDig (c :: r)) := by simp [nextL, h1, h2]
        rw [hn] at hp ⊢
        have ht := runL_take isDig (c :: r)
        simp only at hp ⊢
        rw [e _ hp] at ht ⊢
        simp only [nextL, h1, h2, Bool.false_eq_true, if_false, if_true, ht]
      · by_cases h3 : dbls.contains ((c :: r).take 2) = true
        · have hn : nextL (c :: r) = (3, 2) := by simp only [nextL, h1, h2, h3, Bool.false_eq_true, if_false, if_true]
          rw [hn]
          have : ((c :: r).take 2).take 2 = (c :: r).take 2 := by rw [List.take_take]; rfl
          have h3' : dbls.contains (((c :: r).take 2).take 2) = true := by rw [this]; exact h3
          rw [e 2 (by omega)] at h3' ⊢
          simp only [nextL, h1, h2, h3', Bool.false_eq_true, if_false, if_true]
        · by_cases h4 : sgls.contains c = true
          · have hn : nextL (c :: r) = (3, 1) := by simp only [nextL, h1, h2, h3, h4, Bool.false_eq_true, if_false, if_true]
            rw [hn]
            have : dbls.contains ([c] : List UInt8) = false := by simp [dbls]
            simp only [List.take_succ_cons, List.take_zero, nextL, h1, h2, h4, this, List.take_nil, Bool.false_eq_true, if_false, if_true]
          · exfalso
            apply h
            simp only [nextL, h1, h2, h3, h4, Bool.false_eq_true, if_false]
theorem nextL_head {q : List UInt8} (h : (nextL q).1 ≠ 0) : skipL false (q.take (nextL q).2) = 0 := by
  cases q with
  | nil => simp [nextL] at h
  | cons c r =>
    have hp := nextL_pos h
    obtain ⟨m, hm⟩ : ∃ m, (nextL (c :: r)).2 = m + 1 := ⟨(nextL (c :: r)).2 - 1, by omega⟩
    rw [hm, List.take_succ_cons]
    by_cases hc : isBl c = true ∨ c = 35
    · exfalso
      apply h
      have : c = 32 ∨ c = 9 ∨ c = 10 ∨ c = 13 ∨ c = 35 := by
        rcases hc with hc | hc
        · simp only [isBl, Bool.or_eq_true, beq_iff_eq] at hc
          rcases hc with ((hc | hc) | hc) | hc <;> simp [hc]
        · simp [hc]
      rcases this with rfl | rfl | rfl | rfl | rfl <;> simp [nextL, isLet, isDig, dbls, sgls]
    · have h1 : ¬ isBl c = true := fun x => hc (.inl x)
      have h2 : ¬ (c == 35) = true := fun x => hc (.inr (by simpa using x))
      simp only [skipL, h1, h2, Bool.false_eq_true, if_false]
theorem tkE_good : ∀ (f : Nat) (r : List UInt8) (at_ : Nat) (ts : List Tok), tkE f r at_ = .ok ts → ∀ t ∈ ts, Good t := by
  intro f
  induction f with
  | zero => intro r at_ ts h t ht; simp only [tkE, Except.ok.injEq] at h; subst h; simp at ht
  | succ f ih =>
    intro r at_ ts h t ht
    simp only [tkE] at h
    by_cases h1 : r.drop (skipL false r) = []
    · rw [if_pos h1] at h; injection h with h; subst h; simp at ht
    · rw [if_neg h1] at h
      generalize hq : r.drop (skipL false r) = q at *
      by_cases h2 : (nextL q).1 = 0
      · rw [if_pos h2] at h; cases h
      · rw [if_neg h2] at h
        cases hb : badTok (nextL q).1 (q.take (nextL q).2)
        · rw [hb] at h
          simp only [Bool.false_eq_true, if_false] at h
          cases hr : tkE f (q.drop (nextL q).2) (at_ + skipL false r + (nextL q).2) with
          | error e => rw [hr] at h; cases h
          | ok l =>
            rw [hr] at h
            injection h with h
            subst h
            rcases List.mem_cons.1 ht with rfl | ht
            · refine ⟨?_, ?_, h2, hb, nextL_head h2⟩
              · intro e
                have := nextL_pos h2
                have hl := nextL_le (l := q)
                have : (q.take (nextL q).2).length = 0 := by rw [show q.take (nextL q).2 = [] from e]; rfl
                rw [List.length_take] at this
                omega
              · show nextL (q.take (nextL q).2) = ((nextL q).1, (q.take (nextL q).2).length)
                rw [nextL_take h2, List.length_take, Nat.min_eq_left nextL_le]
            · exact ih _ _ _ hr t ht
        · rw [hb] at h; simp at h
def joinL : List (List UInt8) → List UInt8
  | [] => []
  | [x] => x
  | x :: y :: r => x ++ 32 :: joinL (y :: r)
theorem skipL_app {t : List UInt8} (h : skipL false t = 0) (hn : t ≠ []) (rest : List UInt8) : skipL false (t ++ rest) = 0 := by
  cases t with
  | nil => exact absurd rfl hn
  | cons c r =>
    simp only [List.cons_append, skipL] at h ⊢
    split at h
    · omega
    · split at h
      · omega
      · rw [if_neg (by assumption), if_neg (by assumption)]
theorem sp_skip (rest : List UInt8) : skipL false (32 :: rest) = skipL false rest + 1 := by simp [skipL, isBl]
theorem joins_back : ∀ (ts : List Tok), (∀ t ∈ ts, Good t) → ∀ f at_, (joinL (ts.map (·.text))).length < f → shape (tkE f (joinL (ts.map (·.text))) at_) = some (ts.map fun t => (t.kind, t.text)) := by
  intro ts
  induction ts with
  | nil =>
    intro _ f at_ hf
    cases f with
    | zero => omega
    | succ f => rfl
  | cons t r ih =>
    intro hg f at_ hf
    have g := hg t (by simp)
    have ih' := ih (fun x hx => hg x (by simp [hx]))
    have hl : 0 < t.text.length := List.length_pos_iff.2 g.ne
    cases f with
    | zero => omega
    | succ f =>
      cases r with
      | nil =>
        simp only [List.map_cons, List.map_nil, joinL] at hf ⊢
        have hn : nextL (t.text.drop 0) = (t.kind, t.text.length) := g.next
        rw [tkE_tok g.head hl hn g.kind (by rw [List.drop_zero, List.take_length]; exact g.fine)]
        rw [shape_cons, List.drop_zero, List.take_length, List.drop_length]
        cases f <;> rfl
      | cons u r =>
        simp only [List.map_cons, joinL] at hf ⊢
        have hn : nextL ((t.text ++ 32 :: joinL (u.text :: r.map (·.text))).drop 0) = (t.kind, t.text.length) := by
          rw [List.drop_zero, nextL_line sp_ends.1 sp_ends.2.1 sp_ends.2.2 _ g.ne, g.next]
        have ht : ((t.text ++ 32 :: joinL (u.text :: r.map (·.text))).drop 0).take t.text.length = t.text := by
          rw [List.drop_zero, List.take_left']; rfl
        rw [tkE_tok (skipL_app g.head g.ne _) (by simp; omega) hn g.kind (by rw [ht]; exact g.fine), ht, shape_cons]
        have hd : ((t.text ++ 32 :: joinL (u.text :: r.map (·.text))).drop 0).drop t.text.length = 32 :: joinL (u.text :: r.map (·.text)) := by
          rw [List.drop_zero, List.drop_left']; rfl
        rw [hd]
        rw [List.length_append, List.length_cons] at hf
        cases f with
        | zero => omega
        | succ f =>
          have hi := ih' (f + 1) (at_ + 0 + t.text.length + 1) (by simp only [List.map_cons]; omega)
          simp only [List.map_cons] at hi
          have e : tkE (f + 1) (32 :: joinL (u.text :: r.map (·.text))) (at_ + 0 + t.text.length) = tkE (f + 1) (joinL (u.text :: r.map (·.text))) (at_ + 0 + t.text.length + 1) := by
            simp only [tkE, sp_skip, List.drop_succ_cons]
            rw [show at_ + 0 + t.text.length + (skipL false (joinL (u.text :: r.map (·.text))) + 1) = at_ + 0 + t.text.length + 1 + skipL false (joinL (u.text :: r.map (·.text))) from by omega]
          rw [e, hi]
          rfl
/-! the places -/
/-- the tokens from place 'e' on, of a whole text l -/
def placed (l : List UInt8) : Nat → List Tok → Prop
  | e, [] => e + skipL false (l.drop e) = l.length
  | e, t :: r => t.from_ = ((e + skipL false (l.drop e) : Nat) : Int) ∧ 0 < t.text.length ∧ e + skipL false (l.drop e) + t.text.length ≤ l.length ∧ (l.drop (e + skipL false (l.drop e))).take t.text.length = t.text ∧ placed l (e + skipL false (l.drop e) + t.text.length) r
theorem tkE_placed (l : List UInt8) : ∀ (f e : Nat) (ts : List Tok), e ≤ l.length → (l.drop e).length < f → tkE f (l.drop e) e = .ok ts → placed l e ts := by
  intro f
  induction f with
  | zero => intro e ts _ h; omega
  | succ f ih =>
    intro e ts he hf h
    have hle := skipL_le (l.drop e) false
    rw [List.length_drop] at hle hf
    simp only [tkE] at h
    by_cases h1 : (l.drop e).drop (skipL false (l.drop e)) = []
    · rw [if_pos h1] at h
      injection h with h
      subst h
      have := List.drop_eq_nil_iff.1 h1
      rw [List.length_drop] at this
      show e + skipL false (l.drop e) = l.length
      omega
    · rw [if_neg h1] at h
      have hne : skipL false (l.drop e) < l.length - e := by
        rcases Nat.lt_or_ge (skipL false (l.drop e)) (l.length - e) with h | h
        · exact h
        · exact absurd (List.drop_eq_nil_iff.2 (by rw [List.length_drop]; exact h)) h1
      by_cases h2 : (nextL ((l.drop e).drop (skipL false (l.drop e)))).1 = 0
      · rw [if_pos h2] at h; cases h
      · rw [if_neg h2] at h
        split at h
        · cases h
        · have hp := nextL_pos h2
          have hl := nextL_le (l := (l.drop e).drop (skipL false (l.drop e)))
          have hql : ((l.drop e).drop (skipL false (l.drop e))).length = l.length - e - skipL false (l.drop e) := by rw [List.length_drop, List.length_drop]
          generalize hn : (nextL ((l.drop e).drop (skipL false (l.drop e)))).2 = n at *
          have hdd : (l.drop e).drop (skipL false (l.drop e)) = l.drop (e + skipL false (l.drop e)) := by rw [List.drop_drop]
          cases hr : tkE f (((l.drop e).drop (skipL false (l.drop e))).drop n) (e + skipL false (l.drop e) + n) with
          | error x => rw [hr] at h; cases h
          | ok y =>
            rw [hr] at h
            injection h with h
            subst h
            have htl : (((l.drop e).drop (skipL false (l.drop e))).take n).length = n := by rw [List.length_take]; omega
            refine ⟨rfl, by simp only [htl]; omega, by simp only [htl]; omega, by show (l.drop _).take (((l.drop e).drop _).take n).length = _; rw [htl, hdd], ?_⟩
            simp only [htl]
            refine ih _ _ (by omega) (by rw [List.length_drop]; omega) ?_
            rw [← hr, hdd, List.drop_drop]
end Go.Proofs.YtblpgdfjmkefkaaDoor
