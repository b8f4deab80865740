/-
  The rows with a further field add up to those without it (plain).
-/
import Derived.Test.YtfnlddloalineaaGreatDoorTot2
namespace Go.Proofs.YtfnlddloalineaaGreatDoor
set_option linter.unusedVariables false
set_option linter.unusedSimpArgs false
/-- what the rows whose keys begin so add up to -/
def grpV (nb : Nat) (l : List (K5 × Int)) (ks : List Int) : Int := sumV ((l.filter (fun p => p.1.l.take nb == ks)).map (·.2))
theorem grpV_cons (nb : Nat) (p : K5 × Int) (r : List (K5 × Int)) (ks : List Int) : grpV nb (p :: r) ks = (if p.1.l.take nb = ks then p.2 else 0) + grpV nb r ks := by
  unfold grpV
  by_cases h : p.1.l.take nb = ks
  · rw [List.filter_cons_of_pos (by simp [h]), if_pos h]; rfl
  · rw [List.filter_cons_of_neg (by simp [h]), if_neg h]; omega
theorem grpV_app (nb : Nat) (ks : List Int) : ∀ (a b : List (K5 × Int)), grpV nb (a ++ b) ks = grpV nb a ks + grpV nb b ks := by
  intro a b
  induction a with
  | nil => rw [List.nil_append]; show _ = (0 : Int) + _; rw [Int.zero_add]
  | cons p r ih => rw [List.cons_append, grpV_cons, grpV_cons, ih]; omega
theorem grpV_small (nb : Nat) (ks : List Int) : ∀ {l : List (K5 × Int)}, (∀ p ∈ l, okM p.2) → grpV nb l ks ≤ l.length * 1000000000000 ∧ -((l.length : Int) * 1000000000000) ≤ grpV nb l ks := by
  intro l
  induction l with
  | nil => intro _; exact ⟨by show (0 : Int) ≤ _; simp, by show _ ≤ (0 : Int); simp⟩
  | cons x r ih =>
    intro h
    have h1 := ih (fun y hy => h y (List.mem_cons_of_mem _ hy))
    have h2 := h x (by simp)
    unfold okM at h2
    rw [List.length_cons, grpV_cons]
    push_cast
    split <;> omega
theorem grpV_putS (nb : Nat) : ∀ (l : List (K5 × Int)) (k : K5) (n : Int) (ks : List Int), grpV nb (putS l k n) ks = grpV nb l ks + (if k.l.take nb = ks then n else 0) := by
  intro l
  induction l with
  | nil =>
    intro k n ks
    show grpV nb [(k, n)] ks = _
    rw [grpV_cons]
    show (if k.l.take nb = ks then n else 0) + (0 : Int) = (0 : Int) + (if k.l.take nb = ks then n else 0)
    rw [Int.add_zero, Int.zero_add]
  | cons p r ih =>
    intro k n ks
    rw [putS]
    by_cases h1 : ltK p.1 k
    · rw [if_pos h1, grpV_cons, grpV_cons, ih]; omega
    · rw [if_neg h1]
      by_cases h2 : ltK k p.1
      · rw [if_pos h2, grpV_cons]; show (if k.l.take nb = ks then n else 0) + _ = _; omega
      · rw [if_neg h2]
        have e : p.1 = k := by
          rcases ltK_total p.1 k with h | h | h
          · exact absurd h h1
          · exact h
          · exact absurd h h2
        rw [grpV_cons, grpV_cons]
        show (if p.1.l.take nb = ks then p.2 + n else 0) + _ = _
        rw [e]
        split <;> omega
/-- the amounts of the facts whose keys begin so -/
def grpF (verb : Int) (byl : List Int) (nb : Nat) (p : SFact → Bool) (F : List SFact) (ks : List Int) : Int := amtQ verb (fun f => p f && ((keyF byl f).l.take nb == ks)) F
theorem grp_fold (verb : Int) (byl : List Int) (nb : Nat) (p : SFact → Bool) (ks : List Int) : ∀ (F : List SFact) (l : List (K5 × Int)), grpV nb (F.foldl (fun l f => if p f = true then putS l (keyF byl f) (addF verb f) else l) l) ks = grpV nb l ks + grpF verb byl nb p F ks := by
  intro F
  induction F with
  | nil => intro l; show _ = _ + (0 : Int); rw [List.foldl_nil]; omega
  | cons f r ih =>
    intro l
    rw [List.foldl_cons, ih]
    unfold grpF
    rw [amtQ_cons]
    by_cases h : p f = true
    · rw [if_pos h, grpV_putS, h, Bool.true_and]
      by_cases h2 : (keyF byl f).l.take nb = ks
      · rw [if_pos h2, if_pos (by simp [h2])]; omega
      · rw [if_neg h2, if_neg (by simp [h2])]; omega
    · have h' : p f = false := by simpa using h
      rw [if_neg h, h', Bool.false_and, if_neg (by decide)]; omega
theorem grp_start (byl : List Int) (nb : Nat) (ks : List Int) : grpV nb (startR byl) ks = 0 := by
  unfold startR
  split
  · rw [grpV_cons]
    show (if _ then (0 : Int) else 0) + (0 : Int) = 0
    split <;> rfl
  · rfl
theorem grp_sums (verb : Int) (byl : List Int) (nb : Nat) (p : SFact → Bool) (F : List SFact) (ks : List Int) : grpV nb (sumsI verb byl p F) ks = grpF verb byl nb p F ks := by
  unfold sumsI
  rw [grp_fold, grp_start]; omega
theorem tail_inj {nb : Nat} {a b : K5} (ha : TailZ nb a) (hb : TailZ nb b) (h : a.l.take nb = b.l.take nb) : a = b := by
  apply K5.l_inj
  rw [← List.take_append_drop nb a.l, ← List.take_append_drop nb b.l, h, ha, hb]
theorem grp_none {nb : Nat} {x : K5} (hx : TailZ nb x) : ∀ {l : List (K5 × Int)}, (∀ p ∈ l, TailZ nb p.1) → x ∉ l.map (·.1) → grpV nb l (x.l.take nb) = 0 := by
  intro l
  induction l with
  | nil => intro _ _; rfl
  | cons p r ih =>
    intro ht hn
    rw [List.map_cons, List.mem_cons, not_or] at hn
    rw [grpV_cons, if_neg (fun e => hn.1 (tail_inj hx (ht p (by simp)) e.symm)), ih (fun q hq => ht q (List.mem_cons_of_mem _ hq)) hn.2]
    rfl
theorem grp_own {nb : Nat} {x : K5} (hx : TailZ nb x) {v : Int} : ∀ {l : List (K5 × Int)}, (∀ p ∈ l, TailZ nb p.1) → (l.map (·.1)).Nodup → (x, v) ∈ l → grpV nb l (x.l.take nb) = v := by
  intro l
  induction l with
  | nil => intro _ _ h; cases h
  | cons p r ih =>
    intro ht hd hm
    rw [List.map_cons, List.nodup_cons] at hd
    rw [grpV_cons]
    rcases List.mem_cons.1 hm with e | hm
    · subst e
      rw [if_pos rfl, grp_none hx (fun q hq => ht q (List.mem_cons_of_mem _ hq)) hd.1]
      show v + 0 = v
      omega
    · have hne : ¬ (p.1.l.take nb = x.l.take nb) := fun e => hd.1 (by
        rw [tail_inj (ht p (by simp)) hx e]
        exact List.mem_map.2 ⟨(x, v), hm, rfl⟩)
      rw [if_neg hne, ih (fun q hq => ht q (List.mem_cons_of_mem _ hq)) hd.2 hm]
      omega
theorem mem_fold (verb : Int) (byl : List Int) (p : SFact → Bool) (x : K5) : ∀ (F : List SFact) (l : List (K5 × Int)), x ∈ (F.foldl (fun l f => if p f = true then putS l (keyF byl f) (addF verb f) else l) l).map (·.1) ↔ x ∈ l.map (·.1) ∨ ∃ f, f ∈ F ∧ p f = true ∧ keyF byl f = x := by
  intro F
  induction F with
  | nil => intro l; rw [List.foldl_nil]; exact ⟨.inl, fun h => by rcases h with h | ⟨f, h, _⟩; exact h; cases h⟩
  | cons f r ih =>
    intro l
    rw [List.foldl_cons, ih]
    by_cases h : p f = true
    · rw [if_pos h, mem_putS]
      constructor
      · rintro ((rfl | h2) | ⟨g, h2, h3⟩)
        · exact .inr ⟨f, by simp, h, rfl⟩
        · exact .inl h2
        · exact .inr ⟨g, List.mem_cons_of_mem _ h2, h3⟩
      · rintro (h2 | ⟨g, h2, h3, h4⟩)
        · exact .inl (.inr h2)
        · rcases List.mem_cons.1 h2 with rfl | h2
          · exact .inl (.inl h4.symm)
          · exact .inr ⟨g, h2, h3, h4⟩
    · rw [if_neg h]
      constructor
      · rintro (h2 | ⟨g, h2, h3⟩)
        · exact .inl h2
        · exact .inr ⟨g, List.mem_cons_of_mem _ h2, h3⟩
      · rintro (h2 | ⟨g, h2, h3, h4⟩)
        · exact .inl h2
        · rcases List.mem_cons.1 h2 with rfl | h2
          · exact absurd h3 h
          · exact .inr ⟨g, h2, h3, h4⟩
theorem sums_tail {verb : Int} {byl : List Int} {p : SFact → Bool} {F : List SFact} (h5 : byl.length ≤ 5) : ∀ q, q ∈ sumsI verb byl p F → TailZ byl.length q.1 := by
  intro q hq
  have h := (mem_fold verb byl p q.1 F (startR byl)).1 (List.mem_map.2 ⟨q, hq, rfl⟩)
  rcases h with h | ⟨f, _, _, e⟩
  · obtain ⟨r, hr, e⟩ := List.mem_map.1 h
    rw [← e]
    exact (start_rel (byl := byl)).2 r hr
  · rw [← e]
    exact (keyF_tail f h5).1
theorem sums_nodup {verb : Int} {byl : List Int} {p : SFact → Bool} {F : List SFact} : ((sumsI verb byl p F).map (·.1)).Nodup := by
  obtain ⟨h1, _, _⟩ := sums_same (verb := verb) (byl := byl) (p := p) (F := F) F.length (Nat.le_refl _)
  rw [List.take_of_length_le (Nat.le_refl _)] at h1
  exact List.Pairwise.imp (fun {a b} (h : ltK a b) => show a ≠ b from fun e => ltK_irr b (by rw [e] at h; exact h)) h1
theorem key_more {bl : List Int} {k : Int} (f : SFact) (h5 : bl.length + 1 ≤ 5) : (keyF (bl ++ [k]) f).l.take bl.length = (keyF bl f).l.take bl.length := by
  have h1 := (keyF_tail (byl := bl ++ [k]) f (by rw [List.length_append]; exact h5)).2
  have h2 := (keyF_tail (byl := bl) f (by omega)).2
  rw [List.length_append, List.length_singleton] at h1
  have h3 : (keyF (bl ++ [k]) f).l.take bl.length = ((keyF (bl ++ [k]) f).l.take (bl.length + 1)).take bl.length := by rw [List.take_take]; congr 1; omega
  rw [h3, h1, h2]
  unfold keyL
  rw [List.map_append, List.take_append_of_le_length (by rw [List.length_map]; exact Nat.le_refl _), List.take_of_length_le (by rw [List.length_map]; exact Nat.le_refl _)]
/-- a row of the coarse answer is what its rows of the fine one add up to -/
theorem grp_law {verb : Int} {bl : List Int} {k : Int} {p : SFact → Bool} {F : List SFact} (h5 : bl.length + 1 ≤ 5) {x : K5} {v : Int} (hm : (x, v) ∈ sumsI verb bl p F) : grpV bl.length (sumsI verb (bl ++ [k]) p F) (x.l.take bl.length) = v := by
  have h1 := grp_own (sums_tail (by omega) _ hm) (fun q hq => sums_tail (by omega) q hq) sums_nodup hm
  rw [← h1, grp_sums, grp_sums]
  unfold grpF
  refine amtQ_cong2 (fun f => ?_) F
  rw [key_more f h5]
/-- with a field at least, the fine answer has no fewer rows -/
theorem grp_len {verb : Int} {bl : List Int} {k : Int} {p : SFact → Bool} {F : List SFact} (h5 : bl.length + 1 ≤ 5) (h0 : bl ≠ []) : (sumsI verb bl p F).length ≤ (sumsI verb (bl ++ [k]) p F).length := by
  have ht := fun q (hq : q ∈ sumsI verb bl p F) => sums_tail (by omega) q hq
  have h1 := nodup_sub_len ((sumsI verb bl p F).map (fun q => q.1.l.take bl.length)) ((sumsI verb (bl ++ [k]) p F).map (fun q => q.1.l.take bl.length)) ?_ ?_
  · rw [List.length_map, List.length_map] at h1; exact h1
  · have hd := sums_nodup (verb := verb) (byl := bl) (p := p) (F := F)
    rw [List.Nodup, List.pairwise_map] at hd ⊢
    refine List.Pairwise.imp_of_mem (fun {a b} ha hb h e => h (tail_inj (ht a ha) (ht b hb) e)) hd
  · intro y hy
    obtain ⟨q, hq, rfl⟩ := List.mem_map.1 hy
    have h2 := (mem_fold verb bl p q.1 F (startR bl)).1 (List.mem_map.2 ⟨q, hq, rfl⟩)
    have hs : startR bl = [] := by unfold startR; rw [if_neg h0]
    rw [hs] at h2
    rcases h2 with h2 | ⟨f, hf, hp, e⟩
    · simp at h2
    · have h3 := (mem_fold verb (bl ++ [k]) p (keyF (bl ++ [k]) f) F (startR (bl ++ [k]))).2 (.inr ⟨f, hf, hp, rfl⟩)
      obtain ⟨r, hr, e2⟩ := List.mem_map.1 h3
      refine List.mem_map.2 ⟨r, hr, ?_⟩
      show r.1.l.take bl.length = q.1.l.take bl.length
      rw [e2, key_more f h5, e]
end Go.Proofs.YtfnlddloalineaaGreatDoor
