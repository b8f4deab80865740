/-
  A condition and its opposite divide the facts (plain).
-/
import Derived.Test.YtfnlddloalineaaGreatDoorTot2
namespace Go.Proofs.YtfnlddloalineaaGreatDoor
set_option linter.unusedVariables false
set_option linter.unusedSimpArgs false
def oppL : List Int := [1, 0, 5, 4, 3, 2]
def oppC (c : SCond) : SCond := ⟨c.f, oppL.getD c.o.toNat 0, c.v⟩
theorem fulB_opp {o : Int} (h0 : 0 ≤ o) (h5 : o ≤ 5) (n v : Int) : fulB n (oppL.getD o.toNat 0) v = !fulB n o v := by
  have h : o = 0 ∨ o = 1 ∨ o = 2 ∨ o = 3 ∨ o = 4 ∨ o = 5 := by omega
  rcases h with rfl | rfl | rfl | rfl | rfl | rfl
  · show (n != v) = !(n == v); rfl
  · show (n == v) = !(n != v); simp [bne]
  · show decide (v ≤ n) = !decide (n < v)
    by_cases h : n < v
    · rw [decide_eq_true h, decide_eq_false (by omega)]; rfl
    · rw [decide_eq_false h, decide_eq_true (by omega)]; rfl
  · show decide (v < n) = !decide (n ≤ v)
    by_cases h : n ≤ v
    · rw [decide_eq_true h, decide_eq_false (by omega)]; rfl
    · rw [decide_eq_false h, decide_eq_true (by omega)]; rfl
  · show decide (n ≤ v) = !decide (v < n)
    by_cases h : v < n
    · rw [decide_eq_true h, decide_eq_false (by omega)]; rfl
    · rw [decide_eq_false h, decide_eq_true (by omega)]; rfl
  · show decide (n < v) = !decide (v ≤ n)
    by_cases h : v ≤ n
    · rw [decide_eq_true h, decide_eq_false (by omega)]; rfl
    · rw [decide_eq_false h, decide_eq_true (by omega)]; rfl
theorem cndB_opp {c : SCond} (h0 : 0 ≤ c.o) (h5 : c.o ≤ 5) (f : SFact) : cndB (oppC c) f = !cndB c f := fulB_opp h0 h5 _ _
theorem predQ_app (wh : List SCond) (c : SCond) (f : SFact) : predQ (wh ++ [c]) f = (predQ wh f && cndB c f) := by
  unfold predQ
  rw [List.all_append]
  simp
theorem amtQ_congr {verb : Int} {p p' : SFact → Bool} (h : ∀ f, p f = p' f) (F : List SFact) : amtQ verb p F = amtQ verb p' F := by
  have : p = p' := funext h
  rw [this]
theorem amtQ_parts (verb : Int) (p a b : SFact → Bool) (h : ∀ f, b f = !a f) : ∀ F : List SFact, amtQ verb (fun f => p f && a f) F + amtQ verb (fun f => p f && b f) F = amtQ verb p F := by
  intro F
  induction F with
  | nil => rfl
  | cons f r ih =>
    rw [amtQ_cons, amtQ_cons, amtQ_cons, h f]
    cases hp : p f <;> cases ha : a f <;> simp <;> omega
theorem amt_divide {verb : Int} {wh : List SCond} {c : SCond} (h0 : 0 ≤ c.o) (h5 : c.o ≤ 5) (F : List SFact) : amtQ verb (predQ (wh ++ [c])) F + amtQ verb (predQ (wh ++ [oppC c])) F = amtQ verb (predQ wh) F := by
  rw [amtQ_congr (fun f => predQ_app wh c f), amtQ_congr (fun f => predQ_app wh (oppC c) f)]
  exact amtQ_parts verb (predQ wh) (cndB c) (cndB (oppC c)) (cndB_opp h0 h5) F
/-- the conditions from both ends, behind c -/
def backL (c : SCond) (wh : List SCond) (k : Nat) : List SCond := c :: (List.range k).flatMap fun i => [wh.getD (wh.length - 1 - i) default, wh.getD i default]
theorem backL_step (c : SCond) (wh : List SCond) (k : Nat) : backL c wh (k + 1) = backL c wh k ++ [wh.getD (wh.length - 1 - k) default, wh.getD k default] := by
  unfold backL
  rw [List.range_succ, List.flatMap_append, List.cons_append]
  simp
theorem getD_mem2 {wh : List SCond} {i : Nat} (h : i < wh.length) : wh.getD i default ∈ wh := by
  have e : wh.getD i default = wh[i] := by simp [List.getD, h]
  rw [e]; exact List.getElem_mem h
theorem backL_mem (c : SCond) (wh : List SCond) (x : SCond) : x ∈ backL c wh wh.length ↔ x ∈ wh ++ [c] := by
  unfold backL
  rw [List.mem_cons, List.mem_flatMap, List.mem_append, List.mem_singleton]
  constructor
  · rintro (h | ⟨i, hi, h⟩)
    · exact .inr h
    · rw [List.mem_range] at hi
      simp only [List.mem_cons, List.not_mem_nil, or_false] at h
      rcases h with rfl | rfl
      · exact .inl (getD_mem2 (by omega))
      · exact .inl (getD_mem2 hi)
  · rintro (h | h)
    · obtain ⟨i, hi⟩ := List.getElem?_of_mem h
      have hl := (List.getElem?_eq_some_iff.1 hi).1
      refine .inr ⟨i, List.mem_range.2 hl, ?_⟩
      have e : wh.getD i default = x := by simp [List.getD, hi]
      rw [e]
      simp
    · exact .inl h
theorem predQ_back (c : SCond) (wh : List SCond) (f : SFact) : predQ (backL c wh wh.length) f = predQ (wh ++ [c]) f := by
  unfold predQ
  rw [Bool.eq_iff_iff, List.all_eq_true, List.all_eq_true]
  exact ⟨fun h x hx => h x ((backL_mem c wh x).2 hx), fun h x hx => h x ((backL_mem c wh x).1 hx)⟩
theorem amt_back {verb : Int} {wh : List SCond} {c : SCond} (F : List SFact) : amtQ verb (predQ (backL c wh wh.length)) F = amtQ verb (predQ (wh ++ [c])) F := amtQ_congr (predQ_back c wh) F
theorem backL_len (c : SCond) (wh : List SCond) (k : Nat) : (backL c wh k).length = 1 + 2 * k := by
  induction k with
  | zero => rfl
  | succ k ih => rw [backL_step, List.length_append, ih]; simp; omega
end Go.Proofs.YtfnlddloalineaaGreatDoor
