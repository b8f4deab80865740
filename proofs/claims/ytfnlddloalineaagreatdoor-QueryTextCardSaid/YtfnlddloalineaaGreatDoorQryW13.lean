/-
  The program's reader: cond, all ways joined.
-/
import Derived.Test.YtfnlddloalineaaGreatDoorQryW12
namespace Go.Proofs.YtfnlddloalineaaGreatDoor
open Go.RowKit
set_option linter.unusedVariables false
theorem env_grown {w w' : World} {R : Nat} (h : Env w) (hg : w.grownBy w' (some R)) (hR : NG ≤ R) : Env w' :=
  h.of_heap (Nat.le_trans h.size hg.size) fun k hk => hg.block k (by have := h.size; omega) (fun e => by injection e; omega)
theorem enve_grown {w w' : World} {R : Nat} (h : EnvE w) (hE : Env w) (hg : w.grownBy w' (some R)) (hR : NG ≤ R) : EnvE w' :=
  h.of_heap fun k hk => hg.block k (by have := hE.size; omega) (fun e => by injection e; omega)
theorem cndR_nil : cndR [] = .error ([], 3) := rfl
theorem cndR_unk {x : Wd} {ws : List Wd} (hx : idxW fdL x < 0) : cndR (x :: ws) = .error (x :: ws, 17) := by
  rw [cndR.eq_def]; exact if_pos hx
theorem cndR_one {x : Wd} (hx : ¬ idxW fdL x < 0) : cndR [x] = .error ([], 3) := by
  rw [cndR.eq_def]; exact if_neg hx
theorem cndR_op {x o : Wd} {vs : List Wd} (hx : ¬ idxW fdL x < 0) (ho : idxW (opL.take (opN (idxW fdL x))) o < 0) : cndR (x :: o :: vs) = .error (o :: vs, 3) := by
  rw [cndR.eq_def]; show (if idxW fdL x < 0 then _ else _) = _; rw [if_neg hx]
  exact if_pos ho
theorem cndR_two {x o : Wd} (hx : ¬ idxW fdL x < 0) (ho : ¬ idxW (opL.take (opN (idxW fdL x))) o < 0) : cndR [x, o] = .error ([], 3) := by
  rw [cndR, if_neg hx]
  exact if_neg ho
theorem cndR_ok {x o v : Wd} {r : List Wd} (hx : ¬ idxW fdL x < 0) (ho : ¬ idxW (opL.take (opN (idxW fdL x))) o < 0) (hv : (valO (idxW fdL x) v).2 = 0) :
    cndR (x :: o :: v :: r) = .ok (⟨idxW fdL x, idxW (opL.take (opN (idxW fdL x))) o, (valO (idxW fdL x) v).1⟩, r) := by
  rw [cndR, if_neg hx]
  exact (if_neg ho).trans (if_pos hv)
theorem cndR_bad {x o v : Wd} {r : List Wd} (hx : ¬ idxW fdL x < 0) (ho : ¬ idxW (opL.take (opN (idxW fdL x))) o < 0) (hv : ¬ (valO (idxW fdL x) v).2 = 0) :
    cndR (x :: o :: v :: r) = .error (v :: r, (valO (idxW fdL x) v).2) := by
  rw [cndR, if_neg hx]
  exact (if_neg ho).trans (if_neg hv)
theorem cndR_err {ws r : List Wd} {E : Int} (h : cndR ws = .error (r, E)) : E ≠ 0 := by
  cases ws with
  | nil => rw [cndR_nil] at h; injection h with h; injection h with _ h; omega
  | cons x ws =>
    by_cases hx : idxW fdL x < 0
    · rw [cndR_unk hx] at h; injection h with h; injection h with _ h; omega
    · cases ws with
      | nil => rw [cndR_one hx] at h; injection h with h; injection h with _ h; omega
      | cons o vs =>
        by_cases ho : idxW (opL.take (opN (idxW fdL x))) o < 0
        · rw [cndR_op hx ho] at h; injection h with h; injection h with _ h; omega
        · cases vs with
          | nil => rw [cndR_two hx ho] at h; injection h with h; injection h with _ h; omega
          | cons v r =>
            by_cases hv : (valO (idxW fdL x) v).2 = 0
            · rw [cndR_ok hx ho hv] at h; cases h
            · rw [cndR_bad hx ho hv] at h; injection h with h; injection h with _ h; omega
def CndAny (B R : Nat) (ws : List Wd) (ps : List Int) (len : Int) (w : World) (e : Ending) (w' : World) : Prop := match cndR ws with
  | .error (r, E) => (∃ a b c : Int, e = .returned (.tuple #[.agg #[.int .i64 a, .int .i64 b, .int .i64 c], .int .i64 E])) ∧ Rdr w' B R r (ps.drop (ws.length - r.length)) len ∧ w.grownBy w' (some R)
  | .ok (c, r) => e = .returned (.tuple #[.agg #[.int .i64 c.f, .int .i64 c.o, .int .i64 c.v], .int .i64 0]) ∧ Rdr w' B R r (ps.drop (ws.length - r.length)) len ∧ w.grownBy w' (some R)
theorem rdr_ps {w : World} {B R : Nat} {x : Wd} {ws : List Wd} {ps : List Int} {len : Int} (h : Rdr w B R (x :: ws) ps len) : ∃ p ps', ps = p :: ps' := by
  obtain ⟨_, _, _, _, _, _, _, h3, _⟩ := h
  cases ps with
  | nil => simp at h3
  | cons p ps' => exact ⟨p, ps', rfl⟩
theorem rdr_len {w : World} {B R : Nat} {ws : List Wd} {ps : List Int} {len : Int} (h : Rdr w B R ws ps len) : ps.length = ws.length := by
  obtain ⟨_, _, _, _, _, _, _, h3, _⟩ := h
  exact h3
theorem cond_any (ws : List Wd) (ps : List Int) (len : Int) (B R : Nat) (w : World) (hE : Env w) (hEE : EnvE w) (hR : NG ≤ R) (hl : ∀ x, x ∈ ws → x.length ≤ 2000) (h : Rdr w B R ws ps len) :
    Calls Tryz.prog 74 #[.pointer (some ⟨R, 0, none⟩)] w (CndAny B R ws ps len w) := by
  cases ws with
  | nil =>
    refine (cond_none ps len B R w h).mono ?_
    rintro e w' ⟨h1, h2, h3⟩
    unfold CndAny
    rw [cndR_nil]
    exact ⟨h1, by simpa using h2, h3⟩
  | cons x ws =>
    obtain ⟨p, ps, rfl⟩ := rdr_ps h
    by_cases hx : idxW fdL x < 0
    · refine (cond_unknown x ws (p :: ps) len B R w h hx).mono ?_
      rintro e w' ⟨h1, h2, h3⟩
      unfold CndAny
      rw [cndR_unk hx]
      exact ⟨h1, by simpa using h2, h3⟩
    · cases ws with
      | nil =>
        have hp : ps = [] := List.eq_nil_of_length_eq_zero (by simpa using rdr_len h)
        subst hp
        refine (cond_op_fell x [] p [] len B R 3 w h (by decide) hx (fun w1 G hr _ => name_none [] len B R w1 _ 3 hr)).mono ?_
        rintro e w' ⟨h1, h2, h3⟩
        unfold CndAny
        rw [cndR_one hx]
        exact ⟨h1, by simpa using h2, h3⟩
      | cons o vs =>
        obtain ⟨p2, ps, rfl⟩ : ∃ p2 ps', ps = p2 :: ps' := by
          have := rdr_len h
          cases ps with
          | nil => simp at this
          | cons p2 ps' => exact ⟨p2, ps', rfl⟩
        by_cases ho : idxW (opL.take (opN (idxW fdL x))) o < 0
        · refine (cond_op_fell x (o :: vs) p (p2 :: ps) len B R 3 w h (by decide) hx (fun w1 G hr hc => name_bad o vs (p2 :: ps) len B R w1 opL G (opN (idxW fdL x)) 6 3 hr hc (by unfold opN; split <;> decide) (by decide) ho)).mono ?_
          rintro e w' ⟨h1, h2, h3⟩
          unfold CndAny
          rw [cndR_op hx ho]
          exact ⟨h1, by simpa using h2, h3⟩
        · cases vs with
          | nil =>
            have hp : ps = [] := List.eq_nil_of_length_eq_zero (by simpa using rdr_len h)
            subst hp
            refine (cond_val x o [] [] p p2 [] [] len B R 0 3 w h hx ho (fun w1 hr hg => (value_none _ [] len B R w1 hr).mono fun e w' h => h)).mono ?_
            rintro e w' ⟨h1, h2, h3⟩
            unfold CndAny
            rw [cndR_two hx ho]
            exact ⟨⟨_, _, _, h1⟩, by simpa using h2, h3⟩
          | cons v r =>
            obtain ⟨p3, ps, rfl⟩ : ∃ p3 ps', ps = p3 :: ps' := by
              have := rdr_len h
              cases ps with
              | nil => simp at this
              | cons p3 ps' => exact ⟨p3, ps', rfl⟩
            have hval : ∀ w1 : World, Rdr w1 B R (v :: r) (p3 :: ps) len → w.grownBy w1 (some R) → Calls Tryz.prog 101 #[.pointer (some ⟨R, 0, none⟩), .int .i64 (idxW fdL x)] w1 (ValAny B R v r p3 ps len (valO (idxW fdL x) v) w1) := fun w1 hr hg =>
              value_some (idxW fdL x) v r p3 ps len B R w1 (env_grown hE hg hR) (enve_grown hEE hE hg hR) (hl v (by simp)) hr
            by_cases hv : (valO (idxW fdL x) v).2 = 0
            · refine (cond_val x o (v :: r) r p p2 (p3 :: ps) ps len B R (valO (idxW fdL x) v).1 0 w h hx ho (fun w1 hr hg => (hval w1 hr hg).mono fun e w' h => ?_)).mono ?_
              · rcases h with ⟨_, h1, h2, h3⟩ | ⟨hn, _⟩
                · refine ⟨?_, h2, h3⟩
                  rw [h1]; unfold twoV; rw [hv]
                · exact absurd hv hn
              · rintro e w' ⟨h1, h2, h3⟩
                unfold CndAny
                rw [cndR_ok hx ho hv]
                refine ⟨h1, ?_, h3⟩
                have e1 : (x :: o :: v :: r).length - r.length = 3 := by simp only [List.length_cons]; omega
                rw [e1]; exact h2
            · refine (cond_val x o (v :: r) (v :: r) p p2 (p3 :: ps) (p3 :: ps) len B R (valO (idxW fdL x) v).1 (valO (idxW fdL x) v).2 w h hx ho (fun w1 hr hg => (hval w1 hr hg).mono fun e w' h => ?_)).mono ?_
              · rcases h with ⟨hn, _⟩ | ⟨_, h1, h2, h3⟩
                · exact absurd hn hv
                · exact ⟨h1, h2, h3⟩
              · rintro e w' ⟨h1, h2, h3⟩
                unfold CndAny
                rw [cndR_bad hx ho hv]
                refine ⟨⟨_, _, _, h1⟩, ?_, h3⟩
                have e1 : (x :: o :: v :: r).length - (v :: r).length = 2 := by simp only [List.length_cons]; omega
                rw [e1]; exact h2
end Go.Proofs.YtfnlddloalineaaGreatDoor
