/-
  The program's reader: query, what its parts need (plain laws, and the state between two steps).
-/
import Derived.Test.YtfnlddloalineaaGreatDoorQryW13
namespace Go.Proofs.YtfnlddloalineaaGreatDoor
open Go.RowKit
set_option linter.unusedVariables false
theorem cndR_ok_suf {ws r : List Wd} {c : SCond} (h : cndR ws = .ok (c, r)) : ∃ a, ws = a ++ r ∧ a.length = 3 := by
  cases ws with
  | nil => cases h
  | cons x ws =>
    by_cases hx : idxW fdL x < 0
    · rw [cndR_unk hx] at h; cases h
    · cases ws with
      | nil => rw [cndR_one hx] at h; cases h
      | cons o vs =>
        by_cases ho : idxW (opL.take (opN (idxW fdL x))) o < 0
        · rw [cndR_op hx ho] at h; cases h
        · cases vs with
          | nil => rw [cndR_two hx ho] at h; cases h
          | cons v r' =>
            by_cases hv : (valO (idxW fdL x) v).2 = 0
            · rw [cndR_ok hx ho hv] at h
              injection h with h
              injection h with _ h
              exact ⟨[x, o, v], by rw [← h]; rfl, rfl⟩
            · rw [cndR_bad hx ho hv] at h; cases h
theorem cndR_err_suf {ws r : List Wd} {E : Int} (h : cndR ws = .error (r, E)) : ∃ a, ws = a ++ r := by
  cases ws with
  | nil => rw [cndR_nil] at h; injection h with h; injection h with h _; exact ⟨[], by rw [← h]; rfl⟩
  | cons x ws =>
    by_cases hx : idxW fdL x < 0
    · rw [cndR_unk hx] at h; injection h with h; injection h with h _; exact ⟨[], by rw [← h]; rfl⟩
    · cases ws with
      | nil => rw [cndR_one hx] at h; injection h with h; injection h with h _; exact ⟨[x], by rw [← h]; rfl⟩
      | cons o vs =>
        by_cases ho : idxW (opL.take (opN (idxW fdL x))) o < 0
        · rw [cndR_op hx ho] at h; injection h with h; injection h with h _; exact ⟨[x], by rw [← h]; rfl⟩
        · cases vs with
          | nil => rw [cndR_two hx ho] at h; injection h with h; injection h with h _; exact ⟨[x, o], by rw [← h]; rfl⟩
          | cons v r' =>
            by_cases hv : (valO (idxW fdL x) v).2 = 0
            · rw [cndR_ok hx ho hv] at h; cases h
            · rw [cndR_bad hx ho hv] at h; injection h with h; injection h with h _; exact ⟨[x, o], by rw [← h]; rfl⟩
theorem whR_full {acc : List SCond} {ws : List Wd} (h : ws ≠ []) : whR 0 acc ws = .error (ws, 6) := by
  unfold whR; rw [if_neg h]
theorem whR_err {n : Nat} {acc : List SCond} {ws : List Wd} {p : List Wd × Int} (hc : cndR ws = .error p) (hn : 0 < n ∨ ws = []) : whR n acc ws = .error p := by
  cases n with
  | zero =>
    rcases hn with h | h
    · omega
    · subst h
      rw [cndR_nil] at hc
      injection hc with hc
      rw [← hc]; rfl
  | succ n => rw [whR, hc]
theorem whR_end {n : Nat} {acc : List SCond} {ws : List Wd} {c : SCond} (hc : cndR ws = .ok (c, [])) : whR (n + 1) acc ws = .ok (acc ++ [c]) := by
  rw [whR, hc]
theorem whR_and {n : Nat} {acc : List SCond} {ws r : List Wd} {c : SCond} (hc : cndR ws = .ok (c, andW :: r)) : whR (n + 1) acc ws = whR n (acc ++ [c]) r := by
  rw [whR, hc]; exact if_pos rfl
theorem whR_bad {n : Nat} {acc : List SCond} {ws r : List Wd} {c : SCond} {y : Wd} (hc : cndR ws = .ok (c, y :: r)) (hy : y ≠ andW) : whR (n + 1) acc ws = .error (y :: r, 3) := by
  rw [whR, hc]; exact if_neg hy
theorem tailR_where {verb : Int} {by_ : List Int} {r : List Wd} : tailR verb by_ (whereW :: r) = (match whR 20 [] r with | .error p => .error p | .ok cs => .ok ⟨verb, by_, cs⟩) := by
  unfold tailR; exact if_pos rfl
theorem tailR_bad {verb : Int} {by_ : List Int} {x : Wd} {r : List Wd} (h : x ≠ whereW) : tailR verb by_ (x :: r) = .error (x :: r, 3) := by
  unfold tailR; exact if_neg h
theorem qryR_verb {v : Wd} {ws : List Wd} (h : idxW vbL v < 0) : qryR (v :: ws) = .error (v :: ws, 3) := by
  rw [qryR.eq_def]; exact if_pos h
theorem qryR_one {v : Wd} (h : ¬ idxW vbL v < 0) : qryR [v] = tailR (idxW vbL v) [] [] := by
  rw [qryR.eq_def]; exact if_neg h
theorem qryR_plain {v b : Wd} {ws : List Wd} (h : ¬ idxW vbL v < 0) (hb : b ≠ byW) : qryR (v :: b :: ws) = tailR (idxW vbL v) [] (b :: ws) := by
  rw [qryR.eq_def]; exact (if_neg h).trans (if_neg hb)
theorem qryR_by0 {v : Wd} (h : ¬ idxW vbL v < 0) : qryR [v, byW] = .error ([], 3) := by
  rw [qryR.eq_def]; exact (if_neg h).trans (if_pos rfl)
theorem qryR_by {v f : Wd} {ws : List Wd} (h : ¬ idxW vbL v < 0) : qryR (v :: byW :: f :: ws) = (match byR f with | .error e => .error (f :: ws, e) | .ok l => tailR (idxW vbL v) l ws) := by
  rw [qryR.eq_def]; exact (if_neg h).trans (if_pos rfl)
theorem byR_err {f : Wd} {E : Int} (h : byR f = .error E) : E ≠ 0 := by
  unfold byR at h
  split at h
  · injection h; omega
  · split at h
    · injection h; omega
    · cases h
theorem byR_len {f : Wd} {l : List Int} (h : byR f = .ok l) : l.length ≤ f.length + 1 := by
  unfold byR at h
  split at h
  · cases h
  · split at h
    · cases h
    · injection h with h
      rw [← h]
      unfold byN
      rw [List.length_map]
      have h2 := plSum_len (piecesL 44 f)
      have h3 := pieces_sum 44 f
      omega
/-- conditions, as cells -/
def cndC (l : List SCond) : List Value := l.flatMap fun c => [.int .i64 c.f, .int .i64 c.o, .int .i64 c.v]
theorem cndC_app (l : List SCond) (c : SCond) : cndC (l ++ [c]) = cndC l ++ [.int .i64 c.f, .int .i64 c.o, .int .i64 c.v] := by
  unfold cndC
  rw [List.flatMap_append]; rfl
/-- the state between two steps: the reader, the result's block, the query's block, its two slices -/
structure QSt (w : World) (B R : Nat) (rs : List Wd) (ps : List Int) (len verb : Int) (byl : List Int) (byv : Value) (whl : List SCond) (whv : Value) (x : World) : Prop where
  rdr : Rdr x B R rs ps len
  res : Blk x w.heap.size 26 #[.int .i64 0, .slice none 0 0, .slice none 0 0]
  qry : Blk x (w.heap.size + 1) 26 #[.int .i64 verb, byv, whv]
  byo : x.ownsRow (w.heap.size + 1 + 1) 3 1 byv byl.length (byl.map intV)
  who : x.ownsRow (w.heap.size + 1 + 1) 95 3 whv whl.length (cndC whl)
  grown : w.grownBy x (some R)
  low : R < w.heap.size
  lowB : B ≤ w.heap.size
theorem QSt.size {w x : World} {B R : Nat} {rs : List Wd} {ps : List Int} {len verb : Int} {byl : List Int} {byv : Value} {whl : List SCond} {whv : Value} (h : QSt w B R rs ps len verb byl byv whl whv x) : w.heap.size + 1 + 1 ≤ x.heap.size := h.qry.lt
theorem QSt.turn {w x y : World} {B R : Nat} {rs rs' : List Wd} {ps ps' : List Int} {len verb : Int} {byl : List Int} {byv : Value} {whl : List SCond} {whv : Value} (h : QSt w B R rs ps len verb byl byv whl whv x) (hr : Rdr y B R rs' ps' len) (hg : x.grownBy y (some R)) : QSt w B R rs' ps' len verb byl byv whl whv y where
  rdr := hr
  res := h.res.grown hg (by intro e; injection e; have := h.low; omega)
  qry := h.qry.grown hg (by intro e; injection e; have := h.low; omega)
  byo := h.byo.kept hg (.inr (by intro e; have := own_base h.byo R e; have := h.low; omega))
  who := h.who.kept hg (.inr (by intro e; have := own_base h.who R e; have := h.low; omega))
  grown := World.grownBy.trans h.grown hg
  low := h.low
  lowB := h.lowB
theorem QSt.same {w x y : World} {B R : Nat} {rs : List Wd} {ps : List Int} {len verb : Int} {byl : List Int} {byv : Value} {whl : List SCond} {whv : Value} (h : QSt w B R rs ps len verb byl byv whl whv x) (hb : Below x.heap.size x y) : QSt w B R rs ps len verb byl byv whl whv y :=
  h.turn (h.rdr.below hb) (grown_of_below hb (some R))
/-- what stands when the query's cells have been laid into the result's -/
theorem QSt.fin {w x : World} {B R : Nat} {rs : List Wd} {ps : List Int} {len verb : Int} {byl : List Int} {byv : Value} {whl : List SCond} {whv : Value} (h : QSt w B R rs ps len verb byl byv whl whv x) :
    ∀ y, y = ((x.setCell ⟨w.heap.size, 0, none⟩ (.int .i64 verb)).setCell ⟨w.heap.size, 1, none⟩ byv).setCell ⟨w.heap.size, 2, none⟩ whv →
      Rdr y B R rs ps len ∧ Blk y w.heap.size 26 #[.int .i64 verb, byv, whv] ∧ y.ownsRow w.heap.size 3 1 byv byl.length (byl.map intV) ∧ y.ownsRow w.heap.size 95 3 whv whl.length (cndC whl) ∧ w.grownBy y (some R) := by
  rintro y rfl
  have hn1 : ∀ {e : TypeId} {size n : Nat} {v : Value} {xs : List Value} {z : World}, z.ownsRow (w.heap.size + 1 + 1) e size v n xs → ∀ (j : Nat) (u : Value), (z.setCell ⟨w.heap.size, j, none⟩ u).ownsRow (w.heap.size + 1 + 1) e size v n xs := fun ho j u =>
    ownsRow_setCell_other ho (a := ⟨w.heap.size, j, none⟩) (by intro e; have := own_base ho _ e; simp only [] at this; omega) u
  have hb := (((Below.refl B x).setCell (p := ⟨w.heap.size, 0, none⟩) h.lowB (.int .i64 verb)).setCell (p := ⟨w.heap.size, 1, none⟩) h.lowB byv).setCell (p := ⟨w.heap.size, 2, none⟩) h.lowB whv
  exact ⟨h.rdr.low hb, set3 h.res, own_low (hn1 (hn1 (hn1 h.byo _ _) _ _) _ _) (by omega), own_low (hn1 (hn1 (hn1 h.who _ _) _ _) _ _) (by omega), grown_new (grown_new (grown_new h.grown (Nat.le_refl _) _ _) (Nat.le_refl _) _ _) (Nat.le_refl _) _ _⟩
/-- how query ends -/
def QrySays (B R : Nat) (ws : List Wd) (ps : List Int) (len : Int) (w : World) (e : Ending) (w' : World) : Prop := match qryR ws with
  | .error (r, E) => (∃ a A n c A' n' c', e = .returned (.tuple #[.agg #[.int .i64 a, .slice A n c, .slice A' n' c'], .int .i64 E])) ∧ Rdr w' B R r (ps.drop (ws.length - r.length)) len ∧ w.grownBy w' (some R)
  | .ok q => ∃ vb vw, e = .returned (.tuple #[.agg #[.int .i64 q.verb, vb, vw], .int .i64 0]) ∧ w'.ownsRow w.heap.size 3 1 vb q.by_.length (q.by_.map intV) ∧ w'.ownsRow w.heap.size 95 3 vw q.wh.length (cndC q.wh) ∧ w.grownBy w' (some R)
/-- words are left of others: their places -/
def Suf (ws : List Wd) (ps : List Int) (rs : List Wd) (qs : List Int) : Prop := (∃ a, ws = a ++ rs) ∧ qs = ps.drop (ws.length - rs.length)
theorem Suf.refl (ws : List Wd) (ps : List Int) : Suf ws ps ws ps := ⟨⟨[], rfl⟩, by simp⟩
theorem Suf.step {ws rs : List Wd} {ps qs : List Int} {x : Wd} {q : Int} (h : Suf ws ps (x :: rs) (q :: qs)) : Suf ws ps rs qs := by
  obtain ⟨⟨a, rfl⟩, h2⟩ := h
  refine ⟨⟨a ++ [x], by simp⟩, ?_⟩
  have e1 : (a ++ x :: rs).length - (x :: rs).length = a.length := by simp
  have e2 : (a ++ x :: rs).length - rs.length = a.length + 1 := by simp only [List.length_append, List.length_cons]; omega
  rw [e1] at h2
  rw [e2, ← List.tail_drop, ← h2]; rfl
theorem Suf.far {ws rs r : List Wd} {ps qs : List Int} (h : Suf ws ps rs qs) (hr : ∃ a, rs = a ++ r) : Suf ws ps r (qs.drop (rs.length - r.length)) := by
  obtain ⟨⟨a, rfl⟩, h2⟩ := h
  obtain ⟨b, rfl⟩ := hr
  refine ⟨⟨a ++ b, by simp⟩, ?_⟩
  rw [h2, List.drop_drop]
  congr 1
  simp only [List.length_append]
  omega
theorem Suf.mem {ws rs : List Wd} {ps qs : List Int} (h : Suf ws ps rs qs) {x : Wd} (hx : x ∈ rs) : x ∈ ws := by
  obtain ⟨⟨a, rfl⟩, _⟩ := h
  exact List.mem_append_right _ hx
theorem Suf.len {ws rs : List Wd} {ps qs : List Int} (h : Suf ws ps rs qs) : rs.length ≤ ws.length := by
  obtain ⟨⟨a, rfl⟩, _⟩ := h
  simp
theorem Suf.plen {ws rs : List Wd} {ps qs : List Int} (h : Suf ws ps rs qs) (hp : ps.length = ws.length) : qs.length = rs.length := by
  have := h.len
  rw [h.2, List.length_drop]
  omega
end Go.Proofs.YtfnlddloalineaaGreatDoor
