/-
  The reference's Run: what stands while its rows are made.
-/
import Derived.Test.YtfnlddloalineaaGreatDoorRunX
namespace Go.Proofs.YtfnlddloalineaaGreatDoor
open Go.RowKit
set_option linter.unusedVariables false
set_option linter.unusedSimpArgs false
set_option maxRecDepth 100000
theorem rmoneyv_any (n : Int) (w : World) : Calls Tryz.prog 68 #[.int .i64 n] w fun e w' => e = .returned (.bool (decide (-1000000000000 ≤ n) && decide (n ≤ 1000000000000))) ∧ w = w' := by
  by_cases h0 : -1000000000000 ≤ n
  · rw [decide_eq_true h0]
    by_cases h1 : n ≤ 1000000000000
    · rw [decide_eq_true h1]
      have y0 : decide (-1000000000000 ≤ n) = true := decide_eq_true h0
      have y1 : decide (n ≤ 1000000000000) = true := decide_eq_true h1
      go_enter Tryz.func68, Tryz.ntmps68
      go_wp2_with fail
      go_ret
      exact ⟨rfl, rfl⟩
    · rw [decide_eq_false h1]
      have y0 : decide (-1000000000000 ≤ n) = true := decide_eq_true h0
      have y1 : decide (n ≤ 1000000000000) = false := decide_eq_false h1
      go_enter Tryz.func68, Tryz.ntmps68
      go_wp2_with fail
      go_ret
      exact ⟨rfl, rfl⟩
  · rw [decide_eq_false h0]
    have y0 : decide (-1000000000000 ≤ n) = false := decide_eq_false h0
    go_enter Tryz.func68, Tryz.ntmps68
    go_wp2_with fail
    go_ret
    exact ⟨rfl, rfl⟩
structure RfS (w : World) (X b0 : Nat) (verb : Int) (vb vw : Value) (AF : Option Addr) (n cF : Nat) (F : List SFact) (nb : Nat) (l : List (K5 × Int)) (rs : List RRow) (v : Value) (x : World) : Prop where
  below : Below w.heap.size w x
  hb0 : w.heap.size ≤ b0
  hx : b0 ≤ x.heap.size
  qb : Blk x X 32 #[.int .i64 verb, vb, vw]
  fct : x.ownsRow b0 55 6 (.slice AF n cF) n (fctsC F)
  row : x.ownsRow b0 128 2 v rs.length (rrowsC rs)
  rel : RelS nb rs l
  ks : ∀ r, r ∈ rs → r.n = nb ∧ r.ks.length = nb ∧ x.ownsRow b0 3 1 (.slice r.A r.n r.c) r.n (r.ks.map intV)
theorem RfS.same {w x y : World} {X b0 : Nat} {verb : Int} {vb vw : Value} {AF : Option Addr} {n cF : Nat} {F : List SFact} {nb : Nat} {l : List (K5 × Int)} {rs : List RRow} {v : Value} (h : RfS w X b0 verb vb vw AF n cF F nb l rs v x) (hb : Below x.heap.size x y) : RfS w X b0 verb vb vw AF n cF F nb l rs v y :=
  ⟨below_two h.below hb, h.hb0, Nat.le_trans h.hx hb.size, h.qb.below hb h.qb.lt, own_below h.fct hb, own_below h.row hb, h.rel, fun r hr => ⟨(h.ks r hr).1, (h.ks r hr).2.1, own_below (h.ks r hr).2.2 hb⟩⟩
theorem RfS.rin {w x : World} {X b0 : Nat} {verb : Int} {vb vw : Value} {AF : Option Addr} {n cF : Nat} {F : List SFact} {nb : Nat} {l : List (K5 × Int)} {rs : List RRow} {v : Value} (h : RfS w X b0 verb vb vw AF n cF F nb l rs v x) : RIn x nb rs := fun j hj => by
  have hmem : rs.getD j default ∈ rs := by
    have e : rs.getD j default = rs[j] := by simp [List.getD, hj]
    rw [e]; exact List.getElem_mem hj
  obtain ⟨h1, h2, h3⟩ := h.ks _ hmem
  exact ⟨h1, h2, rdby_own h3 (by rw [h2, h1])⟩
theorem RfS.put {w x w' : World} {X b0 : Nat} {verb : Int} {vb vw : Value} {AF : Option Addr} {n cF : Nat} {F : List SFact} {nb : Nat} {l : List (K5 × Int)} {rs : List RRow} {v : Value} (h : RfS w X b0 verb vb vw AF n cF F nb l rs v x) {key : K5} (hk : TailZ nb key) (hnb : nb ≤ 5) {a : Int} {A : Option Addr} {c : Nat} {e : Ending}
    (hA : x.ownsRow b0 3 1 (.slice A nb c) nb ((key.l.take nb).map intV)) (hs : PutSays rs (key.l.take nb) a A nb c b0 v x e w') : ∃ v' rs', e = .returned v' ∧ RfS w X b0 verb vb vw AF n cF F nb (putS l key a) rs' v' w' := by
  obtain ⟨i, hi, h1, h2, h3⟩ := hs
  have hpos := put_pos h.rel hk hi h1 h2
  have hkl : (key.l.take nb).length = nb := by rw [List.length_take, l_len]; omega
  rcases h3 with ⟨hi2, h4, rfl, ho, hg⟩ | ⟨h4, v', ks', rfl, ho, hb⟩
  · refine ⟨v, _, rfl, h.below.grown hg h.below.size (fun r e => Nat.le_trans h.hb0 (own_base h.row r e)), h.hb0, Nat.le_trans h.hx hg.size, h.qb.grown hg (fun e => own_blk_ne h.row h.qb (by decide) e.symm), h.fct.kept hg (own_own_ne h.fct h.row (by decide)), ?_, put_old_rel h.rel hk hpos hi2 h4, fun r hr => ?_⟩
    · rw [List.length_set]; exact ho
    · rcases List.mem_or_eq_of_mem_set hr with hr | rfl
      · obtain ⟨k1, k2, k3⟩ := h.ks r hr
        exact ⟨k1, k2, k3.kept hg (own_own_ne k3 h.row (by decide))⟩
      · have hmem : rs.getD i default ∈ rs := by
          have e : rs.getD i default = rs[i] := by simp [List.getD, hi2]
          rw [e]; exact List.getElem_mem hi2
        obtain ⟨k1, k2, k3⟩ := h.ks _ hmem
        exact ⟨k1, k2, k3.kept hg (own_own_ne k3 h.row (by decide))⟩
  · refine ⟨v', rs.take i ++ ⟨A, nb, c, key.l.take nb, a⟩ :: rs.drop i, rfl, below_two h.below hb, h.hb0, Nat.le_trans h.hx hb.size, h.qb.below hb h.qb.lt, own_below h.fct hb, ?_, put_new_rel h.rel hk hpos h4, fun r hr => ?_⟩
    · have hl : (rs.take i ++ (⟨A, nb, c, key.l.take nb, a⟩ : RRow) :: rs.drop i).length = rs.length + 1 := by
        rw [List.length_append, List.length_cons, List.length_take, List.length_drop]; omega
      rw [hl, rrows_ks _ _ A nb c (key.l.take nb) ks' a]
      exact own_low ho h.hx
    · rcases List.mem_append.1 hr with hr | hr
      · obtain ⟨k1, k2, k3⟩ := h.ks r (List.mem_of_mem_take hr)
        exact ⟨k1, k2, own_below k3 hb⟩
      · rcases List.mem_cons.1 hr with rfl | hr
        · exact ⟨rfl, hkl, own_below hA hb⟩
        · obtain ⟨k1, k2, k3⟩ := h.ks r (List.mem_of_mem_drop hr)
          exact ⟨k1, k2, own_below k3 hb⟩
/-- no sum of the reference is great -/
theorem sumsI_small {verb : Int} {byl : List Int} {p : SFact → Bool} {F : List SFact} (h : ∀ j, j < F.length → smallA (F.getD j default).amt) {k : Nat} (hk : k ≤ F.length) {q : K5 × Int} (hq : q ∈ sumsI verb byl p (F.take k)) : q.2 ≤ (k : Int) * 1125899906842624 ∧ -((k : Int) * 1125899906842624) ≤ q.2 := by
  obtain ⟨h1, _, h3⟩ := sums_same (verb := verb) (byl := byl) (p := p) (F := F) k hk
  have h4 := sumsR_small (verb := verb) (byl := byl) (p := p) h k hk q.1
  rw [← h3] at h4
  have h5 : getM (sumsI verb byl p (F.take k)) q.1 = q.2 := by
    rw [rise_map h1] at hq
    obtain ⟨x, hx, e⟩ := List.mem_map.1 hq
    rw [← e]
  rw [h5] at h4
  exact h4
theorem putS_len (l : List (K5 × Int)) (k : K5) (n : Int) : (putS l k n).length ≤ l.length + 1 := by
  induction l with
  | nil => exact Nat.le_refl _
  | cons p r ih =>
    rw [putS]
    split
    · simp only [List.length_cons]; omega
    · split <;> simp
theorem sumsI_len {verb : Int} {byl : List Int} {p : SFact → Bool} {F : List SFact} : ∀ k, k ≤ F.length → (sumsI verb byl p (F.take k)).length ≤ 1 + k := by
  intro k
  induction k with
  | zero =>
    intro _
    rw [List.take_zero]
    unfold sumsI startR
    rw [List.foldl_nil]
    split <;> simp
  | succ k ih =>
    intro h
    have h1 := ih (by omega)
    rw [sumsI_step (by omega)]
    split
    · have := putS_len (sumsI verb byl p (F.take k)) (keyF byl (F.getD k default)) (addF verb (F.getD k default))
      omega
    · omega
/-- a slice of one row, newly laid -/
theorem row_new (w : World) (T : TypeId) (base size : Nat) (cs : Array Value) (hs : cs.size = 1 * size) (hb : base ≤ w.heap.size) : (w.alloc (.cells cs T)).ownsRow base T size (.slice (some ⟨w.heap.size, 0, none⟩) 1 1) 1 cs.toList :=
  ⟨by rw [Array.length_toList]; exact hs, .inr ⟨w.heap.size, 1, cs, rfl, hb, (MapKept.heap_alloc w _).1, Nat.le_refl _, by simp only [maxLen]; omega, hs, by rw [List.take_of_length_le (by rw [Array.length_toList, hs]; exact Nat.le_refl _)]⟩⟩
end Go.Proofs.YtfnlddloalineaaGreatDoor
