/-
  The pieces of a text between its separators; strings.Split.
-/
import Derived.Test.YtfnlddloalineaaGreatDoorQryW1
import Derived.Lib.SplitLaws
namespace Go.Proofs.YtfnlddloalineaaGreatDoor
open Go.RowKit
set_option linter.unusedVariables false
/-- the pieces of a text between the bytes c -/
def piecesL (c : UInt8) : List UInt8 → List (List UInt8)
  | [] => [[]]
  | b :: r => if b = c then [] :: piecesL c r else match piecesL c r with
    | [] => [[b]]
    | w :: ws => (b :: w) :: ws
theorem piecesL_ne (c : UInt8) (l : List UInt8) : piecesL c l ≠ [] := by
  cases l with
  | nil => simp [piecesL]
  | cons b r =>
    simp only [piecesL]
    split
    · simp
    · split <;> simp
theorem piecesL_no {c : UInt8} {l : List UInt8} (h : c ∉ l) : piecesL c l = [l] := by
  induction l with
  | nil => rfl
  | cons b r ih =>
    simp only [piecesL]
    rw [if_neg (fun e => h (by rw [e]; simp)), ih (fun hm => h (by simp [hm]))]
theorem piecesL_at {c : UInt8} {a b : List UInt8} (h : c ∉ a) : piecesL c (a ++ c :: b) = a :: piecesL c b := by
  induction a with
  | nil => simp [piecesL]
  | cons x r ih =>
    rw [List.cons_append]
    simp only [piecesL]
    rw [if_neg (fun e => h (by rw [e]; simp)), ih (fun hm => h (by simp [hm]))]
def plSum : List (List UInt8) → Nat
  | [] => 0
  | x :: r => x.length + 1 + plSum r
theorem pieces_sum (c : UInt8) (l : List UInt8) : plSum (piecesL c l) = l.length + 1 := by
  induction l with
  | nil => rfl
  | cons b r ih =>
    simp only [piecesL]
    split
    · simp only [plSum, ih, List.length_nil, List.length_cons]; omega
    · split
      · rename_i h; exact absurd h (piecesL_ne c r)
      · rename_i y ys h
        rw [h] at ih
        simp only [plSum, List.length_cons] at ih ⊢
        omega
/-- the place of the k-th word -/
def plS (ws : List (List UInt8)) (k : Nat) : Nat := plSum (ws.take k)
theorem plS_succ {ws : List (List UInt8)} {k : Nat} (h : k < ws.length) : plS ws (k + 1) = plS ws k + ((ws.getD k []).length + 1) := by
  unfold plS
  induction ws generalizing k with
  | nil => simp at h
  | cons x r ih =>
    cases k with
    | zero => simp [plSum]
    | succ k =>
      have := ih (k := k) (by simpa using h)
      simp only [List.take_succ_cons, plSum, List.getD_cons_succ]
      omega
theorem plS_le (ws : List (List UInt8)) (k : Nat) : plS ws k ≤ plSum ws := by
  unfold plS
  induction ws generalizing k with
  | nil => simp [plSum]
  | cons x r ih =>
    cases k with
    | zero => simp [plSum]
    | succ k =>
      have := ih k
      simp only [List.take_succ_cons, plSum]
      omega
theorem plSum_len (ws : List (List UInt8)) : ws.length ≤ plSum ws := by
  induction ws with
  | nil => simp
  | cons x r ih => simp only [plSum, List.length_cons]; omega
theorem splitK_pieces : ∀ (k : Nat) (l : List UInt8), l.count 32 ≤ k → Lib.splitK [32] 0 k l = piecesL 32 l := by
  intro k
  induction k with
  | zero =>
    intro l h
    have : (32 : UInt8) ∉ l := by
      intro hm
      have := List.count_pos_iff.2 hm
      omega
    rw [piecesL_no this]; rfl
  | succ k ih =>
    intro l h
    by_cases hm : (32 : UInt8) ∈ l
    · obtain ⟨a, b, rfl, ha⟩ := split_at hm
      have e1 := index_one_at (a := a) (b := b) ha
      have hc : b.count 32 ≤ k := by
        rw [List.count_append, List.count_cons_self] at h
        omega
      unfold Lib.splitK
      rw [e1, if_neg (by rw [beq_iff_eq]; omega), piecesL_at ha, ← ih b hc]
      congr 1
      · simp
      · congr 1
        simp
    · have e1 := index_one_no hm
      unfold Lib.splitK
      rw [e1, piecesL_no hm]; rfl
theorem split_pieces (l : List UInt8) : Lib.splitB ⟨#[32]⟩ 0 (Lib.countB ⟨l.toArray⟩ ⟨#[32]⟩) ⟨l.toArray⟩ = (piecesL 32 l).map fun x => (⟨x.toArray⟩ : ByteArray) := by
  have h := Lib.splitB_data ⟨#[32]⟩ 0 (Lib.countB ⟨l.toArray⟩ ⟨#[32]⟩) ⟨l.toArray⟩
  have e : Lib.splitK [32] 0 (Lib.countB ⟨l.toArray⟩ ⟨#[32]⟩) l = piecesL 32 l := by
    apply splitK_pieces
    show l.count 32 ≤ Lib.count l [32]
    rw [Lib.count_one]
    exact Nat.le_refl _
  have h2 : (Lib.splitB ⟨#[32]⟩ 0 (Lib.countB ⟨l.toArray⟩ ⟨#[32]⟩) ⟨l.toArray⟩).map (·.data.toList) = piecesL 32 l := h.trans e
  rw [← h2, List.map_map]
  conv => lhs; rw [← List.map_id (Lib.splitB ⟨#[32]⟩ 0 (Lib.countB ⟨l.toArray⟩ ⟨#[32]⟩) ⟨l.toArray⟩)]
  apply List.map_congr_left
  intro b _
  rfl
theorem split_any (l : List UInt8) (w : World) (hE : Env w) (hl : l.length ≤ 4294967000) :
    Calls Tryz.prog 69 #[.string ⟨l.toArray⟩, .string ⟨#[32]⟩] w fun e w' => e = .returned (.slice (some ⟨w.heap.size, 0, none⟩) (piecesL 32 l).length (piecesL 32 l).length) ∧ Blk w' w.heap.size 9 ((piecesL 32 l).map strV).toArray ∧ Below w.heap.size w w' := by
  obtain ⟨m, hm⟩ := hE.maxlen
  refine (Tryz.strings_Split ⟨l.toArray⟩ ⟨#[32]⟩ m w (by rw [mk_size]; omega) hm (by decide)).mono ?_
  rintro e w1 ⟨rfl, rfl⟩
  have hn := Lib.splitB_all ⟨#[32]⟩ (by decide) 0 _ ⟨l.toArray⟩ rfl
  rw [split_pieces, List.length_map] at hn
  refine ⟨by rw [hn], ?_, (Below.refl w.heap.size w).alloc (Nat.le_refl _) _⟩
  rw [split_pieces, List.map_map]
  exact Blk.new w _ _
end Go.Proofs.YtfnlddloalineaaGreatDoor
