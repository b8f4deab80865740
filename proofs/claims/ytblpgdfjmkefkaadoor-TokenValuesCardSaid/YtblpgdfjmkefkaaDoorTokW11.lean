/-
  from, Same, Join, Keyword.
-/
import Derived.Test.YtblpgdfjmkefkaaDoorTokW10
namespace Go.Proofs.YtblpgdfjmkefkaaDoor
open Go.RowKit
set_option linter.unusedVariables false
theorem tokCells_at {ts : List Tok} {k j : Nat} (h : k < ts.length) (hj : j < 3) : (tokCells ts)[k * 3 + j]? = (tokRow (ts.getD k ⟨0, [], 0⟩))[j]? := by
  induction ts generalizing k with
  | nil => simp at h
  | cons t r ih =>
    unfold tokCells
    rw [List.flatMap_cons]
    cases k with
    | zero =>
      rw [List.getElem?_append_left (by simp [tokRow]; omega)]
      simp
    | succ k =>
      rw [List.getElem?_append_right (by simp [tokRow]; omega), show (k + 1) * 3 + j - (tokRow t).length = k * 3 + j from by simp [tokRow]; omega]
      have := ih (k := k) (by simpa using h)
      simpa [tokCells] using this
theorem add_pos (a : Addr) (n : Nat) (h : n ≠ 0) : a.add n = ⟨a.block, a.off + n, none⟩ := by unfold Addr.add; rw [if_neg h]
theorem Reads.tok_at {w : World} {B n k : Nat} {A : Option Addr} {ts : List Tok} (h : Reads w B 3 A n (tokCells ts)) (hk : k < n) :
    ∃ ad, A = some ad ∧ ad.block < B ∧ w.cell? (ad.add (k * 3)) = some (.int .i64 (ts.getD k ⟨0, [], 0⟩).kind) ∧ w.cell? ⟨(ad.add (k * 3)).block, (ad.add (k * 3)).off + 1, none⟩ = some (.string ⟨(ts.getD k ⟨0, [], 0⟩).text.toArray⟩) ∧
      w.cell? ⟨(ad.add (k * 3)).block, (ad.add (k * 3)).off + 2, none⟩ = some (.int .i64 (ts.getD k ⟨0, [], 0⟩).from_) := by
  obtain ⟨ad, rfl, hb, hc⟩ := h.2 (by omega)
  have hl : ts.length = n := by have := h.1; rw [tokCells_len] at this; omega
  have h0 := tokCells_at (ts := ts) (k := k) (j := 0) (by omega) (by omega)
  have h1 := tokCells_at (ts := ts) (k := k) (j := 1) (by omega) (by omega)
  have h2 := tokCells_at (ts := ts) (k := k) (j := 2) (by omega) (by omega)
  have g1 := hc _ _ h1
  have g2 := hc _ _ h2
  rw [← add_of_add, add_pos _ 1 (by omega)] at g1
  rw [← add_of_add, add_pos _ 2 (by omega)] at g2
  exact ⟨ad, rfl, hb, hc _ _ h0, g1, g2⟩
theorem Reads.low {w w' : World} {B size n : Nat} {A : Option Addr} {xs : List Value} (h : Reads w B size A n xs) (hB : B ≤ w.heap.size) {C : Nat} (hC : w.heap.size ≤ C) (hb : Below C w w') : Reads w' B size A n xs :=
  h.keep fun _ hp => hb.cell (by omega)
theorem toks_len {w : World} {B n : Nat} {A : Option Addr} {ts : List Tok} (h : Reads w B 3 A n (tokCells ts)) : ts.length = n := by
  have := h.1; rw [tokCells_len] at this; omega
set_option maxHeartbeats 2000000 in
theorem from_any (ts : List Tok) (A : Option Addr) (n c B : Nat) (w : World) (hr : Reads w B 3 A n (tokCells ts)) (hB : B ≤ w.heap.size) (hn : n ≤ 10000) :
    Calls Tryd.prog 12 #[.slice A n c] w fun e w' => ∃ v, e = .returned v ∧ w'.ownsRow w.heap.size 40 3 v ts.length (tokCells ts) ∧ Below w.heap.size w w' := by
  obtain ⟨i0, hi0, hz0, hz1, hz2⟩ := info_parts info_rtok
  have HL := Lib.hid (toks_len hr)
  have HR := Lib.hid hr
  clear hr
  go_enter Tryd.func12, Tryd.ntmps12
  go_wp2_with fail
  go_loopw [3, 8] (fun v i wr => ∃ k : Nat, k ≤ n ∧ i = .int .i64 k ∧ wr.ownsRow w.heap.size 40 3 v k (tokCells (ts.take k)) ∧ Below w.heap.size w wr) (fun _ i _ => n - (intOf i).toNat)
  case atStart => exact ⟨0, by omega, rfl, World.ownsRow_nil _ _ _ _, Below.refl _ _⟩
  case round =>
    obtain ⟨k, hk, rfl, hown, hbr⟩ := hrel
    obtain ⟨wo, rfl⟩ : ∃ wo : World, wo = wr := ⟨_, rfl⟩
    have HO := Lib.hid hown
    clear hown
    by_cases hlt : k < n
    · obtain ⟨ad, rfl, hbk, c0, c1, c2⟩ := (HR.out.low hB (Nat.le_refl _) hbr).tok_at hlt
      have HS : Hid (tokCells (ts.take (k + 1)) = tokCells (ts.take k) ++ tokRow (ts.getD k ⟨0, [], 0⟩)) := by
        show _ = _
        rw [List.take_succ_eq_append_getElem (by rw [HL.out]; exact hlt), tokCells_snoc]
        simp [List.getD, show k < ts.length by rw [HL.out]; exact hlt]
      generalize ts.getD k ⟨0, [], 0⟩ = t at *
      go_wp2_with (at_builtin; refine wpList_append_any _ rfl (.tmp 12) (.tmp 14) _ rfl w.heap.size 40 i0 _ 3 32 Tryd.underlying27 hi0 hz0 hz1 hz2 rfl (by omega) _ k (tokCells (ts.take k)) rfl ((HO.out.alloc _).alloc _) (wo.heap.size + 1 + 1) (some ⟨wo.heap.size + 1, 0, none⟩) 1 1 (tokRow t) rfl (by have := reads_one (wo.alloc (.cells #[.int .i64 t.kind, .string ⟨t.text.toArray⟩, .int .i64 t.from_] 34)) #[.int .i64 t.kind, .string ⟨t.text.toArray⟩, .int .i64 t.from_] 40 3 rfl; rw [World.size_alloc] at this; exact this) (tokRow_one _) (by simp only [maxLen]; omega) (by omega) (by simp only [World.size_alloc]; have := hbr.size; omega) ?_; intro v4 w4 hown4 hg4 hat4)
      rw [← HS.out] at hown4
      exact ⟨⟨k + 1, by omega, by go_num, hown4, ((hbr.alloc hbr.size _).alloc (by simp only [World.size_alloc]; have := hbr.size; omega) _).grown hg4 (by simp only [World.size_alloc]; have := hbr.size; omega) (own_base HO.out)⟩, by simp [intOf]; omega⟩
    · have e : k = n := by omega
      have hown := HO.out
      rw [List.take_of_length_le (by rw [HL.out]; omega), e, ← HL.out] at hown
      have HO1 := Lib.hid hown
      clear hown e
      go_wp2_with fail
      go_ret
      exact ⟨_, rfl, HO1.out, hbr⟩
end Go.Proofs.YtblpgdfjmkefkaaDoor
