/-
  Lines read out of memory; from, to; Same of the reference's lines.
-/
import Derived.Test.YtenlbjobjnpghaaDoorRep3
namespace Go.Proofs.YtenlbjobjnpghaaDoor
open Go.RowKit
set_option linter.unusedVariables false
theorem lineCells_len (x : SLine) : (lineCells x).length = 6 := rfl
theorem lines_len {w : World} {B n : Nat} {A : Option Addr} {xs : List SLine} (h : Reads w B 6 A n (linesCells xs)) : xs.length = n := by
  have := h.1
  unfold linesCells at this
  rw [flat_len lineCells lineCells_len] at this
  omega
theorem Reads.line_at {w : World} {B n k : Nat} {A : Option Addr} {xs : List SLine} (h : Reads w B 6 A n (linesCells xs)) (hk : k < n) :
    ∃ ad, A = some ad ∧ ad.block < B ∧ w.cell? (ad.add (k * 6)) = some (.string ⟨(xs.getD k default).row.name.toArray⟩) ∧ w.cell? ⟨(ad.add (k * 6)).block, (ad.add (k * 6)).off + 1, none⟩ = some (.int .i64 (xs.getD k default).row.level) ∧
      w.cell? ⟨(ad.add (k * 6)).block, (ad.add (k * 6)).off + 2, none⟩ = some (.int .i64 (xs.getD k default).row.from_) ∧ w.cell? ⟨(ad.add (k * 6)).block, (ad.add (k * 6)).off + 3, none⟩ = some (.int .i64 (xs.getD k default).row.to_) ∧
      w.cell? ⟨(ad.add (k * 6)).block, (ad.add (k * 6)).off + 4, none⟩ = some (.bool (xs.getD k default).row.neg) ∧ w.cell? ⟨(ad.add (k * 6)).block, (ad.add (k * 6)).off + 5, none⟩ = some (.int .i64 (xs.getD k default).amt) := by
  have hl := lines_len h
  obtain ⟨ad, rfl, hb, hc⟩ := h.2 (by omega)
  have hx : ∀ j, j < 6 → ∀ u, (lineCells (xs.getD k default))[j]? = some u → w.cell? (ad.add (k * 6 + j)) = some u := by
    intro j hj u hu
    refine hc _ _ ?_
    unfold linesCells
    rw [flat_at lineCells lineCells_len (by omega) hj, hu]
  have g0 := hx 0 (by omega) _ rfl
  have g1 := hx 1 (by omega) _ rfl
  have g2 := hx 2 (by omega) _ rfl
  have g3 := hx 3 (by omega) _ rfl
  have g4 := hx 4 (by omega) _ rfl
  have g5 := hx 5 (by omega) _ rfl
  rw [← add_of_add, add_pos _ 1 (by omega)] at g1
  rw [← add_of_add, add_pos _ 2 (by omega)] at g2
  rw [← add_of_add, add_pos _ 3 (by omega)] at g3
  rw [← add_of_add, add_pos _ 4 (by omega)] at g4
  rw [← add_of_add, add_pos _ 5 (by omega)] at g5
  exact ⟨ad, rfl, hb, g0, g1, g2, g3, g4, g5⟩
set_option maxRecDepth 100000 in
set_option maxHeartbeats 4000000 in
theorem rsame_any (xs : List SLine) (A A' : Option Addr) (n c c' : Nat) (B B' : Nat) (w : World) (hr : Reads w B 6 A n (linesCells xs)) (hr' : Reads w B' 6 A' n (linesCells xs)) (hB : B ≤ w.heap.size) (hB' : B' ≤ w.heap.size) (hn : n ≤ 9223372036854775807) :
    Calls Tryd.prog 13 #[.slice A n c, .slice A' n c'] w fun e w' => e = .returned (.bool true) ∧ Below w.heap.size w w' := by
  have HR := Lib.hid hr
  have HR' := Lib.hid hr'
  have qn : (n != n) = false := by simp
  have qn' : ((n : Int) != (n : Int)) = false := by simp
  clear hr hr'
  go_enter Tryd.func13, Tryd.ntmps13
  go_wp2_with fail
  go_loopw [5] (fun i wr => ∃ k : Nat, k ≤ n ∧ i = .int .i64 k ∧ Below w.heap.size w wr) (fun i _ => n - (intOf i).toNat)
  case atStart => exact ⟨0, Nat.zero_le _, rfl, Below.refl _ _⟩
  case round =>
    obtain ⟨k, hk, rfl, hbr⟩ := hrel
    obtain ⟨wo, rfl⟩ : ∃ wo : World, wo = wr := ⟨_, rfl⟩
    by_cases hlt : k < n
    · have k3 : decide ((k : Int) < (n : Int)) = true := by rw [decide_eq_true_eq]; omega
      obtain ⟨ad, rfl, hab, c0, c1, c2, c3, c4, c5⟩ := (HR.out.low hB (Nat.le_refl _) hbr).line_at hlt
      obtain ⟨ad', rfl, hab', d0, d1, d2, d3, d4, d5⟩ := (HR'.out.low hB' (Nat.le_refl _) hbr).line_at hlt
      have b1 : (k : Int) < (n : Int) := by omega
      generalize xs.getD k default = x at *
      obtain ⟨⟨nm, lv, fr, to_, ng⟩, am⟩ := x
      simp only [] at c0 c1 c2 c3 c4 c5 d0 d1 d2 d3 d4 d5
      go_wp2_with fail
      go_quiet (fail)
      go_wp2_with fail
      exact ⟨⟨k + 1, by omega, by go_num, below_drewN hbr nq⟩, by simp [intOf]; omega⟩
    · have k3 : decide ((k : Int) < (n : Int)) = false := by rw [decide_eq_false_iff_not]; omega
      go_wp2_with fail
      go_ret
      exact ⟨rfl, hbr⟩
set_option maxRecDepth 100000 in
set_option maxHeartbeats 4000000 in
theorem from_any (xs : List SLine) (A : Option Addr) (n c B : Nat) (w : World) (hr : Reads w B 6 A n (linesCells xs)) (hB : B ≤ w.heap.size) (hn : n ≤ 10000) :
    Calls Tryd.prog 14 #[.slice A n c] w fun e w' => ∃ v, e = .returned v ∧ w'.ownsRow w.heap.size 65 6 v xs.length (linesCells xs) ∧ Below w.heap.size w w' := by
  obtain ⟨i0, hi0, hz0, hz1, hz2⟩ := info_parts info_rline
  have HL := Lib.hid (lines_len hr)
  have HR := Lib.hid hr
  clear hr
  go_enter Tryd.func14, Tryd.ntmps14
  go_wp2_with fail
  go_loopw [3, 8] (fun v i wr => ∃ k : Nat, k ≤ n ∧ i = .int .i64 k ∧ wr.ownsRow w.heap.size 65 6 v k (linesCells (xs.take k)) ∧ Below w.heap.size w wr) (fun _ i _ => n - (intOf i).toNat)
  case atStart => exact ⟨0, by omega, rfl, World.ownsRow_nil _ _ _ _, Below.refl _ _⟩
  case round =>
    obtain ⟨k, hk, rfl, hown, hbr⟩ := hrel
    obtain ⟨wo, rfl⟩ : ∃ wo : World, wo = wr := ⟨_, rfl⟩
    have HO := Lib.hid hown
    clear hown
    by_cases hlt : k < n
    · have k3 : decide ((k : Int) < (n : Int)) = true := by rw [decide_eq_true_eq]; omega
      obtain ⟨ad, rfl, hbk, c0, c1, c2, c3, c4, c5⟩ := (HR.out.low hB (Nat.le_refl _) hbr).line_at hlt
      have HS : Hid (linesCells (xs.take (k + 1)) = linesCells (xs.take k) ++ lineCells (xs.getD k default)) := by
        show _ = _
        rw [List.take_succ_eq_append_getElem (by rw [HL.out]; exact hlt), linesCells_snoc]
        simp [List.getD, show k < xs.length by rw [HL.out]; exact hlt]
      have HLO := Lib.hid (line_one (xs.getD k default))
      generalize xs.getD k default = x at *
      obtain ⟨⟨nm, lv, fr, to_, ng⟩, am⟩ := x
      simp only [] at c0 c1 c2 c3 c4 c5
      go_wp2_with (at_builtin; refine wpList_append_any _ rfl (.tmp 12) (.tmp 14) _ rfl w.heap.size 65 i0 _ 6 56 Tryd.underlying34 hi0 hz0 hz1 hz2 rfl (by omega) _ k (linesCells (xs.take k)) rfl ((HO.out.alloc _).alloc _) (wo.heap.size + 1 + 1) (some ⟨wo.heap.size + 1, 0, none⟩) 1 1 (lineCells ⟨⟨nm, lv, fr, to_, ng⟩, am⟩) rfl (by have := reads_one (wo.alloc (.cells #[.string ⟨nm.toArray⟩, .int .i64 lv, .int .i64 fr, .int .i64 to_, .bool ng, .int .i64 am] 51)) #[.string ⟨nm.toArray⟩, .int .i64 lv, .int .i64 fr, .int .i64 to_, .bool ng, .int .i64 am] 65 6 rfl; rw [World.size_alloc] at this; exact this) HLO.out (by simp only [maxLen]; omega) (by omega) (by simp only [World.size_alloc]; have := hbr.size; omega) ?_; intro v4 w4 hown4 hg4 hat4)
      rw [← HS.out] at hown4
      exact ⟨⟨k + 1, by omega, by go_num, hown4, ((hbr.alloc hbr.size _).alloc (by simp only [World.size_alloc]; have := hbr.size; omega) _).grown hg4 (by simp only [World.size_alloc]; have := hbr.size; omega) (own_base HO.out)⟩, by simp [intOf]; omega⟩
    · have k3 : decide ((k : Int) < (n : Int)) = false := by rw [decide_eq_false_iff_not]; omega
      have hown := HO.out
      rw [List.take_of_length_le (by rw [HL.out]; omega), show k = n by omega, ← HL.out] at hown
      have HO1 := Lib.hid hown
      clear hown
      go_wp2_with fail
      go_ret
      exact ⟨_, rfl, HO1.out, hbr⟩
end Go.Proofs.YtenlbjobjnpghaaDoor
