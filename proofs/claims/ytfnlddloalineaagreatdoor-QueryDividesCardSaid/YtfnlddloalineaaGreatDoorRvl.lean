/-
  The reference's Valid at any query.
-/
import Derived.Test.YtfnlddloalineaaGreatDoorQryA9
namespace Go.Proofs.YtfnlddloalineaaGreatDoor
open Go.RowKit
set_option linter.unusedVariables false
set_option linter.unusedSimpArgs false
set_option maxRecDepth 100000
/-- the k-th field of By is good -/
def goodB (l : List Int) (k : Nat) : Prop := (0 ≤ l.getD k 0 ∧ l.getD k 0 ≤ 4) ∧ (l.take k).contains (l.getD k 0) = false
theorem okQ_iff (q : SQry) : OkQ q ↔ (0 ≤ q.verb ∧ q.verb ≤ 1 ∧ q.wh.length ≤ 20) ∧ (∀ k, k < q.by_.length → goodB q.by_ k) ∧ ∀ j, j < q.wh.length → okCnd (q.wh.getD j default) := by
  constructor
  · rintro ⟨a, b, c, d, e, f⟩
    refine ⟨⟨a, b, c⟩, fun k hk => ⟨d k hk, e k hk⟩, fun j hj => f _ ?_⟩
    rw [List.getD_eq_getElem?_getD, List.getElem?_eq_getElem hj]
    exact List.getElem_mem hj
  · rintro ⟨⟨a, b, c⟩, d, e⟩
    refine ⟨a, b, c, fun k hk => (d k hk).1, fun k hk => (d k hk).2, fun x hx => ?_⟩
    obtain ⟨j, hj, rfl⟩ := List.mem_iff_getElem.1 hx
    have := e j hj
    rwa [List.getD_eq_getElem?_getD, List.getElem?_eq_getElem hj] at this
theorem bfalse {b : Bool} {P : Prop} (h : b = true ↔ P) (hn : ¬ P) : b = false := by
  cases b with
  | false => rfl
  | true => exact absurd (h.1 rfl) hn
theorem b_no {P : Prop} (h : ¬ P) : (false = true ↔ P) := ⟨fun e => absurd e (by decide), fun p => absurd p h⟩
theorem b_yes {P : Prop} (h : P) : (true = true ↔ P) := ⟨fun _ => h, fun _ => rfl⟩
set_option maxHeartbeats 16000000 in
theorem rvalid_any (q : SQry) (Ab Aw : Option Addr) (nb nw cb cw B : Nat) (w : World) (hb : RdBy w B Ab q.by_) (hnb : nb = q.by_.length) (hcb : nb ≤ cb) (hw : Reads w B 3 Aw nw (cndC q.wh)) (hB : B ≤ w.heap.size) (hn : nb ≤ 10000) (hnn : nw ≤ 10000) :
    Calls Tryz.prog 21 #[.agg #[.int .i64 q.verb, .slice Ab nb cb, .slice Aw nw cw]] w fun e w' => (∃ b : Bool, e = .returned (.bool b) ∧ (b = true ↔ OkQ q)) ∧ Below w.heap.size w w' := by
  have HIFF := Lib.hid (okQ_iff q)
  obtain ⟨verb, byl, wh⟩ := q
  simp only [] at hb hnb hw HIFF ⊢
  have hnw : wh.length = nw := by have := hw.1; rw [cndC_len] at this; omega
  have hb0 := (Below.refl w.heap.size w).alloc (Nat.le_refl _) (.cells (#[.int .i64 verb, .slice Ab nb cb, .slice Aw nw cw] : Array Value) 32)
  have hk0 := Blk.new w 32 #[.int .i64 verb, .slice Ab nb cb, .slice Aw nw cw]
  obtain ⟨wz, hwz⟩ : ∃ wz, w.alloc (.cells (#[.int .i64 verb, .slice Ab nb cb, .slice Aw nw cw] : Array Value) 32) = wz := ⟨_, rfl⟩
  rw [hwz] at hb0 hk0
  have hs0 : RvI w verb Ab Aw nb nw cb cw wz := ⟨hb0, hk0.lt, hk0.cell 0, hk0.cell 1, hk0.cell 2⟩
  have HS0 := Lib.hid hs0
  have HBY := Lib.hid hb
  have HWH := Lib.hid hw
  have HNB := Lib.hid hnb
  have HNW := Lib.hid hnw
  clear hb0 hk0 hs0 hw hb hnw hnb
  go_enter Tryz.func21, Tryz.ntmps21
  go_wp2_with fail
  go_loopw [3] (fun i x => ∃ k : Nat, k ≤ nb ∧ i = .int .i64 k ∧ RvI w verb Ab Aw nb nw cb cw x ∧ ∀ j, j < k → goodB byl j) (fun i _ => nb - (intOf i).toNat)
  case atStart => exact ⟨0, by omega, rfl, HS0.out, fun j h => by omega⟩
  case round =>
    obtain ⟨k, hk, rfl, hs, hd⟩ := hrel
    have HD := Lib.hid hd
    have HS := Lib.hid hs
    obtain ⟨s1, s2, c0, c1, c2⟩ := hs
    have hB1 : B ≤ w.heap.size := hB
    clear hd HS0
    by_cases hlt : k < nb
    · have k3 : decide ((k : Int) < (nb : Int)) = true := by rw [decide_eq_true_eq]; omega
      have k4 : (k : Int) < (nb : Int) := by omega
      have hkl : k < byl.length := by have := HNB.out; omega
      obtain ⟨g, o, rfl, hg, hc⟩ := HBY.out (by omega)
      have y3 := (s1.cell (p := ⟨g, o + k, none⟩) (by simp only []; omega)).trans (hc k hkl)
      have hgl : g < w.heap.size := by omega
      have k7 : k ≤ cb := by omega
      have HHAS : Hid (∀ wx, Below w.heap.size w wx → Calls Tryz.prog 55 #[.slice (some ⟨g, o, none⟩) k cb, .int .i64 (byl.getD k 0)] wx fun e w' => e = .returned (.bool ((byl.take k).contains (byl.getD k 0))) ∧ Below wx.heap.size wx w') := fun wx hwx => by
        refine (has_any (byl.take k) (byl.getD k 0) (some ⟨g, o, none⟩) k cb wx (fun j hj => ⟨_, rfl, ?_⟩) (by rw [List.length_take]; omega) (by rw [List.length_take]; omega)).mono ?_
        · have e : (⟨g, o, none⟩ : Addr).add j = ⟨g, o + j, none⟩ := by unfold Addr.add; split <;> simp_all
          rw [e, (hwx.cell (p := ⟨g, o + j, none⟩) (by simp only []; omega)), hc j (by omega), List.getD_eq_getElem?_getD, List.getD_eq_getElem?_getD, List.getElem?_take_of_lt hj]
        · rintro e w' ⟨h1, rfl⟩
          exact ⟨h1, Below.refl _ _⟩
      have HGO : Hid ((0 ≤ byl.getD k 0 ∧ byl.getD k 0 ≤ 4) ∧ (byl.take k).contains (byl.getD k 0) = false → ∀ j, j < k + 1 → goodB byl j) := fun h j hj => by
        by_cases e : j = k
        · rw [e]; exact h
        · exact HD.out j (by omega)
      have HNG : Hid (¬ ((0 ≤ byl.getD k 0 ∧ byl.getD k 0 ≤ 4) ∧ (byl.take k).contains (byl.getD k 0) = false) → ¬ OkQ ⟨verb, byl, wh⟩) := fun h hok => h ((HIFF.out.1 hok).2.1 k hkl)
      generalize byl.getD k 0 = x at *
      generalize (byl.take k).contains x = bb at *
      clear hc hkl
      by_cases e0 : x < 0
      · have e1 : decide (x < 0) = true := by rw [decide_eq_true_eq]; omega
        have HNO := Lib.hid (HNG.out fun h => by omega)
        go_wp2_with fail
        refine wp_region_held_drew (S := fun w' => RvI w verb (some ⟨g, o, none⟩) Aw nb nw cb cw w' ∧ w'.cell? ⟨g, o + k, none⟩ = some (.int .i64 x)) (by kernel_rfl) ⟨HS.out.same (Below.refl _ _).drew, y3⟩ (fun hHeld => ?_)
        refine wpAnyH_take (i := 0) (v := ?vblo0) rfl (by kernel_rfl) (by kernel_rfl) (by kernel_rfl) (fun _ _ _ h => h) (Or.inl ⟨by rfl, ?hyblo0⟩) (by assumption) ?restblo0
        case hyblo0 => (intro w_ hSw; (try dsimp only at hSw); obtain ⟨⟨_, h1_, d0_, d1_, d2_⟩, d3_⟩ := hSw; go_simp; (try with_reducible rfl))
        (try simp only [Act.put, List.setIfInBounds_toArray, List.set_cons_zero, List.set_cons_succ, List.getElem_toArray, List.getElem_cons_zero, List.getElem_cons_succ])
        refine wpAnyH_take (i := 1) (v := ?vblo1) rfl (by kernel_rfl) (by kernel_rfl) (by kernel_rfl) (fun _ _ _ h => h) (Or.inl ⟨by rfl, ?hyblo1⟩) (by assumption) ?restblo1
        case hyblo1 => (intro w_ hSw; (try dsimp only at hSw); obtain ⟨⟨_, h1_, d0_, d1_, d2_⟩, d3_⟩ := hSw; go_simp; (try with_reducible rfl))
        (try simp only [Act.put, List.setIfInBounds_toArray, List.set_cons_zero, List.set_cons_succ, List.getElem_toArray, List.getElem_cons_zero, List.getElem_cons_succ])
        refine wpAnyH_take (i := 2) (v := ?vblo2) rfl (by kernel_rfl) (by kernel_rfl) (by kernel_rfl) (fun _ _ _ h => h) (Or.inl ⟨by rfl, ?hyblo2⟩) (by assumption) ?restblo2
        case hyblo2 => (intro w_ hSw; (try dsimp only at hSw); obtain ⟨⟨_, h1_, d0_, d1_, d2_⟩, d3_⟩ := hSw; go_simp; (try with_reducible rfl))
        (try simp only [Act.put, List.setIfInBounds_toArray, List.set_cons_zero, List.set_cons_succ, List.getElem_toArray, List.getElem_cons_zero, List.getElem_cons_succ])
        refine wpAnyH_take (i := 3) (v := ?vblo3) rfl (by kernel_rfl) (by kernel_rfl) (by kernel_rfl) (fun _ _ _ h => h) (Or.inl ⟨by rfl, ?hyblo3⟩) (by assumption) ?restblo3
        case hyblo3 => (intro w_ hSw; (try dsimp only at hSw); obtain ⟨⟨_, h1_, d0_, d1_, d2_⟩, d3_⟩ := hSw; go_simp; (try with_reducible rfl))
        (try simp only [Act.put, List.setIfInBounds_toArray, List.set_cons_zero, List.set_cons_succ, List.getElem_toArray, List.getElem_cons_zero, List.getElem_cons_succ])
        refine wpAnyH_take (i := 4) (v := ?vblo4) rfl (by kernel_rfl) (by kernel_rfl) (by kernel_rfl) (fun _ _ _ h => h) (Or.inl ⟨by rfl, ?hyblo4⟩) (by assumption) ?restblo4
        case hyblo4 => (intro w_ hSw; (try dsimp only at hSw); obtain ⟨⟨_, h1_, d0_, d1_, d2_⟩, d3_⟩ := hSw; go_simp; (try with_reducible rfl))
        (try simp only [Act.put, List.setIfInBounds_toArray, List.set_cons_zero, List.set_cons_succ, List.getElem_toArray, List.getElem_cons_zero, List.getElem_cons_succ])
        refine wpAnyH_take (i := 5) (v := ?vblo5) rfl (by kernel_rfl) (by kernel_rfl) (by kernel_rfl) (fun _ _ _ h => h) (Or.inl ⟨by rfl, ?hyblo5⟩) (by assumption) ?restblo5
        case hyblo5 => (intro w_ hSw; (try dsimp only at hSw); obtain ⟨⟨_, h1_, d0_, d1_, d2_⟩, d3_⟩ := hSw; go_simp; (try with_reducible rfl))
        (try simp only [Act.put, List.setIfInBounds_toArray, List.set_cons_zero, List.set_cons_succ, List.getElem_toArray, List.getElem_cons_zero, List.getElem_cons_succ])
        refine wpAnyH_take (i := 6) (v := ?vblo6) rfl (by kernel_rfl) (by kernel_rfl) (by kernel_rfl) (fun _ _ _ h => h) (Or.inl ⟨by rfl, ?hyblo6⟩) (by assumption) ?restblo6
        case hyblo6 => (intro w_ hSw; (try dsimp only at hSw); obtain ⟨⟨_, h1_, d0_, d1_, d2_⟩, d3_⟩ := hSw; go_simp; (try with_reducible rfl))
        (try simp only [Act.put, List.setIfInBounds_toArray, List.set_cons_zero, List.set_cons_succ, List.getElem_toArray, List.getElem_cons_zero, List.getElem_cons_succ])
        refine wpAnyH_take (i := 7) (v := undef) rfl (by kernel_rfl) (by kernel_rfl) (by kernel_rfl) (fun _ _ _ h => h) (Or.inr ⟨by rfl, rfl⟩) (by assumption) ?restblo7
        (try simp only [Act.put, List.setIfInBounds_toArray, List.set_cons_zero, List.set_cons_succ, List.getElem_toArray, List.getElem_cons_zero, List.getElem_cons_succ])
        refine wpAnyH_take (i := 8) (v := undef) rfl (by kernel_rfl) (by kernel_rfl) (by kernel_rfl) (fun _ _ _ h => h) (Or.inr ⟨by rfl, rfl⟩) (by assumption) ?restblo8
        (try simp only [Act.put, List.setIfInBounds_toArray, List.set_cons_zero, List.set_cons_succ, List.getElem_toArray, List.getElem_cons_zero, List.getElem_cons_succ])
        refine wpAnyH_take (i := 9) (v := undef) rfl (by kernel_rfl) (by kernel_rfl) (by kernel_rfl) (fun _ _ _ h => h) (Or.inr ⟨by rfl, rfl⟩) (by assumption) ?restblo9
        (try simp only [Act.put, List.setIfInBounds_toArray, List.set_cons_zero, List.set_cons_succ, List.getElem_toArray, List.getElem_cons_zero, List.getElem_cons_succ])
        refine wpAnyH_take (i := 10) (v := undef) rfl (by kernel_rfl) (by kernel_rfl) (by kernel_rfl) (fun _ _ _ h => h) (Or.inr ⟨by rfl, rfl⟩) (by assumption) ?restblo10
        (try simp only [Act.put, List.setIfInBounds_toArray, List.set_cons_zero, List.set_cons_succ, List.getElem_toArray, List.getElem_cons_zero, List.getElem_cons_succ])
        refine wpAnyH_take (i := 11) (v := undef) rfl (by kernel_rfl) (by kernel_rfl) (by kernel_rfl) (fun _ _ _ h => h) (Or.inr ⟨by rfl, rfl⟩) (by assumption) ?restblo11
        (try simp only [Act.put, List.setIfInBounds_toArray, List.set_cons_zero, List.set_cons_succ, List.getElem_toArray, List.getElem_cons_zero, List.getElem_cons_succ])
        refine wpAnyH_take (i := 12) (v := undef) rfl (by kernel_rfl) (by kernel_rfl) (by kernel_rfl) (fun _ _ _ h => h) (Or.inr ⟨by rfl, rfl⟩) (by assumption) ?restblo12
        (try simp only [Act.put, List.setIfInBounds_toArray, List.set_cons_zero, List.set_cons_succ, List.getElem_toArray, List.getElem_cons_zero, List.getElem_cons_succ])
        refine wpAnyH_take (i := 13) (v := undef) rfl (by kernel_rfl) (by kernel_rfl) (by kernel_rfl) (fun _ _ _ h => h) (Or.inr ⟨by rfl, rfl⟩) (by assumption) ?restblo13
        (try simp only [Act.put, List.setIfInBounds_toArray, List.set_cons_zero, List.set_cons_succ, List.getElem_toArray, List.getElem_cons_zero, List.getElem_cons_succ])
        refine wpAnyH_take (i := 14) (v := undef) rfl (by kernel_rfl) (by kernel_rfl) (by kernel_rfl) (fun _ _ _ h => h) (Or.inr ⟨by rfl, rfl⟩) (by assumption) ?restblo14
        (try simp only [Act.put, List.setIfInBounds_toArray, List.set_cons_zero, List.set_cons_succ, List.getElem_toArray, List.getElem_cons_zero, List.getElem_cons_succ])
        refine wpAnyH_take (i := 15) (v := ?vblo15) rfl (by kernel_rfl) (by kernel_rfl) (by kernel_rfl) (fun _ _ _ h => h) (Or.inl ⟨by rfl, ?hyblo15⟩) (by assumption) ?restblo15
        case hyblo15 => (intro w_ hSw; (try dsimp only at hSw); obtain ⟨⟨_, h1_, d0_, d1_, d2_⟩, d3_⟩ := hSw; go_simp; (try with_reducible rfl))
        (try simp only [Act.put, List.setIfInBounds_toArray, List.set_cons_zero, List.set_cons_succ, List.getElem_toArray, List.getElem_cons_zero, List.getElem_cons_succ])
        refine wpAnyH_take (i := 16) (v := ?vblo16) rfl (by kernel_rfl) (by kernel_rfl) (by kernel_rfl) (fun _ _ _ h => h) (Or.inl ⟨by rfl, ?hyblo16⟩) (by assumption) ?restblo16
        case hyblo16 => (intro w_ hSw; (try dsimp only at hSw); obtain ⟨⟨_, h1_, d0_, d1_, d2_⟩, d3_⟩ := hSw; go_simp; (try with_reducible rfl))
        (try simp only [Act.put, List.setIfInBounds_toArray, List.set_cons_zero, List.set_cons_succ, List.getElem_toArray, List.getElem_cons_zero, List.getElem_cons_succ])
        refine wpAnyH_take (i := 17) (v := undef) rfl (by kernel_rfl) (by kernel_rfl) (by kernel_rfl) (fun _ _ _ h => h) (Or.inr ⟨by rfl, rfl⟩) (by assumption) ?restblo17
        (try simp only [Act.put, List.setIfInBounds_toArray, List.set_cons_zero, List.set_cons_succ, List.getElem_toArray, List.getElem_cons_zero, List.getElem_cons_succ])
        refine wpAnyH_take (i := 18) (v := undef) rfl (by kernel_rfl) (by kernel_rfl) (by kernel_rfl) (fun _ _ _ h => h) (Or.inr ⟨by rfl, rfl⟩) (by assumption) ?restblo18
        (try simp only [Act.put, List.setIfInBounds_toArray, List.set_cons_zero, List.set_cons_succ, List.getElem_toArray, List.getElem_cons_zero, List.getElem_cons_succ])
        refine wpAnyH_take (i := 19) (v := undef) rfl (by kernel_rfl) (by kernel_rfl) (by kernel_rfl) (fun _ _ _ h => h) (Or.inr ⟨by rfl, rfl⟩) (by assumption) ?restblo19
        (try simp only [Act.put, List.setIfInBounds_toArray, List.set_cons_zero, List.set_cons_succ, List.getElem_toArray, List.getElem_cons_zero, List.getElem_cons_succ])
        refine wpAnyH_take (i := 20) (v := undef) rfl (by kernel_rfl) (by kernel_rfl) (by kernel_rfl) (fun _ _ _ h => h) (Or.inr ⟨by rfl, rfl⟩) (by assumption) ?restblo20
        (try simp only [Act.put, List.setIfInBounds_toArray, List.set_cons_zero, List.set_cons_succ, List.getElem_toArray, List.getElem_cons_zero, List.getElem_cons_succ])
        refine wpAnyH_take (i := 21) (v := undef) rfl (by kernel_rfl) (by kernel_rfl) (by kernel_rfl) (fun _ _ _ h => h) (Or.inr ⟨by rfl, rfl⟩) (by assumption) ?restblo21
        (try simp only [Act.put, List.setIfInBounds_toArray, List.set_cons_zero, List.set_cons_succ, List.getElem_toArray, List.getElem_cons_zero, List.getElem_cons_succ])
        refine wpAnyH_take (i := 22) (v := undef) rfl (by kernel_rfl) (by kernel_rfl) (by kernel_rfl) (fun _ _ _ h => h) (Or.inr ⟨by rfl, rfl⟩) (by assumption) ?restblo22
        (try simp only [Act.put, List.setIfInBounds_toArray, List.set_cons_zero, List.set_cons_succ, List.getElem_toArray, List.getElem_cons_zero, List.getElem_cons_succ])
        refine wpAnyH_take (i := 23) (v := undef) rfl (by kernel_rfl) (by kernel_rfl) (by kernel_rfl) (fun _ _ _ h => h) (Or.inr ⟨by rfl, rfl⟩) (by assumption) ?restblo23
        (try simp only [Act.put, List.setIfInBounds_toArray, List.set_cons_zero, List.set_cons_succ, List.getElem_toArray, List.getElem_cons_zero, List.getElem_cons_succ])
        refine wpAnyH_take (i := 24) (v := undef) rfl (by kernel_rfl) (by kernel_rfl) (by kernel_rfl) (fun _ _ _ h => h) (Or.inr ⟨by rfl, rfl⟩) (by assumption) ?restblo24
        (try simp only [Act.put, List.setIfInBounds_toArray, List.set_cons_zero, List.set_cons_succ, List.getElem_toArray, List.getElem_cons_zero, List.getElem_cons_succ])
        refine wpAnyH_take (i := 25) (v := undef) rfl (by kernel_rfl) (by kernel_rfl) (by kernel_rfl) (fun _ _ _ h => h) (Or.inr ⟨by rfl, rfl⟩) (by assumption) ?restblo25
        (try simp only [Act.put, List.setIfInBounds_toArray, List.set_cons_zero, List.set_cons_succ, List.getElem_toArray, List.getElem_cons_zero, List.getElem_cons_succ])
        refine wpAnyH_take (i := 26) (v := undef) rfl (by kernel_rfl) (by kernel_rfl) (by kernel_rfl) (fun _ _ _ h => h) (Or.inr ⟨by rfl, rfl⟩) (by assumption) ?restblo26
        (try simp only [Act.put, List.setIfInBounds_toArray, List.set_cons_zero, List.set_cons_succ, List.getElem_toArray, List.getElem_cons_zero, List.getElem_cons_succ])
        refine wpAnyH_take (i := 27) (v := ?vblo27) rfl (by kernel_rfl) (by kernel_rfl) (by kernel_rfl) (fun _ _ _ h => h) (Or.inl ⟨by rfl, ?hyblo27⟩) (by assumption) ?restblo27
        case hyblo27 => (intro w_ hSw; (try dsimp only at hSw); obtain ⟨⟨_, h1_, d0_, d1_, d2_⟩, d3_⟩ := hSw; go_simp; (try with_reducible rfl))
        (try simp only [Act.put, List.setIfInBounds_toArray, List.set_cons_zero, List.set_cons_succ, List.getElem_toArray, List.getElem_cons_zero, List.getElem_cons_succ])
        refine wpAnyH_done (by kernel_rfl) ?_ _
        go_wp2_with fail
        go_ret
        exact ⟨⟨false, rfl, b_no HNO.out⟩, hHeld.1.below⟩
      by_cases e4 : 4 < x
      · have e1 : decide (x < 0) = false := by rw [decide_eq_false_iff_not]; omega
        have e2 : decide (5 ≤ x) = true := by rw [decide_eq_true_eq]; omega
        have HNO := Lib.hid (HNG.out fun h => by omega)
        go_wp2_with fail
        refine wp_region_held_drew (S := fun w' => RvI w verb (some ⟨g, o, none⟩) Aw nb nw cb cw w' ∧ w'.cell? ⟨g, o + k, none⟩ = some (.int .i64 x)) (by kernel_rfl) ⟨HS.out.same (Below.refl _ _).drew, y3⟩ (fun hHeld => ?_)
        refine wpAnyH_take (i := 0) (v := ?vbhi0) rfl (by kernel_rfl) (by kernel_rfl) (by kernel_rfl) (fun _ _ _ h => h) (Or.inl ⟨by rfl, ?hybhi0⟩) (by assumption) ?restbhi0
        case hybhi0 => (intro w_ hSw; (try dsimp only at hSw); obtain ⟨⟨_, h1_, d0_, d1_, d2_⟩, d3_⟩ := hSw; go_simp; (try with_reducible rfl))
        (try simp only [Act.put, List.setIfInBounds_toArray, List.set_cons_zero, List.set_cons_succ, List.getElem_toArray, List.getElem_cons_zero, List.getElem_cons_succ])
        refine wpAnyH_take (i := 1) (v := ?vbhi1) rfl (by kernel_rfl) (by kernel_rfl) (by kernel_rfl) (fun _ _ _ h => h) (Or.inl ⟨by rfl, ?hybhi1⟩) (by assumption) ?restbhi1
        case hybhi1 => (intro w_ hSw; (try dsimp only at hSw); obtain ⟨⟨_, h1_, d0_, d1_, d2_⟩, d3_⟩ := hSw; go_simp; (try with_reducible rfl))
        (try simp only [Act.put, List.setIfInBounds_toArray, List.set_cons_zero, List.set_cons_succ, List.getElem_toArray, List.getElem_cons_zero, List.getElem_cons_succ])
        refine wpAnyH_take (i := 2) (v := ?vbhi2) rfl (by kernel_rfl) (by kernel_rfl) (by kernel_rfl) (fun _ _ _ h => h) (Or.inl ⟨by rfl, ?hybhi2⟩) (by assumption) ?restbhi2
        case hybhi2 => (intro w_ hSw; (try dsimp only at hSw); obtain ⟨⟨_, h1_, d0_, d1_, d2_⟩, d3_⟩ := hSw; go_simp; (try with_reducible rfl))
        (try simp only [Act.put, List.setIfInBounds_toArray, List.set_cons_zero, List.set_cons_succ, List.getElem_toArray, List.getElem_cons_zero, List.getElem_cons_succ])
        refine wpAnyH_take (i := 3) (v := ?vbhi3) rfl (by kernel_rfl) (by kernel_rfl) (by kernel_rfl) (fun _ _ _ h => h) (Or.inl ⟨by rfl, ?hybhi3⟩) (by assumption) ?restbhi3
        case hybhi3 => (intro w_ hSw; (try dsimp only at hSw); obtain ⟨⟨_, h1_, d0_, d1_, d2_⟩, d3_⟩ := hSw; go_simp; (try with_reducible rfl))
        (try simp only [Act.put, List.setIfInBounds_toArray, List.set_cons_zero, List.set_cons_succ, List.getElem_toArray, List.getElem_cons_zero, List.getElem_cons_succ])
        refine wpAnyH_take (i := 4) (v := ?vbhi4) rfl (by kernel_rfl) (by kernel_rfl) (by kernel_rfl) (fun _ _ _ h => h) (Or.inl ⟨by rfl, ?hybhi4⟩) (by assumption) ?restbhi4
        case hybhi4 => (intro w_ hSw; (try dsimp only at hSw); obtain ⟨⟨_, h1_, d0_, d1_, d2_⟩, d3_⟩ := hSw; go_simp; (try with_reducible rfl))
        (try simp only [Act.put, List.setIfInBounds_toArray, List.set_cons_zero, List.set_cons_succ, List.getElem_toArray, List.getElem_cons_zero, List.getElem_cons_succ])
        refine wpAnyH_take (i := 5) (v := ?vbhi5) rfl (by kernel_rfl) (by kernel_rfl) (by kernel_rfl) (fun _ _ _ h => h) (Or.inl ⟨by rfl, ?hybhi5⟩) (by assumption) ?restbhi5
        case hybhi5 => (intro w_ hSw; (try dsimp only at hSw); obtain ⟨⟨_, h1_, d0_, d1_, d2_⟩, d3_⟩ := hSw; go_simp; (try with_reducible rfl))
        (try simp only [Act.put, List.setIfInBounds_toArray, List.set_cons_zero, List.set_cons_succ, List.getElem_toArray, List.getElem_cons_zero, List.getElem_cons_succ])
        refine wpAnyH_take (i := 6) (v := ?vbhi6) rfl (by kernel_rfl) (by kernel_rfl) (by kernel_rfl) (fun _ _ _ h => h) (Or.inl ⟨by rfl, ?hybhi6⟩) (by assumption) ?restbhi6
        case hybhi6 => (intro w_ hSw; (try dsimp only at hSw); obtain ⟨⟨_, h1_, d0_, d1_, d2_⟩, d3_⟩ := hSw; go_simp; (try with_reducible rfl))
        (try simp only [Act.put, List.setIfInBounds_toArray, List.set_cons_zero, List.set_cons_succ, List.getElem_toArray, List.getElem_cons_zero, List.getElem_cons_succ])
        refine wpAnyH_take (i := 7) (v := ?vbhi7) rfl (by kernel_rfl) (by kernel_rfl) (by kernel_rfl) (fun _ _ _ h => h) (Or.inl ⟨by rfl, ?hybhi7⟩) (by assumption) ?restbhi7
        case hybhi7 => (intro w_ hSw; (try dsimp only at hSw); obtain ⟨⟨_, h1_, d0_, d1_, d2_⟩, d3_⟩ := hSw; go_simp; (try with_reducible rfl))
        (try simp only [Act.put, List.setIfInBounds_toArray, List.set_cons_zero, List.set_cons_succ, List.getElem_toArray, List.getElem_cons_zero, List.getElem_cons_succ])
        refine wpAnyH_take (i := 8) (v := ?vbhi8) rfl (by kernel_rfl) (by kernel_rfl) (by kernel_rfl) (fun _ _ _ h => h) (Or.inl ⟨by rfl, ?hybhi8⟩) (by assumption) ?restbhi8
        case hybhi8 => (intro w_ hSw; (try dsimp only at hSw); obtain ⟨⟨_, h1_, d0_, d1_, d2_⟩, d3_⟩ := hSw; go_simp; (try with_reducible rfl))
        (try simp only [Act.put, List.setIfInBounds_toArray, List.set_cons_zero, List.set_cons_succ, List.getElem_toArray, List.getElem_cons_zero, List.getElem_cons_succ])
        refine wpAnyH_take (i := 9) (v := ?vbhi9) rfl (by kernel_rfl) (by kernel_rfl) (by kernel_rfl) (fun _ _ _ h => h) (Or.inl ⟨by rfl, ?hybhi9⟩) (by assumption) ?restbhi9
        case hybhi9 => (intro w_ hSw; (try dsimp only at hSw); obtain ⟨⟨_, h1_, d0_, d1_, d2_⟩, d3_⟩ := hSw; go_simp; (try with_reducible rfl))
        (try simp only [Act.put, List.setIfInBounds_toArray, List.set_cons_zero, List.set_cons_succ, List.getElem_toArray, List.getElem_cons_zero, List.getElem_cons_succ])
        refine wpAnyH_take (i := 10) (v := ?vbhi10) rfl (by kernel_rfl) (by kernel_rfl) (by kernel_rfl) (fun _ _ _ h => h) (Or.inl ⟨by rfl, ?hybhi10⟩) (by assumption) ?restbhi10
        case hybhi10 => (intro w_ hSw; (try dsimp only at hSw); obtain ⟨⟨_, h1_, d0_, d1_, d2_⟩, d3_⟩ := hSw; go_simp; (try with_reducible rfl))
        (try simp only [Act.put, List.setIfInBounds_toArray, List.set_cons_zero, List.set_cons_succ, List.getElem_toArray, List.getElem_cons_zero, List.getElem_cons_succ])
        refine wpAnyH_take (i := 11) (v := ?vbhi11) rfl (by kernel_rfl) (by kernel_rfl) (by kernel_rfl) (fun _ _ _ h => h) (Or.inl ⟨by rfl, ?hybhi11⟩) (by assumption) ?restbhi11
        case hybhi11 => (intro w_ hSw; (try dsimp only at hSw); obtain ⟨⟨_, h1_, d0_, d1_, d2_⟩, d3_⟩ := hSw; go_simp; (try with_reducible rfl))
        (try simp only [Act.put, List.setIfInBounds_toArray, List.set_cons_zero, List.set_cons_succ, List.getElem_toArray, List.getElem_cons_zero, List.getElem_cons_succ])
        refine wpAnyH_ready (rs := [12]) (by kernel_rfl) (by simp) ?_
        refine AllReadyH.cons rfl (fun K hK => ?_) AllReadyH.nil
        go_simp
        go_wp2_with (go_at_call 48; refine (ref_fd_low _).mono ?_; rintro e w3 ⟨rfl, hbx⟩)
        refine hK.out _ _ ?hSbhi12 (fun hHeldbhi12 => ?_)
        case hSbhi12 => exact ⟨hHeld.1.same hbx, (hbx.cell (by simp only [World.size_drew]; omega)).trans hHeld.2⟩
        clear hK K
        (try simp only [Act.put, List.setIfInBounds_toArray, List.set_cons_zero, List.set_cons_succ, List.getElem_toArray, List.getElem_cons_zero, List.getElem_cons_succ])
        refine wpAnyH_take (i := 13) (v := ?vbhi13) rfl (by kernel_rfl) (by kernel_rfl) (by kernel_rfl) (fun _ _ _ h => h) (Or.inl ⟨by rfl, ?hybhi13⟩) (by assumption) ?restbhi13
        case hybhi13 => (intro w_ hSw; (try dsimp only at hSw); obtain ⟨⟨_, h1_, d0_, d1_, d2_⟩, d3_⟩ := hSw; go_simp; (try with_reducible rfl))
        (try simp only [Act.put, List.setIfInBounds_toArray, List.set_cons_zero, List.set_cons_succ, List.getElem_toArray, List.getElem_cons_zero, List.getElem_cons_succ])
        refine wpAnyH_take (i := 14) (v := ?vbhi14) rfl (by kernel_rfl) (by kernel_rfl) (by kernel_rfl) (fun _ _ _ h => h) (Or.inl ⟨by rfl, ?hybhi14⟩) (by assumption) ?restbhi14
        case hybhi14 => (intro w_ hSw; (try dsimp only at hSw); obtain ⟨⟨_, h1_, d0_, d1_, d2_⟩, d3_⟩ := hSw; go_simp; (try with_reducible rfl))
        (try simp only [Act.put, List.setIfInBounds_toArray, List.set_cons_zero, List.set_cons_succ, List.getElem_toArray, List.getElem_cons_zero, List.getElem_cons_succ])
        refine wpAnyH_take (i := 15) (v := ?vbhi15) rfl (by kernel_rfl) (by kernel_rfl) (by kernel_rfl) (fun _ _ _ h => h) (Or.inl ⟨by rfl, ?hybhi15⟩) (by assumption) ?restbhi15
        case hybhi15 => (intro w_ hSw; (try dsimp only at hSw); obtain ⟨⟨_, h1_, d0_, d1_, d2_⟩, d3_⟩ := hSw; go_simp; (try with_reducible rfl))
        (try simp only [Act.put, List.setIfInBounds_toArray, List.set_cons_zero, List.set_cons_succ, List.getElem_toArray, List.getElem_cons_zero, List.getElem_cons_succ])
        refine wpAnyH_take (i := 16) (v := ?vbhi16) rfl (by kernel_rfl) (by kernel_rfl) (by kernel_rfl) (fun _ _ _ h => h) (Or.inl ⟨by rfl, ?hybhi16⟩) (by assumption) ?restbhi16
        case hybhi16 => (intro w_ hSw; (try dsimp only at hSw); obtain ⟨⟨_, h1_, d0_, d1_, d2_⟩, d3_⟩ := hSw; go_simp; (try with_reducible rfl))
        (try simp only [Act.put, List.setIfInBounds_toArray, List.set_cons_zero, List.set_cons_succ, List.getElem_toArray, List.getElem_cons_zero, List.getElem_cons_succ])
        refine wpAnyH_take (i := 17) (v := undef) rfl (by kernel_rfl) (by kernel_rfl) (by kernel_rfl) (fun _ _ _ h => h) (Or.inr ⟨by rfl, rfl⟩) (by assumption) ?restbhi17
        (try simp only [Act.put, List.setIfInBounds_toArray, List.set_cons_zero, List.set_cons_succ, List.getElem_toArray, List.getElem_cons_zero, List.getElem_cons_succ])
        refine wpAnyH_take (i := 18) (v := undef) rfl (by kernel_rfl) (by kernel_rfl) (by kernel_rfl) (fun _ _ _ h => h) (Or.inr ⟨by rfl, rfl⟩) (by assumption) ?restbhi18
        (try simp only [Act.put, List.setIfInBounds_toArray, List.set_cons_zero, List.set_cons_succ, List.getElem_toArray, List.getElem_cons_zero, List.getElem_cons_succ])
        refine wpAnyH_take (i := 19) (v := undef) rfl (by kernel_rfl) (by kernel_rfl) (by kernel_rfl) (fun _ _ _ h => h) (Or.inr ⟨by rfl, rfl⟩) (by assumption) ?restbhi19
        (try simp only [Act.put, List.setIfInBounds_toArray, List.set_cons_zero, List.set_cons_succ, List.getElem_toArray, List.getElem_cons_zero, List.getElem_cons_succ])
        refine wpAnyH_take (i := 20) (v := undef) rfl (by kernel_rfl) (by kernel_rfl) (by kernel_rfl) (fun _ _ _ h => h) (Or.inr ⟨by rfl, rfl⟩) (by assumption) ?restbhi20
        (try simp only [Act.put, List.setIfInBounds_toArray, List.set_cons_zero, List.set_cons_succ, List.getElem_toArray, List.getElem_cons_zero, List.getElem_cons_succ])
        refine wpAnyH_take (i := 21) (v := undef) rfl (by kernel_rfl) (by kernel_rfl) (by kernel_rfl) (fun _ _ _ h => h) (Or.inr ⟨by rfl, rfl⟩) (by assumption) ?restbhi21
        (try simp only [Act.put, List.setIfInBounds_toArray, List.set_cons_zero, List.set_cons_succ, List.getElem_toArray, List.getElem_cons_zero, List.getElem_cons_succ])
        refine wpAnyH_take (i := 22) (v := undef) rfl (by kernel_rfl) (by kernel_rfl) (by kernel_rfl) (fun _ _ _ h => h) (Or.inr ⟨by rfl, rfl⟩) (by assumption) ?restbhi22
        (try simp only [Act.put, List.setIfInBounds_toArray, List.set_cons_zero, List.set_cons_succ, List.getElem_toArray, List.getElem_cons_zero, List.getElem_cons_succ])
        refine wpAnyH_take (i := 23) (v := undef) rfl (by kernel_rfl) (by kernel_rfl) (by kernel_rfl) (fun _ _ _ h => h) (Or.inr ⟨by rfl, rfl⟩) (by assumption) ?restbhi23
        (try simp only [Act.put, List.setIfInBounds_toArray, List.set_cons_zero, List.set_cons_succ, List.getElem_toArray, List.getElem_cons_zero, List.getElem_cons_succ])
        refine wpAnyH_take (i := 24) (v := undef) rfl (by kernel_rfl) (by kernel_rfl) (by kernel_rfl) (fun _ _ _ h => h) (Or.inr ⟨by rfl, rfl⟩) (by assumption) ?restbhi24
        (try simp only [Act.put, List.setIfInBounds_toArray, List.set_cons_zero, List.set_cons_succ, List.getElem_toArray, List.getElem_cons_zero, List.getElem_cons_succ])
        refine wpAnyH_take (i := 25) (v := undef) rfl (by kernel_rfl) (by kernel_rfl) (by kernel_rfl) (fun _ _ _ h => h) (Or.inr ⟨by rfl, rfl⟩) (by assumption) ?restbhi25
        (try simp only [Act.put, List.setIfInBounds_toArray, List.set_cons_zero, List.set_cons_succ, List.getElem_toArray, List.getElem_cons_zero, List.getElem_cons_succ])
        refine wpAnyH_take (i := 26) (v := undef) rfl (by kernel_rfl) (by kernel_rfl) (by kernel_rfl) (fun _ _ _ h => h) (Or.inr ⟨by rfl, rfl⟩) (by assumption) ?restbhi26
        (try simp only [Act.put, List.setIfInBounds_toArray, List.set_cons_zero, List.set_cons_succ, List.getElem_toArray, List.getElem_cons_zero, List.getElem_cons_succ])
        refine wpAnyH_take (i := 27) (v := ?vbhi27) rfl (by kernel_rfl) (by kernel_rfl) (by kernel_rfl) (fun _ _ _ h => h) (Or.inl ⟨by rfl, ?hybhi27⟩) (by assumption) ?restbhi27
        case hybhi27 => (intro w_ hSw; (try dsimp only at hSw); obtain ⟨⟨_, h1_, d0_, d1_, d2_⟩, d3_⟩ := hSw; go_simp; (try with_reducible rfl))
        (try simp only [Act.put, List.setIfInBounds_toArray, List.set_cons_zero, List.set_cons_succ, List.getElem_toArray, List.getElem_cons_zero, List.getElem_cons_succ])
        refine wpAnyH_done (by kernel_rfl) ?_ _
        go_wp2_with fail
        go_ret
        exact ⟨⟨false, rfl, b_no HNO.out⟩, hHeldbhi12.1.below⟩
      have e1 : decide (x < 0) = false := by rw [decide_eq_false_iff_not]; omega
      have e2 : decide (5 ≤ x) = false := by rw [decide_eq_false_iff_not]; omega
      go_wp2_with fail
      refine wp_region_held_drew (S := fun w' => RvI w verb (some ⟨g, o, none⟩) Aw nb nw cb cw w' ∧ w'.cell? ⟨g, o + k, none⟩ = some (.int .i64 x)) (by kernel_rfl) ⟨HS.out.same (Below.refl _ _).drew, y3⟩ (fun hHeld => ?_)
      refine wpAnyH_take (i := 0) (v := ?vbin0) rfl (by kernel_rfl) (by kernel_rfl) (by kernel_rfl) (fun _ _ _ h => h) (Or.inl ⟨by rfl, ?hybin0⟩) (by assumption) ?restbin0
      case hybin0 => (intro w_ hSw; (try dsimp only at hSw); obtain ⟨⟨_, h1_, d0_, d1_, d2_⟩, d3_⟩ := hSw; go_simp; (try with_reducible rfl))
      (try simp only [Act.put, List.setIfInBounds_toArray, List.set_cons_zero, List.set_cons_succ, List.getElem_toArray, List.getElem_cons_zero, List.getElem_cons_succ])
      refine wpAnyH_take (i := 1) (v := ?vbin1) rfl (by kernel_rfl) (by kernel_rfl) (by kernel_rfl) (fun _ _ _ h => h) (Or.inl ⟨by rfl, ?hybin1⟩) (by assumption) ?restbin1
      case hybin1 => (intro w_ hSw; (try dsimp only at hSw); obtain ⟨⟨_, h1_, d0_, d1_, d2_⟩, d3_⟩ := hSw; go_simp; (try with_reducible rfl))
      (try simp only [Act.put, List.setIfInBounds_toArray, List.set_cons_zero, List.set_cons_succ, List.getElem_toArray, List.getElem_cons_zero, List.getElem_cons_succ])
      refine wpAnyH_take (i := 2) (v := ?vbin2) rfl (by kernel_rfl) (by kernel_rfl) (by kernel_rfl) (fun _ _ _ h => h) (Or.inl ⟨by rfl, ?hybin2⟩) (by assumption) ?restbin2
      case hybin2 => (intro w_ hSw; (try dsimp only at hSw); obtain ⟨⟨_, h1_, d0_, d1_, d2_⟩, d3_⟩ := hSw; go_simp; (try with_reducible rfl))
      (try simp only [Act.put, List.setIfInBounds_toArray, List.set_cons_zero, List.set_cons_succ, List.getElem_toArray, List.getElem_cons_zero, List.getElem_cons_succ])
      refine wpAnyH_take (i := 3) (v := ?vbin3) rfl (by kernel_rfl) (by kernel_rfl) (by kernel_rfl) (fun _ _ _ h => h) (Or.inl ⟨by rfl, ?hybin3⟩) (by assumption) ?restbin3
      case hybin3 => (intro w_ hSw; (try dsimp only at hSw); obtain ⟨⟨_, h1_, d0_, d1_, d2_⟩, d3_⟩ := hSw; go_simp; (try with_reducible rfl))
      (try simp only [Act.put, List.setIfInBounds_toArray, List.set_cons_zero, List.set_cons_succ, List.getElem_toArray, List.getElem_cons_zero, List.getElem_cons_succ])
      refine wpAnyH_take (i := 4) (v := ?vbin4) rfl (by kernel_rfl) (by kernel_rfl) (by kernel_rfl) (fun _ _ _ h => h) (Or.inl ⟨by rfl, ?hybin4⟩) (by assumption) ?restbin4
      case hybin4 => (intro w_ hSw; (try dsimp only at hSw); obtain ⟨⟨_, h1_, d0_, d1_, d2_⟩, d3_⟩ := hSw; go_simp; (try with_reducible rfl))
      (try simp only [Act.put, List.setIfInBounds_toArray, List.set_cons_zero, List.set_cons_succ, List.getElem_toArray, List.getElem_cons_zero, List.getElem_cons_succ])
      refine wpAnyH_take (i := 5) (v := ?vbin5) rfl (by kernel_rfl) (by kernel_rfl) (by kernel_rfl) (fun _ _ _ h => h) (Or.inl ⟨by rfl, ?hybin5⟩) (by assumption) ?restbin5
      case hybin5 => (intro w_ hSw; (try dsimp only at hSw); obtain ⟨⟨_, h1_, d0_, d1_, d2_⟩, d3_⟩ := hSw; go_simp; (try with_reducible rfl))
      (try simp only [Act.put, List.setIfInBounds_toArray, List.set_cons_zero, List.set_cons_succ, List.getElem_toArray, List.getElem_cons_zero, List.getElem_cons_succ])
      refine wpAnyH_take (i := 6) (v := ?vbin6) rfl (by kernel_rfl) (by kernel_rfl) (by kernel_rfl) (fun _ _ _ h => h) (Or.inl ⟨by rfl, ?hybin6⟩) (by assumption) ?restbin6
      case hybin6 => (intro w_ hSw; (try dsimp only at hSw); obtain ⟨⟨_, h1_, d0_, d1_, d2_⟩, d3_⟩ := hSw; go_simp; (try with_reducible rfl))
      (try simp only [Act.put, List.setIfInBounds_toArray, List.set_cons_zero, List.set_cons_succ, List.getElem_toArray, List.getElem_cons_zero, List.getElem_cons_succ])
      refine wpAnyH_take (i := 7) (v := ?vbin7) rfl (by kernel_rfl) (by kernel_rfl) (by kernel_rfl) (fun _ _ _ h => h) (Or.inl ⟨by rfl, ?hybin7⟩) (by assumption) ?restbin7
      case hybin7 => (intro w_ hSw; (try dsimp only at hSw); obtain ⟨⟨_, h1_, d0_, d1_, d2_⟩, d3_⟩ := hSw; go_simp; (try with_reducible rfl))
      (try simp only [Act.put, List.setIfInBounds_toArray, List.set_cons_zero, List.set_cons_succ, List.getElem_toArray, List.getElem_cons_zero, List.getElem_cons_succ])
      refine wpAnyH_take (i := 8) (v := ?vbin8) rfl (by kernel_rfl) (by kernel_rfl) (by kernel_rfl) (fun _ _ _ h => h) (Or.inl ⟨by rfl, ?hybin8⟩) (by assumption) ?restbin8
      case hybin8 => (intro w_ hSw; (try dsimp only at hSw); obtain ⟨⟨_, h1_, d0_, d1_, d2_⟩, d3_⟩ := hSw; go_simp; (try with_reducible rfl))
      (try simp only [Act.put, List.setIfInBounds_toArray, List.set_cons_zero, List.set_cons_succ, List.getElem_toArray, List.getElem_cons_zero, List.getElem_cons_succ])
      refine wpAnyH_take (i := 9) (v := ?vbin9) rfl (by kernel_rfl) (by kernel_rfl) (by kernel_rfl) (fun _ _ _ h => h) (Or.inl ⟨by rfl, ?hybin9⟩) (by assumption) ?restbin9
      case hybin9 => (intro w_ hSw; (try dsimp only at hSw); obtain ⟨⟨_, h1_, d0_, d1_, d2_⟩, d3_⟩ := hSw; go_simp; (try with_reducible rfl))
      (try simp only [Act.put, List.setIfInBounds_toArray, List.set_cons_zero, List.set_cons_succ, List.getElem_toArray, List.getElem_cons_zero, List.getElem_cons_succ])
      refine wpAnyH_take (i := 10) (v := ?vbin10) rfl (by kernel_rfl) (by kernel_rfl) (by kernel_rfl) (fun _ _ _ h => h) (Or.inl ⟨by rfl, ?hybin10⟩) (by assumption) ?restbin10
      case hybin10 => (intro w_ hSw; (try dsimp only at hSw); obtain ⟨⟨_, h1_, d0_, d1_, d2_⟩, d3_⟩ := hSw; go_simp; (try with_reducible rfl))
      (try simp only [Act.put, List.setIfInBounds_toArray, List.set_cons_zero, List.set_cons_succ, List.getElem_toArray, List.getElem_cons_zero, List.getElem_cons_succ])
      refine wpAnyH_take (i := 11) (v := ?vbin11) rfl (by kernel_rfl) (by kernel_rfl) (by kernel_rfl) (fun _ _ _ h => h) (Or.inl ⟨by rfl, ?hybin11⟩) (by assumption) ?restbin11
      case hybin11 => (intro w_ hSw; (try dsimp only at hSw); obtain ⟨⟨_, h1_, d0_, d1_, d2_⟩, d3_⟩ := hSw; go_simp; (try with_reducible rfl))
      (try simp only [Act.put, List.setIfInBounds_toArray, List.set_cons_zero, List.set_cons_succ, List.getElem_toArray, List.getElem_cons_zero, List.getElem_cons_succ])
      refine wpAnyH_ready (rs := [12]) (by kernel_rfl) (by simp) ?_
      refine AllReadyH.cons rfl (fun K hK => ?_) AllReadyH.nil
      go_simp
      go_wp2_with (go_at_call 48; refine (ref_fd_low _).mono ?_; rintro e w3 ⟨rfl, hbx⟩)
      refine hK.out _ _ ?hSbin12 (fun hHeldbin12 => ?_)
      case hSbin12 => exact ⟨hHeld.1.same hbx, (hbx.cell (by simp only [World.size_drew]; omega)).trans hHeld.2⟩
      clear hK K
      (try simp only [Act.put, List.setIfInBounds_toArray, List.set_cons_zero, List.set_cons_succ, List.getElem_toArray, List.getElem_cons_zero, List.getElem_cons_succ])
      refine wpAnyH_take (i := 13) (v := ?vbin13) rfl (by kernel_rfl) (by kernel_rfl) (by kernel_rfl) (fun _ _ _ h => h) (Or.inl ⟨by rfl, ?hybin13⟩) (by assumption) ?restbin13
      case hybin13 => (intro w_ hSw; (try dsimp only at hSw); obtain ⟨⟨_, h1_, d0_, d1_, d2_⟩, d3_⟩ := hSw; go_simp; (try with_reducible rfl))
      (try simp only [Act.put, List.setIfInBounds_toArray, List.set_cons_zero, List.set_cons_succ, List.getElem_toArray, List.getElem_cons_zero, List.getElem_cons_succ])
      refine wpAnyH_take (i := 14) (v := ?vbin14) rfl (by kernel_rfl) (by kernel_rfl) (by kernel_rfl) (fun _ _ _ h => h) (Or.inl ⟨by rfl, ?hybin14⟩) (by assumption) ?restbin14
      case hybin14 => (intro w_ hSw; (try dsimp only at hSw); obtain ⟨⟨_, h1_, d0_, d1_, d2_⟩, d3_⟩ := hSw; go_simp; (try with_reducible rfl))
      (try simp only [Act.put, List.setIfInBounds_toArray, List.set_cons_zero, List.set_cons_succ, List.getElem_toArray, List.getElem_cons_zero, List.getElem_cons_succ])
      refine wpAnyH_take (i := 15) (v := ?vbin15) rfl (by kernel_rfl) (by kernel_rfl) (by kernel_rfl) (fun _ _ _ h => h) (Or.inl ⟨by rfl, ?hybin15⟩) (by assumption) ?restbin15
      case hybin15 => (intro w_ hSw; (try dsimp only at hSw); obtain ⟨⟨_, h1_, d0_, d1_, d2_⟩, d3_⟩ := hSw; go_simp; (try with_reducible rfl))
      (try simp only [Act.put, List.setIfInBounds_toArray, List.set_cons_zero, List.set_cons_succ, List.getElem_toArray, List.getElem_cons_zero, List.getElem_cons_succ])
      refine wpAnyH_take (i := 16) (v := ?vbin16) rfl (by kernel_rfl) (by kernel_rfl) (by kernel_rfl) (fun _ _ _ h => h) (Or.inl ⟨by rfl, ?hybin16⟩) (by assumption) ?restbin16
      case hybin16 => (intro w_ hSw; (try dsimp only at hSw); obtain ⟨⟨_, h1_, d0_, d1_, d2_⟩, d3_⟩ := hSw; go_simp; (try with_reducible rfl))
      (try simp only [Act.put, List.setIfInBounds_toArray, List.set_cons_zero, List.set_cons_succ, List.getElem_toArray, List.getElem_cons_zero, List.getElem_cons_succ])
      refine wpAnyH_take (i := 17) (v := ?vbin17) rfl (by kernel_rfl) (by kernel_rfl) (by kernel_rfl) (fun _ _ _ h => h) (Or.inl ⟨by rfl, ?hybin17⟩) (by assumption) ?restbin17
      case hybin17 => (intro w_ hSw; (try dsimp only at hSw); obtain ⟨⟨_, h1_, d0_, d1_, d2_⟩, d3_⟩ := hSw; go_simp; (try with_reducible rfl))
      (try simp only [Act.put, List.setIfInBounds_toArray, List.set_cons_zero, List.set_cons_succ, List.getElem_toArray, List.getElem_cons_zero, List.getElem_cons_succ])
      refine wpAnyH_take (i := 18) (v := ?vbin18) rfl (by kernel_rfl) (by kernel_rfl) (by kernel_rfl) (fun _ _ _ h => h) (Or.inl ⟨by rfl, ?hybin18⟩) (by assumption) ?restbin18
      case hybin18 => (intro w_ hSw; (try dsimp only at hSw); obtain ⟨⟨_, h1_, d0_, d1_, d2_⟩, d3_⟩ := hSw; go_simp; (try with_reducible rfl))
      (try simp only [Act.put, List.setIfInBounds_toArray, List.set_cons_zero, List.set_cons_succ, List.getElem_toArray, List.getElem_cons_zero, List.getElem_cons_succ])
      refine wpAnyH_take (i := 19) (v := ?vbin19) rfl (by kernel_rfl) (by kernel_rfl) (by kernel_rfl) (fun _ _ _ h => h) (Or.inl ⟨by rfl, ?hybin19⟩) (by assumption) ?restbin19
      case hybin19 => (intro w_ hSw; (try dsimp only at hSw); obtain ⟨⟨_, h1_, d0_, d1_, d2_⟩, d3_⟩ := hSw; go_simp; (try with_reducible rfl))
      (try simp only [Act.put, List.setIfInBounds_toArray, List.set_cons_zero, List.set_cons_succ, List.getElem_toArray, List.getElem_cons_zero, List.getElem_cons_succ])
      refine wpAnyH_take (i := 20) (v := ?vbin20) rfl (by kernel_rfl) (by kernel_rfl) (by kernel_rfl) (fun _ _ _ h => h) (Or.inl ⟨by rfl, ?hybin20⟩) (by assumption) ?restbin20
      case hybin20 => (intro w_ hSw; (try dsimp only at hSw); obtain ⟨⟨_, h1_, d0_, d1_, d2_⟩, d3_⟩ := hSw; go_simp; (try with_reducible rfl))
      (try simp only [Act.put, List.setIfInBounds_toArray, List.set_cons_zero, List.set_cons_succ, List.getElem_toArray, List.getElem_cons_zero, List.getElem_cons_succ])
      refine wpAnyH_take (i := 21) (v := ?vbin21) rfl (by kernel_rfl) (by kernel_rfl) (by kernel_rfl) (fun _ _ _ h => h) (Or.inl ⟨by rfl, ?hybin21⟩) (by assumption) ?restbin21
      case hybin21 => (intro w_ hSw; (try dsimp only at hSw); obtain ⟨⟨_, h1_, d0_, d1_, d2_⟩, d3_⟩ := hSw; go_simp; (try with_reducible rfl))
      (try simp only [Act.put, List.setIfInBounds_toArray, List.set_cons_zero, List.set_cons_succ, List.getElem_toArray, List.getElem_cons_zero, List.getElem_cons_succ])
      refine wpAnyH_take (i := 22) (v := ?vbin22) rfl (by kernel_rfl) (by kernel_rfl) (by kernel_rfl) (fun _ _ _ h => h) (Or.inl ⟨by rfl, ?hybin22⟩) (by assumption) ?restbin22
      case hybin22 => (intro w_ hSw; (try dsimp only at hSw); obtain ⟨⟨_, h1_, d0_, d1_, d2_⟩, d3_⟩ := hSw; go_simp; (try with_reducible rfl))
      (try simp only [Act.put, List.setIfInBounds_toArray, List.set_cons_zero, List.set_cons_succ, List.getElem_toArray, List.getElem_cons_zero, List.getElem_cons_succ])
      refine wpAnyH_take (i := 23) (v := ?vbin23) rfl (by kernel_rfl) (by kernel_rfl) (by kernel_rfl) (fun _ _ _ h => h) (Or.inl ⟨by rfl, ?hybin23⟩) (by assumption) ?restbin23
      case hybin23 => (intro w_ hSw; (try dsimp only at hSw); obtain ⟨⟨_, h1_, d0_, d1_, d2_⟩, d3_⟩ := hSw; go_simp; (try with_reducible rfl))
      (try simp only [Act.put, List.setIfInBounds_toArray, List.set_cons_zero, List.set_cons_succ, List.getElem_toArray, List.getElem_cons_zero, List.getElem_cons_succ])
      refine wpAnyH_take (i := 24) (v := ?vbin24) rfl (by kernel_rfl) (by kernel_rfl) (by kernel_rfl) (fun _ _ _ h => h) (Or.inl ⟨by rfl, ?hybin24⟩) (by assumption) ?restbin24
      case hybin24 => (intro w_ hSw; (try dsimp only at hSw); obtain ⟨⟨_, h1_, d0_, d1_, d2_⟩, d3_⟩ := hSw; go_simp; (try with_reducible rfl))
      (try simp only [Act.put, List.setIfInBounds_toArray, List.set_cons_zero, List.set_cons_succ, List.getElem_toArray, List.getElem_cons_zero, List.getElem_cons_succ])
      refine wpAnyH_take (i := 25) (v := ?vbin25) rfl (by kernel_rfl) (by kernel_rfl) (by kernel_rfl) (fun _ _ _ h => h) (Or.inl ⟨by rfl, ?hybin25⟩) (by assumption) ?restbin25
      case hybin25 => (intro w_ hSw; (try dsimp only at hSw); obtain ⟨⟨_, h1_, d0_, d1_, d2_⟩, d3_⟩ := hSw; go_simp; (try with_reducible rfl))
      (try simp only [Act.put, List.setIfInBounds_toArray, List.set_cons_zero, List.set_cons_succ, List.getElem_toArray, List.getElem_cons_zero, List.getElem_cons_succ])
      refine wpAnyH_ready (rs := [26]) (by kernel_rfl) (by simp) ?_
      refine AllReadyH.cons rfl (fun K hK => ?_) AllReadyH.nil
      go_simp
      go_wp2_with (go_at_call 55; refine (HHAS.out _ hHeldbin12.1.below).mono ?_; rintro e w4 ⟨rfl, hbx2⟩)
      refine hK.out _ _ ?hSbin26 (fun hHeldbin26 => ?_)
      case hSbin26 => exact ⟨hHeldbin12.1.same hbx2, (hbx2.cell (by have := hHeldbin12.1.lt; simp only []; omega)).trans hHeldbin12.2⟩
      clear hK K
      (try simp only [Act.put, List.setIfInBounds_toArray, List.set_cons_zero, List.set_cons_succ, List.getElem_toArray, List.getElem_cons_zero, List.getElem_cons_succ])
      refine wpAnyH_take (i := 27) (v := ?vbin27) rfl (by kernel_rfl) (by kernel_rfl) (by kernel_rfl) (fun _ _ _ h => h) (Or.inl ⟨by rfl, ?hybin27⟩) (by assumption) ?restbin27
      case hybin27 => (intro w_ hSw; (try dsimp only at hSw); obtain ⟨⟨_, h1_, d0_, d1_, d2_⟩, d3_⟩ := hSw; go_simp; (try with_reducible rfl))
      (try simp only [Act.put, List.setIfInBounds_toArray, List.set_cons_zero, List.set_cons_succ, List.getElem_toArray, List.getElem_cons_zero, List.getElem_cons_succ])
      refine wpAnyH_done (by kernel_rfl) ?_ _
      cases bb with
      | true =>
        have HNO := Lib.hid (HNG.out fun h => by simp at h)
        go_wp2_with fail
        go_ret
        exact ⟨⟨false, rfl, b_no HNO.out⟩, hHeldbin26.1.below⟩
      | false =>
        have HNY := Lib.hid (HGO.out ⟨⟨by omega, by omega⟩, rfl⟩)
        have HSN := Lib.hid hHeldbin26.1
        clear HGO HNG
        go_wp2_with fail
        go_roundw
        case rel => exact ⟨k + 1, by omega, by go_num, HSN.out, HNY.out⟩
        case measure => simp [intOf]; omega
    · have k3 : decide ((k : Int) < (nb : Int)) = false := by rw [decide_eq_false_iff_not]; omega
      have HGB : Hid (∀ j, j < byl.length → goodB byl j) := fun j hj => HD.out j (by have := HNB.out; omega)
      clear HD
      go_wp2_with fail
      go_loopw [4] (fun i x => ∃ k : Nat, k ≤ nw ∧ i = .int .i64 k ∧ RvI w verb Ab Aw nb nw cb cw x ∧ ∀ j, j < k → okCnd (wh.getD j default)) (fun i _ => nw - (intOf i).toNat)
      case atStart => exact ⟨0, by omega, rfl, HS.out, fun j h => by omega⟩
      case round =>
        clear HS c0 c1 c2 s1 s2
        obtain ⟨m, hm, rfl, hs, hd⟩ := hrel
        have HD := Lib.hid hd
        have HS := Lib.hid hs
        obtain ⟨s1, s2, c0, c1, c2⟩ := hs
        clear hd
        by_cases hlm : m < nw
        · have k5 : decide ((m : Int) < (nw : Int)) = true := by rw [decide_eq_true_eq]; omega
          obtain ⟨ad, rfl, had, b0, b1, b2⟩ := (HWH.out.lowQ hB (Nat.le_refl _) s1).cnd_at hlm
          have hml : m < wh.length := by have := HNW.out; omega
          have hadl : ad.block < w.heap.size := by omega
          have HOK : Hid (okCnd (wh.getD m default) → ∀ j, j < m + 1 → okCnd (wh.getD j default)) := fun h j hj => by
            by_cases e : j = m
            · rw [e]; exact h
            · exact HD.out j (by omega)
          have HNO : Hid (¬ okCnd (wh.getD m default) → ¬ OkQ ⟨verb, byl, wh⟩) := fun h hok => h ((HIFF.out.1 hok).2.2 m hml)
          have HPR : Hid (∀ w, Calls Tryz.prog 56 #[condV (wh.getD m default)] w fun e w' => e = .returned (.bool (okVal (wh.getD m default))) ∧ Below w.heap.size w w') := rproper_any _
          generalize wh.getD m default = cc at *
          have HOV := Lib.hid (okCnd_val cc)
          obtain ⟨f, o, v⟩ := cc
          simp only [] at b0 b1 b2
          have HPR2 : Hid (∀ w, Calls Tryz.prog 56 #[.agg #[.int .i64 f, .int .i64 o, .int .i64 v]] w fun e w' => e = .returned (.bool (okVal ⟨f, o, v⟩)) ∧ Below w.heap.size w w') := HPR.out
          clear HPR
          have HPR := HPR2
          clear HPR2
          generalize okVal ⟨f, o, v⟩ = ov at *
          go_wp2_with fail
          obtain ⟨G, hG⟩ : ∃ G, wr.heap.size = G := ⟨_, rfl⟩
          have HBX := Blk.new wr 72 #[.int .i64 f, .int .i64 o, .int .i64 v]
          have hs2 := HS.out.same ((Below.refl wr.heap.size wr).alloc (Nat.le_refl _) (.cells (#[.int .i64 f, .int .i64 o, .int .i64 v] : Array Value) 72))
          rw [hG] at HBX
          obtain ⟨wc, hwc⟩ : ∃ wc, wr.alloc (.cells (#[.int .i64 f, .int .i64 o, .int .i64 v] : Array Value) 72) = wc := ⟨_, rfl⟩
          rw [hwc] at HBX hs2 ⊢
          rw [hG]
          obtain ⟨z0, z1, z2⟩ := rd_cells HBX
          have HS2 := Lib.hid hs2
          have HS3 : Hid (∀ x : World, (RvI w verb Ab (some ad) nb nw cb cw x ∧ x.cell? ⟨G, 0, none⟩ = some (.int .i64 f) ∧ x.cell? ⟨G, 1, none⟩ = some (.int .i64 o) ∧ x.cell? ⟨G, 2, none⟩ = some (.int .i64 v)) → ∀ y : World, Below x.heap.size x y → (RvI w verb Ab (some ad) nb nw cb cw y ∧ y.cell? ⟨G, 0, none⟩ = some (.int .i64 f) ∧ y.cell? ⟨G, 1, none⟩ = some (.int .i64 o) ∧ y.cell? ⟨G, 2, none⟩ = some (.int .i64 v))) := fun x h y hb =>
            ⟨h.1.same hb, (hb.cell (World.block_lt_of_cell? _ _ h.2.1)).trans h.2.1, (hb.cell (World.block_lt_of_cell? _ _ h.2.2.1)).trans h.2.2.1, (hb.cell (World.block_lt_of_cell? _ _ h.2.2.2)).trans h.2.2.2⟩
          clear HS hs2 HBX b0 b1 b2 c0 c1 c2 hwz hwc s1
          by_cases f0 : f < 0
          · have e1 : decide (f < 0) = true := by rw [decide_eq_true_eq]; omega
            have HNX := Lib.hid (HNO.out fun h => by have := HOV.out.1 h; omega)
            refine wp_region_held_drew (S := fun w' => RvI w verb Ab (some ad) nb nw cb cw w' ∧ w'.cell? ⟨G, 0, none⟩ = some (.int .i64 f) ∧ w'.cell? ⟨G, 1, none⟩ = some (.int .i64 o) ∧ w'.cell? ⟨G, 2, none⟩ = some (.int .i64 v)) (by kernel_rfl) ⟨HS2.out.same (Below.refl _ _).drew, z0, z1, z2⟩ (fun hHeld => ?_)
            refine wpAnyH_take (i := 0) (v := ?vcf00) rfl (by kernel_rfl) (by kernel_rfl) (by kernel_rfl) (fun _ _ _ h => h) (Or.inl ⟨by rfl, ?hycf00⟩) (by assumption) ?restcf00
            case hycf00 => (intro w_ hSw; (try dsimp only at hSw); obtain ⟨⟨_, h1_, d0_, d1_, d2_⟩, d3_, d4_, d5_⟩ := hSw; go_simp; (try with_reducible rfl))
            (try simp only [Act.put, List.setIfInBounds_toArray, List.set_cons_zero, List.set_cons_succ, List.getElem_toArray, List.getElem_cons_zero, List.getElem_cons_succ])
            refine wpAnyH_take (i := 1) (v := ?vcf01) rfl (by kernel_rfl) (by kernel_rfl) (by kernel_rfl) (fun _ _ _ h => h) (Or.inl ⟨by rfl, ?hycf01⟩) (by assumption) ?restcf01
            case hycf01 => (intro w_ hSw; (try dsimp only at hSw); obtain ⟨⟨_, h1_, d0_, d1_, d2_⟩, d3_, d4_, d5_⟩ := hSw; go_simp; (try with_reducible rfl))
            (try simp only [Act.put, List.setIfInBounds_toArray, List.set_cons_zero, List.set_cons_succ, List.getElem_toArray, List.getElem_cons_zero, List.getElem_cons_succ])
            refine wpAnyH_take (i := 2) (v := ?vcf02) rfl (by kernel_rfl) (by kernel_rfl) (by kernel_rfl) (fun _ _ _ h => h) (Or.inl ⟨by rfl, ?hycf02⟩) (by assumption) ?restcf02
            case hycf02 => (intro w_ hSw; (try dsimp only at hSw); obtain ⟨⟨_, h1_, d0_, d1_, d2_⟩, d3_, d4_, d5_⟩ := hSw; go_simp; (try with_reducible rfl))
            (try simp only [Act.put, List.setIfInBounds_toArray, List.set_cons_zero, List.set_cons_succ, List.getElem_toArray, List.getElem_cons_zero, List.getElem_cons_succ])
            refine wpAnyH_take (i := 3) (v := ?vcf03) rfl (by kernel_rfl) (by kernel_rfl) (by kernel_rfl) (fun _ _ _ h => h) (Or.inl ⟨by rfl, ?hycf03⟩) (by assumption) ?restcf03
            case hycf03 => (intro w_ hSw; (try dsimp only at hSw); obtain ⟨⟨_, h1_, d0_, d1_, d2_⟩, d3_, d4_, d5_⟩ := hSw; go_simp; (try with_reducible rfl))
            (try simp only [Act.put, List.setIfInBounds_toArray, List.set_cons_zero, List.set_cons_succ, List.getElem_toArray, List.getElem_cons_zero, List.getElem_cons_succ])
            refine wpAnyH_take (i := 4) (v := undef) rfl (by kernel_rfl) (by kernel_rfl) (by kernel_rfl) (fun _ _ _ h => h) (Or.inr ⟨by rfl, rfl⟩) (by assumption) ?restcf04
            (try simp only [Act.put, List.setIfInBounds_toArray, List.set_cons_zero, List.set_cons_succ, List.getElem_toArray, List.getElem_cons_zero, List.getElem_cons_succ])
            refine wpAnyH_take (i := 5) (v := undef) rfl (by kernel_rfl) (by kernel_rfl) (by kernel_rfl) (fun _ _ _ h => h) (Or.inr ⟨by rfl, rfl⟩) (by assumption) ?restcf05
            (try simp only [Act.put, List.setIfInBounds_toArray, List.set_cons_zero, List.set_cons_succ, List.getElem_toArray, List.getElem_cons_zero, List.getElem_cons_succ])
            refine wpAnyH_take (i := 6) (v := undef) rfl (by kernel_rfl) (by kernel_rfl) (by kernel_rfl) (fun _ _ _ h => h) (Or.inr ⟨by rfl, rfl⟩) (by assumption) ?restcf06
            (try simp only [Act.put, List.setIfInBounds_toArray, List.set_cons_zero, List.set_cons_succ, List.getElem_toArray, List.getElem_cons_zero, List.getElem_cons_succ])
            refine wpAnyH_take (i := 7) (v := undef) rfl (by kernel_rfl) (by kernel_rfl) (by kernel_rfl) (fun _ _ _ h => h) (Or.inr ⟨by rfl, rfl⟩) (by assumption) ?restcf07
            (try simp only [Act.put, List.setIfInBounds_toArray, List.set_cons_zero, List.set_cons_succ, List.getElem_toArray, List.getElem_cons_zero, List.getElem_cons_succ])
            refine wpAnyH_take (i := 8) (v := undef) rfl (by kernel_rfl) (by kernel_rfl) (by kernel_rfl) (fun _ _ _ h => h) (Or.inr ⟨by rfl, rfl⟩) (by assumption) ?restcf08
            (try simp only [Act.put, List.setIfInBounds_toArray, List.set_cons_zero, List.set_cons_succ, List.getElem_toArray, List.getElem_cons_zero, List.getElem_cons_succ])
            refine wpAnyH_take (i := 9) (v := ?vcf09) rfl (by kernel_rfl) (by kernel_rfl) (by kernel_rfl) (fun _ _ _ h => h) (Or.inl ⟨by rfl, ?hycf09⟩) (by assumption) ?restcf09
            case hycf09 => (intro w_ hSw; (try dsimp only at hSw); obtain ⟨⟨_, h1_, d0_, d1_, d2_⟩, d3_, d4_, d5_⟩ := hSw; go_simp; (try with_reducible rfl))
            (try simp only [Act.put, List.setIfInBounds_toArray, List.set_cons_zero, List.set_cons_succ, List.getElem_toArray, List.getElem_cons_zero, List.getElem_cons_succ])
            refine wpAnyH_take (i := 10) (v := ?vcf010) rfl (by kernel_rfl) (by kernel_rfl) (by kernel_rfl) (fun _ _ _ h => h) (Or.inl ⟨by rfl, ?hycf010⟩) (by assumption) ?restcf010
            case hycf010 => (intro w_ hSw; (try dsimp only at hSw); obtain ⟨⟨_, h1_, d0_, d1_, d2_⟩, d3_, d4_, d5_⟩ := hSw; go_simp; (try with_reducible rfl))
            (try simp only [Act.put, List.setIfInBounds_toArray, List.set_cons_zero, List.set_cons_succ, List.getElem_toArray, List.getElem_cons_zero, List.getElem_cons_succ])
            refine wpAnyH_take (i := 11) (v := undef) rfl (by kernel_rfl) (by kernel_rfl) (by kernel_rfl) (fun _ _ _ h => h) (Or.inr ⟨by rfl, rfl⟩) (by assumption) ?restcf011
            (try simp only [Act.put, List.setIfInBounds_toArray, List.set_cons_zero, List.set_cons_succ, List.getElem_toArray, List.getElem_cons_zero, List.getElem_cons_succ])
            refine wpAnyH_take (i := 12) (v := undef) rfl (by kernel_rfl) (by kernel_rfl) (by kernel_rfl) (fun _ _ _ h => h) (Or.inr ⟨by rfl, rfl⟩) (by assumption) ?restcf012
            (try simp only [Act.put, List.setIfInBounds_toArray, List.set_cons_zero, List.set_cons_succ, List.getElem_toArray, List.getElem_cons_zero, List.getElem_cons_succ])
            refine wpAnyH_take (i := 13) (v := undef) rfl (by kernel_rfl) (by kernel_rfl) (by kernel_rfl) (fun _ _ _ h => h) (Or.inr ⟨by rfl, rfl⟩) (by assumption) ?restcf013
            (try simp only [Act.put, List.setIfInBounds_toArray, List.set_cons_zero, List.set_cons_succ, List.getElem_toArray, List.getElem_cons_zero, List.getElem_cons_succ])
            refine wpAnyH_take (i := 14) (v := ?vcf014) rfl (by kernel_rfl) (by kernel_rfl) (by kernel_rfl) (fun _ _ _ h => h) (Or.inl ⟨by rfl, ?hycf014⟩) (by assumption) ?restcf014
            case hycf014 => (intro w_ hSw; (try dsimp only at hSw); obtain ⟨⟨_, h1_, d0_, d1_, d2_⟩, d3_, d4_, d5_⟩ := hSw; go_simp; (try with_reducible rfl))
            (try simp only [Act.put, List.setIfInBounds_toArray, List.set_cons_zero, List.set_cons_succ, List.getElem_toArray, List.getElem_cons_zero, List.getElem_cons_succ])
            refine wpAnyH_take (i := 15) (v := ?vcf015) rfl (by kernel_rfl) (by kernel_rfl) (by kernel_rfl) (fun _ _ _ h => h) (Or.inl ⟨by rfl, ?hycf015⟩) (by assumption) ?restcf015
            case hycf015 => (intro w_ hSw; (try dsimp only at hSw); obtain ⟨⟨_, h1_, d0_, d1_, d2_⟩, d3_, d4_, d5_⟩ := hSw; go_simp; (try with_reducible rfl))
            (try simp only [Act.put, List.setIfInBounds_toArray, List.set_cons_zero, List.set_cons_succ, List.getElem_toArray, List.getElem_cons_zero, List.getElem_cons_succ])
            refine wpAnyH_take (i := 16) (v := undef) rfl (by kernel_rfl) (by kernel_rfl) (by kernel_rfl) (fun _ _ _ h => h) (Or.inr ⟨by rfl, rfl⟩) (by assumption) ?restcf016
            (try simp only [Act.put, List.setIfInBounds_toArray, List.set_cons_zero, List.set_cons_succ, List.getElem_toArray, List.getElem_cons_zero, List.getElem_cons_succ])
            refine wpAnyH_take (i := 17) (v := undef) rfl (by kernel_rfl) (by kernel_rfl) (by kernel_rfl) (fun _ _ _ h => h) (Or.inr ⟨by rfl, rfl⟩) (by assumption) ?restcf017
            (try simp only [Act.put, List.setIfInBounds_toArray, List.set_cons_zero, List.set_cons_succ, List.getElem_toArray, List.getElem_cons_zero, List.getElem_cons_succ])
            refine wpAnyH_take (i := 18) (v := undef) rfl (by kernel_rfl) (by kernel_rfl) (by kernel_rfl) (fun _ _ _ h => h) (Or.inr ⟨by rfl, rfl⟩) (by assumption) ?restcf018
            (try simp only [Act.put, List.setIfInBounds_toArray, List.set_cons_zero, List.set_cons_succ, List.getElem_toArray, List.getElem_cons_zero, List.getElem_cons_succ])
            refine wpAnyH_take (i := 19) (v := undef) rfl (by kernel_rfl) (by kernel_rfl) (by kernel_rfl) (fun _ _ _ h => h) (Or.inr ⟨by rfl, rfl⟩) (by assumption) ?restcf019
            (try simp only [Act.put, List.setIfInBounds_toArray, List.set_cons_zero, List.set_cons_succ, List.getElem_toArray, List.getElem_cons_zero, List.getElem_cons_succ])
            refine wpAnyH_take (i := 20) (v := undef) rfl (by kernel_rfl) (by kernel_rfl) (by kernel_rfl) (fun _ _ _ h => h) (Or.inr ⟨by rfl, rfl⟩) (by assumption) ?restcf020
            (try simp only [Act.put, List.setIfInBounds_toArray, List.set_cons_zero, List.set_cons_succ, List.getElem_toArray, List.getElem_cons_zero, List.getElem_cons_succ])
            refine wpAnyH_take (i := 21) (v := ?vcf021) rfl (by kernel_rfl) (by kernel_rfl) (by kernel_rfl) (fun _ _ _ h => h) (Or.inl ⟨by rfl, ?hycf021⟩) (by assumption) ?restcf021
            case hycf021 => (intro w_ hSw; (try dsimp only at hSw); obtain ⟨⟨_, h1_, d0_, d1_, d2_⟩, d3_, d4_, d5_⟩ := hSw; go_simp; (try with_reducible rfl))
            (try simp only [Act.put, List.setIfInBounds_toArray, List.set_cons_zero, List.set_cons_succ, List.getElem_toArray, List.getElem_cons_zero, List.getElem_cons_succ])
            refine wpAnyH_take (i := 22) (v := ?vcf022) rfl (by kernel_rfl) (by kernel_rfl) (by kernel_rfl) (fun _ _ _ h => h) (Or.inl ⟨by rfl, ?hycf022⟩) (by assumption) ?restcf022
            case hycf022 => (intro w_ hSw; (try dsimp only at hSw); obtain ⟨⟨_, h1_, d0_, d1_, d2_⟩, d3_, d4_, d5_⟩ := hSw; go_simp; (try with_reducible rfl))
            (try simp only [Act.put, List.setIfInBounds_toArray, List.set_cons_zero, List.set_cons_succ, List.getElem_toArray, List.getElem_cons_zero, List.getElem_cons_succ])
            refine wpAnyH_take (i := 23) (v := undef) rfl (by kernel_rfl) (by kernel_rfl) (by kernel_rfl) (fun _ _ _ h => h) (Or.inr ⟨by rfl, rfl⟩) (by assumption) ?restcf023
            (try simp only [Act.put, List.setIfInBounds_toArray, List.set_cons_zero, List.set_cons_succ, List.getElem_toArray, List.getElem_cons_zero, List.getElem_cons_succ])
            refine wpAnyH_take (i := 24) (v := undef) rfl (by kernel_rfl) (by kernel_rfl) (by kernel_rfl) (fun _ _ _ h => h) (Or.inr ⟨by rfl, rfl⟩) (by assumption) ?restcf024
            (try simp only [Act.put, List.setIfInBounds_toArray, List.set_cons_zero, List.set_cons_succ, List.getElem_toArray, List.getElem_cons_zero, List.getElem_cons_succ])
            refine wpAnyH_take (i := 25) (v := undef) rfl (by kernel_rfl) (by kernel_rfl) (by kernel_rfl) (fun _ _ _ h => h) (Or.inr ⟨by rfl, rfl⟩) (by assumption) ?restcf025
            (try simp only [Act.put, List.setIfInBounds_toArray, List.set_cons_zero, List.set_cons_succ, List.getElem_toArray, List.getElem_cons_zero, List.getElem_cons_succ])
            refine wpAnyH_take (i := 26) (v := ?vcf026) rfl (by kernel_rfl) (by kernel_rfl) (by kernel_rfl) (fun _ _ _ h => h) (Or.inl ⟨by rfl, ?hycf026⟩) (by assumption) ?restcf026
            case hycf026 => (intro w_ hSw; (try dsimp only at hSw); obtain ⟨⟨_, h1_, d0_, d1_, d2_⟩, d3_, d4_, d5_⟩ := hSw; go_simp; (try with_reducible rfl))
            (try simp only [Act.put, List.setIfInBounds_toArray, List.set_cons_zero, List.set_cons_succ, List.getElem_toArray, List.getElem_cons_zero, List.getElem_cons_succ])
            refine wpAnyH_done (by kernel_rfl) ?_ _
            go_wp2_with fail
            go_ret
            exact ⟨⟨false, rfl, b_no HNX.out⟩, hHeld.1.below⟩
          have e1 : decide (f < 0) = false := by rw [decide_eq_false_iff_not]; omega
          by_cases f5 : 5 ≤ f
          · have e2 : decide (5 ≤ f) = true := by rw [decide_eq_true_eq]; omega
            have HNX := Lib.hid (HNO.out fun h => by have := HOV.out.1 h; omega)
            refine wp_region_held_drew (S := fun w' => RvI w verb Ab (some ad) nb nw cb cw w' ∧ w'.cell? ⟨G, 0, none⟩ = some (.int .i64 f) ∧ w'.cell? ⟨G, 1, none⟩ = some (.int .i64 o) ∧ w'.cell? ⟨G, 2, none⟩ = some (.int .i64 v)) (by kernel_rfl) ⟨HS2.out.same (Below.refl _ _).drew, z0, z1, z2⟩ (fun hHeld => ?_)
            refine wpAnyH_take (i := 0) (v := ?vcf50) rfl (by kernel_rfl) (by kernel_rfl) (by kernel_rfl) (fun _ _ _ h => h) (Or.inl ⟨by rfl, ?hycf50⟩) (by assumption) ?restcf50
            case hycf50 => (intro w_ hSw; (try dsimp only at hSw); obtain ⟨⟨_, h1_, d0_, d1_, d2_⟩, d3_, d4_, d5_⟩ := hSw; go_simp; (try with_reducible rfl))
            (try simp only [Act.put, List.setIfInBounds_toArray, List.set_cons_zero, List.set_cons_succ, List.getElem_toArray, List.getElem_cons_zero, List.getElem_cons_succ])
            refine wpAnyH_take (i := 1) (v := ?vcf51) rfl (by kernel_rfl) (by kernel_rfl) (by kernel_rfl) (fun _ _ _ h => h) (Or.inl ⟨by rfl, ?hycf51⟩) (by assumption) ?restcf51
            case hycf51 => (intro w_ hSw; (try dsimp only at hSw); obtain ⟨⟨_, h1_, d0_, d1_, d2_⟩, d3_, d4_, d5_⟩ := hSw; go_simp; (try with_reducible rfl))
            (try simp only [Act.put, List.setIfInBounds_toArray, List.set_cons_zero, List.set_cons_succ, List.getElem_toArray, List.getElem_cons_zero, List.getElem_cons_succ])
            refine wpAnyH_take (i := 2) (v := ?vcf52) rfl (by kernel_rfl) (by kernel_rfl) (by kernel_rfl) (fun _ _ _ h => h) (Or.inl ⟨by rfl, ?hycf52⟩) (by assumption) ?restcf52
            case hycf52 => (intro w_ hSw; (try dsimp only at hSw); obtain ⟨⟨_, h1_, d0_, d1_, d2_⟩, d3_, d4_, d5_⟩ := hSw; go_simp; (try with_reducible rfl))
            (try simp only [Act.put, List.setIfInBounds_toArray, List.set_cons_zero, List.set_cons_succ, List.getElem_toArray, List.getElem_cons_zero, List.getElem_cons_succ])
            refine wpAnyH_take (i := 3) (v := ?vcf53) rfl (by kernel_rfl) (by kernel_rfl) (by kernel_rfl) (fun _ _ _ h => h) (Or.inl ⟨by rfl, ?hycf53⟩) (by assumption) ?restcf53
            case hycf53 => (intro w_ hSw; (try dsimp only at hSw); obtain ⟨⟨_, h1_, d0_, d1_, d2_⟩, d3_, d4_, d5_⟩ := hSw; go_simp; (try with_reducible rfl))
            (try simp only [Act.put, List.setIfInBounds_toArray, List.set_cons_zero, List.set_cons_succ, List.getElem_toArray, List.getElem_cons_zero, List.getElem_cons_succ])
            refine wpAnyH_take (i := 4) (v := ?vcf54) rfl (by kernel_rfl) (by kernel_rfl) (by kernel_rfl) (fun _ _ _ h => h) (Or.inl ⟨by rfl, ?hycf54⟩) (by assumption) ?restcf54
            case hycf54 => (intro w_ hSw; (try dsimp only at hSw); obtain ⟨⟨_, h1_, d0_, d1_, d2_⟩, d3_, d4_, d5_⟩ := hSw; go_simp; (try with_reducible rfl))
            (try simp only [Act.put, List.setIfInBounds_toArray, List.set_cons_zero, List.set_cons_succ, List.getElem_toArray, List.getElem_cons_zero, List.getElem_cons_succ])
            refine wpAnyH_take (i := 5) (v := ?vcf55) rfl (by kernel_rfl) (by kernel_rfl) (by kernel_rfl) (fun _ _ _ h => h) (Or.inl ⟨by rfl, ?hycf55⟩) (by assumption) ?restcf55
            case hycf55 => (intro w_ hSw; (try dsimp only at hSw); obtain ⟨⟨_, h1_, d0_, d1_, d2_⟩, d3_, d4_, d5_⟩ := hSw; go_simp; (try with_reducible rfl))
            (try simp only [Act.put, List.setIfInBounds_toArray, List.set_cons_zero, List.set_cons_succ, List.getElem_toArray, List.getElem_cons_zero, List.getElem_cons_succ])
            refine wpAnyH_ready (rs := [6]) (by kernel_rfl) (by simp) ?_
            refine AllReadyH.cons rfl (fun K hK => ?_) AllReadyH.nil
            go_simp
            go_wp2_with (go_at_call 48; refine (ref_fd_low _).mono ?_; rintro e w3 ⟨rfl, hbx⟩)
            refine hK.out _ _ ?hScf56 (fun hHeldcf56 => ?_)
            case hScf56 => exact HS3.out _ hHeld w3 hbx
            clear hK K
            (try simp only [Act.put, List.setIfInBounds_toArray, List.set_cons_zero, List.set_cons_succ, List.getElem_toArray, List.getElem_cons_zero, List.getElem_cons_succ])
            refine wpAnyH_take (i := 7) (v := ?vcf57) rfl (by kernel_rfl) (by kernel_rfl) (by kernel_rfl) (fun _ _ _ h => h) (Or.inl ⟨by rfl, ?hycf57⟩) (by assumption) ?restcf57
            case hycf57 => (intro w_ hSw; (try dsimp only at hSw); obtain ⟨⟨_, h1_, d0_, d1_, d2_⟩, d3_, d4_, d5_⟩ := hSw; go_simp; (try with_reducible rfl))
            (try simp only [Act.put, List.setIfInBounds_toArray, List.set_cons_zero, List.set_cons_succ, List.getElem_toArray, List.getElem_cons_zero, List.getElem_cons_succ])
            refine wpAnyH_take (i := 8) (v := ?vcf58) rfl (by kernel_rfl) (by kernel_rfl) (by kernel_rfl) (fun _ _ _ h => h) (Or.inl ⟨by rfl, ?hycf58⟩) (by assumption) ?restcf58
            case hycf58 => (intro w_ hSw; (try dsimp only at hSw); obtain ⟨⟨_, h1_, d0_, d1_, d2_⟩, d3_, d4_, d5_⟩ := hSw; go_simp; (try with_reducible rfl))
            (try simp only [Act.put, List.setIfInBounds_toArray, List.set_cons_zero, List.set_cons_succ, List.getElem_toArray, List.getElem_cons_zero, List.getElem_cons_succ])
            refine wpAnyH_take (i := 9) (v := ?vcf59) rfl (by kernel_rfl) (by kernel_rfl) (by kernel_rfl) (fun _ _ _ h => h) (Or.inl ⟨by rfl, ?hycf59⟩) (by assumption) ?restcf59
            case hycf59 => (intro w_ hSw; (try dsimp only at hSw); obtain ⟨⟨_, h1_, d0_, d1_, d2_⟩, d3_, d4_, d5_⟩ := hSw; go_simp; (try with_reducible rfl))
            (try simp only [Act.put, List.setIfInBounds_toArray, List.set_cons_zero, List.set_cons_succ, List.getElem_toArray, List.getElem_cons_zero, List.getElem_cons_succ])
            refine wpAnyH_take (i := 10) (v := ?vcf510) rfl (by kernel_rfl) (by kernel_rfl) (by kernel_rfl) (fun _ _ _ h => h) (Or.inl ⟨by rfl, ?hycf510⟩) (by assumption) ?restcf510
            case hycf510 => (intro w_ hSw; (try dsimp only at hSw); obtain ⟨⟨_, h1_, d0_, d1_, d2_⟩, d3_, d4_, d5_⟩ := hSw; go_simp; (try with_reducible rfl))
            (try simp only [Act.put, List.setIfInBounds_toArray, List.set_cons_zero, List.set_cons_succ, List.getElem_toArray, List.getElem_cons_zero, List.getElem_cons_succ])
            refine wpAnyH_take (i := 11) (v := undef) rfl (by kernel_rfl) (by kernel_rfl) (by kernel_rfl) (fun _ _ _ h => h) (Or.inr ⟨by rfl, rfl⟩) (by assumption) ?restcf511
            (try simp only [Act.put, List.setIfInBounds_toArray, List.set_cons_zero, List.set_cons_succ, List.getElem_toArray, List.getElem_cons_zero, List.getElem_cons_succ])
            refine wpAnyH_take (i := 12) (v := undef) rfl (by kernel_rfl) (by kernel_rfl) (by kernel_rfl) (fun _ _ _ h => h) (Or.inr ⟨by rfl, rfl⟩) (by assumption) ?restcf512
            (try simp only [Act.put, List.setIfInBounds_toArray, List.set_cons_zero, List.set_cons_succ, List.getElem_toArray, List.getElem_cons_zero, List.getElem_cons_succ])
            refine wpAnyH_take (i := 13) (v := undef) rfl (by kernel_rfl) (by kernel_rfl) (by kernel_rfl) (fun _ _ _ h => h) (Or.inr ⟨by rfl, rfl⟩) (by assumption) ?restcf513
            (try simp only [Act.put, List.setIfInBounds_toArray, List.set_cons_zero, List.set_cons_succ, List.getElem_toArray, List.getElem_cons_zero, List.getElem_cons_succ])
            refine wpAnyH_take (i := 14) (v := ?vcf514) rfl (by kernel_rfl) (by kernel_rfl) (by kernel_rfl) (fun _ _ _ h => h) (Or.inl ⟨by rfl, ?hycf514⟩) (by assumption) ?restcf514
            case hycf514 => (intro w_ hSw; (try dsimp only at hSw); obtain ⟨⟨_, h1_, d0_, d1_, d2_⟩, d3_, d4_, d5_⟩ := hSw; go_simp; (try with_reducible rfl))
            (try simp only [Act.put, List.setIfInBounds_toArray, List.set_cons_zero, List.set_cons_succ, List.getElem_toArray, List.getElem_cons_zero, List.getElem_cons_succ])
            refine wpAnyH_take (i := 15) (v := ?vcf515) rfl (by kernel_rfl) (by kernel_rfl) (by kernel_rfl) (fun _ _ _ h => h) (Or.inl ⟨by rfl, ?hycf515⟩) (by assumption) ?restcf515
            case hycf515 => (intro w_ hSw; (try dsimp only at hSw); obtain ⟨⟨_, h1_, d0_, d1_, d2_⟩, d3_, d4_, d5_⟩ := hSw; go_simp; (try with_reducible rfl))
            (try simp only [Act.put, List.setIfInBounds_toArray, List.set_cons_zero, List.set_cons_succ, List.getElem_toArray, List.getElem_cons_zero, List.getElem_cons_succ])
            refine wpAnyH_take (i := 16) (v := undef) rfl (by kernel_rfl) (by kernel_rfl) (by kernel_rfl) (fun _ _ _ h => h) (Or.inr ⟨by rfl, rfl⟩) (by assumption) ?restcf516
            (try simp only [Act.put, List.setIfInBounds_toArray, List.set_cons_zero, List.set_cons_succ, List.getElem_toArray, List.getElem_cons_zero, List.getElem_cons_succ])
            refine wpAnyH_take (i := 17) (v := undef) rfl (by kernel_rfl) (by kernel_rfl) (by kernel_rfl) (fun _ _ _ h => h) (Or.inr ⟨by rfl, rfl⟩) (by assumption) ?restcf517
            (try simp only [Act.put, List.setIfInBounds_toArray, List.set_cons_zero, List.set_cons_succ, List.getElem_toArray, List.getElem_cons_zero, List.getElem_cons_succ])
            refine wpAnyH_take (i := 18) (v := undef) rfl (by kernel_rfl) (by kernel_rfl) (by kernel_rfl) (fun _ _ _ h => h) (Or.inr ⟨by rfl, rfl⟩) (by assumption) ?restcf518
            (try simp only [Act.put, List.setIfInBounds_toArray, List.set_cons_zero, List.set_cons_succ, List.getElem_toArray, List.getElem_cons_zero, List.getElem_cons_succ])
            refine wpAnyH_take (i := 19) (v := undef) rfl (by kernel_rfl) (by kernel_rfl) (by kernel_rfl) (fun _ _ _ h => h) (Or.inr ⟨by rfl, rfl⟩) (by assumption) ?restcf519
            (try simp only [Act.put, List.setIfInBounds_toArray, List.set_cons_zero, List.set_cons_succ, List.getElem_toArray, List.getElem_cons_zero, List.getElem_cons_succ])
            refine wpAnyH_take (i := 20) (v := undef) rfl (by kernel_rfl) (by kernel_rfl) (by kernel_rfl) (fun _ _ _ h => h) (Or.inr ⟨by rfl, rfl⟩) (by assumption) ?restcf520
            (try simp only [Act.put, List.setIfInBounds_toArray, List.set_cons_zero, List.set_cons_succ, List.getElem_toArray, List.getElem_cons_zero, List.getElem_cons_succ])
            refine wpAnyH_take (i := 21) (v := ?vcf521) rfl (by kernel_rfl) (by kernel_rfl) (by kernel_rfl) (fun _ _ _ h => h) (Or.inl ⟨by rfl, ?hycf521⟩) (by assumption) ?restcf521
            case hycf521 => (intro w_ hSw; (try dsimp only at hSw); obtain ⟨⟨_, h1_, d0_, d1_, d2_⟩, d3_, d4_, d5_⟩ := hSw; go_simp; (try with_reducible rfl))
            (try simp only [Act.put, List.setIfInBounds_toArray, List.set_cons_zero, List.set_cons_succ, List.getElem_toArray, List.getElem_cons_zero, List.getElem_cons_succ])
            refine wpAnyH_take (i := 22) (v := ?vcf522) rfl (by kernel_rfl) (by kernel_rfl) (by kernel_rfl) (fun _ _ _ h => h) (Or.inl ⟨by rfl, ?hycf522⟩) (by assumption) ?restcf522
            case hycf522 => (intro w_ hSw; (try dsimp only at hSw); obtain ⟨⟨_, h1_, d0_, d1_, d2_⟩, d3_, d4_, d5_⟩ := hSw; go_simp; (try with_reducible rfl))
            (try simp only [Act.put, List.setIfInBounds_toArray, List.set_cons_zero, List.set_cons_succ, List.getElem_toArray, List.getElem_cons_zero, List.getElem_cons_succ])
            refine wpAnyH_take (i := 23) (v := undef) rfl (by kernel_rfl) (by kernel_rfl) (by kernel_rfl) (fun _ _ _ h => h) (Or.inr ⟨by rfl, rfl⟩) (by assumption) ?restcf523
            (try simp only [Act.put, List.setIfInBounds_toArray, List.set_cons_zero, List.set_cons_succ, List.getElem_toArray, List.getElem_cons_zero, List.getElem_cons_succ])
            refine wpAnyH_take (i := 24) (v := undef) rfl (by kernel_rfl) (by kernel_rfl) (by kernel_rfl) (fun _ _ _ h => h) (Or.inr ⟨by rfl, rfl⟩) (by assumption) ?restcf524
            (try simp only [Act.put, List.setIfInBounds_toArray, List.set_cons_zero, List.set_cons_succ, List.getElem_toArray, List.getElem_cons_zero, List.getElem_cons_succ])
            refine wpAnyH_take (i := 25) (v := undef) rfl (by kernel_rfl) (by kernel_rfl) (by kernel_rfl) (fun _ _ _ h => h) (Or.inr ⟨by rfl, rfl⟩) (by assumption) ?restcf525
            (try simp only [Act.put, List.setIfInBounds_toArray, List.set_cons_zero, List.set_cons_succ, List.getElem_toArray, List.getElem_cons_zero, List.getElem_cons_succ])
            refine wpAnyH_take (i := 26) (v := ?vcf526) rfl (by kernel_rfl) (by kernel_rfl) (by kernel_rfl) (fun _ _ _ h => h) (Or.inl ⟨by rfl, ?hycf526⟩) (by assumption) ?restcf526
            case hycf526 => (intro w_ hSw; (try dsimp only at hSw); obtain ⟨⟨_, h1_, d0_, d1_, d2_⟩, d3_, d4_, d5_⟩ := hSw; go_simp; (try with_reducible rfl))
            (try simp only [Act.put, List.setIfInBounds_toArray, List.set_cons_zero, List.set_cons_succ, List.getElem_toArray, List.getElem_cons_zero, List.getElem_cons_succ])
            refine wpAnyH_done (by kernel_rfl) ?_ _
            go_wp2_with fail
            go_ret
            exact ⟨⟨false, rfl, b_no HNX.out⟩, hHeldcf56.1.below⟩
          have e2 : decide (5 ≤ f) = false := by rw [decide_eq_false_iff_not]; omega
          by_cases o0 : o < 0
          · have e3 : decide (o < 0) = true := by rw [decide_eq_true_eq]; omega
            have HNX := Lib.hid (HNO.out fun h => by have := HOV.out.1 h; omega)
            refine wp_region_held_drew (S := fun w' => RvI w verb Ab (some ad) nb nw cb cw w' ∧ w'.cell? ⟨G, 0, none⟩ = some (.int .i64 f) ∧ w'.cell? ⟨G, 1, none⟩ = some (.int .i64 o) ∧ w'.cell? ⟨G, 2, none⟩ = some (.int .i64 v)) (by kernel_rfl) ⟨HS2.out.same (Below.refl _ _).drew, z0, z1, z2⟩ (fun hHeld => ?_)
            refine wpAnyH_take (i := 0) (v := ?vco00) rfl (by kernel_rfl) (by kernel_rfl) (by kernel_rfl) (fun _ _ _ h => h) (Or.inl ⟨by rfl, ?hyco00⟩) (by assumption) ?restco00
            case hyco00 => (intro w_ hSw; (try dsimp only at hSw); obtain ⟨⟨_, h1_, d0_, d1_, d2_⟩, d3_, d4_, d5_⟩ := hSw; go_simp; (try with_reducible rfl))
            (try simp only [Act.put, List.setIfInBounds_toArray, List.set_cons_zero, List.set_cons_succ, List.getElem_toArray, List.getElem_cons_zero, List.getElem_cons_succ])
            refine wpAnyH_take (i := 1) (v := ?vco01) rfl (by kernel_rfl) (by kernel_rfl) (by kernel_rfl) (fun _ _ _ h => h) (Or.inl ⟨by rfl, ?hyco01⟩) (by assumption) ?restco01
            case hyco01 => (intro w_ hSw; (try dsimp only at hSw); obtain ⟨⟨_, h1_, d0_, d1_, d2_⟩, d3_, d4_, d5_⟩ := hSw; go_simp; (try with_reducible rfl))
            (try simp only [Act.put, List.setIfInBounds_toArray, List.set_cons_zero, List.set_cons_succ, List.getElem_toArray, List.getElem_cons_zero, List.getElem_cons_succ])
            refine wpAnyH_take (i := 2) (v := ?vco02) rfl (by kernel_rfl) (by kernel_rfl) (by kernel_rfl) (fun _ _ _ h => h) (Or.inl ⟨by rfl, ?hyco02⟩) (by assumption) ?restco02
            case hyco02 => (intro w_ hSw; (try dsimp only at hSw); obtain ⟨⟨_, h1_, d0_, d1_, d2_⟩, d3_, d4_, d5_⟩ := hSw; go_simp; (try with_reducible rfl))
            (try simp only [Act.put, List.setIfInBounds_toArray, List.set_cons_zero, List.set_cons_succ, List.getElem_toArray, List.getElem_cons_zero, List.getElem_cons_succ])
            refine wpAnyH_take (i := 3) (v := ?vco03) rfl (by kernel_rfl) (by kernel_rfl) (by kernel_rfl) (fun _ _ _ h => h) (Or.inl ⟨by rfl, ?hyco03⟩) (by assumption) ?restco03
            case hyco03 => (intro w_ hSw; (try dsimp only at hSw); obtain ⟨⟨_, h1_, d0_, d1_, d2_⟩, d3_, d4_, d5_⟩ := hSw; go_simp; (try with_reducible rfl))
            (try simp only [Act.put, List.setIfInBounds_toArray, List.set_cons_zero, List.set_cons_succ, List.getElem_toArray, List.getElem_cons_zero, List.getElem_cons_succ])
            refine wpAnyH_take (i := 4) (v := ?vco04) rfl (by kernel_rfl) (by kernel_rfl) (by kernel_rfl) (fun _ _ _ h => h) (Or.inl ⟨by rfl, ?hyco04⟩) (by assumption) ?restco04
            case hyco04 => (intro w_ hSw; (try dsimp only at hSw); obtain ⟨⟨_, h1_, d0_, d1_, d2_⟩, d3_, d4_, d5_⟩ := hSw; go_simp; (try with_reducible rfl))
            (try simp only [Act.put, List.setIfInBounds_toArray, List.set_cons_zero, List.set_cons_succ, List.getElem_toArray, List.getElem_cons_zero, List.getElem_cons_succ])
            refine wpAnyH_take (i := 5) (v := ?vco05) rfl (by kernel_rfl) (by kernel_rfl) (by kernel_rfl) (fun _ _ _ h => h) (Or.inl ⟨by rfl, ?hyco05⟩) (by assumption) ?restco05
            case hyco05 => (intro w_ hSw; (try dsimp only at hSw); obtain ⟨⟨_, h1_, d0_, d1_, d2_⟩, d3_, d4_, d5_⟩ := hSw; go_simp; (try with_reducible rfl))
            (try simp only [Act.put, List.setIfInBounds_toArray, List.set_cons_zero, List.set_cons_succ, List.getElem_toArray, List.getElem_cons_zero, List.getElem_cons_succ])
            refine wpAnyH_ready (rs := [6]) (by kernel_rfl) (by simp) ?_
            refine AllReadyH.cons rfl (fun K hK => ?_) AllReadyH.nil
            go_simp
            go_wp2_with (go_at_call 48; refine (ref_fd_low _).mono ?_; rintro e w3 ⟨rfl, hbx⟩)
            refine hK.out _ _ ?hSco06 (fun hHeldco06 => ?_)
            case hSco06 => exact HS3.out _ hHeld w3 hbx
            clear hK K
            (try simp only [Act.put, List.setIfInBounds_toArray, List.set_cons_zero, List.set_cons_succ, List.getElem_toArray, List.getElem_cons_zero, List.getElem_cons_succ])
            refine wpAnyH_take (i := 7) (v := ?vco07) rfl (by kernel_rfl) (by kernel_rfl) (by kernel_rfl) (fun _ _ _ h => h) (Or.inl ⟨by rfl, ?hyco07⟩) (by assumption) ?restco07
            case hyco07 => (intro w_ hSw; (try dsimp only at hSw); obtain ⟨⟨_, h1_, d0_, d1_, d2_⟩, d3_, d4_, d5_⟩ := hSw; go_simp; (try with_reducible rfl))
            (try simp only [Act.put, List.setIfInBounds_toArray, List.set_cons_zero, List.set_cons_succ, List.getElem_toArray, List.getElem_cons_zero, List.getElem_cons_succ])
            refine wpAnyH_take (i := 8) (v := ?vco08) rfl (by kernel_rfl) (by kernel_rfl) (by kernel_rfl) (fun _ _ _ h => h) (Or.inl ⟨by rfl, ?hyco08⟩) (by assumption) ?restco08
            case hyco08 => (intro w_ hSw; (try dsimp only at hSw); obtain ⟨⟨_, h1_, d0_, d1_, d2_⟩, d3_, d4_, d5_⟩ := hSw; go_simp; (try with_reducible rfl))
            (try simp only [Act.put, List.setIfInBounds_toArray, List.set_cons_zero, List.set_cons_succ, List.getElem_toArray, List.getElem_cons_zero, List.getElem_cons_succ])
            refine wpAnyH_take (i := 9) (v := ?vco09) rfl (by kernel_rfl) (by kernel_rfl) (by kernel_rfl) (fun _ _ _ h => h) (Or.inl ⟨by rfl, ?hyco09⟩) (by assumption) ?restco09
            case hyco09 => (intro w_ hSw; (try dsimp only at hSw); obtain ⟨⟨_, h1_, d0_, d1_, d2_⟩, d3_, d4_, d5_⟩ := hSw; go_simp; (try with_reducible rfl))
            (try simp only [Act.put, List.setIfInBounds_toArray, List.set_cons_zero, List.set_cons_succ, List.getElem_toArray, List.getElem_cons_zero, List.getElem_cons_succ])
            refine wpAnyH_take (i := 10) (v := ?vco010) rfl (by kernel_rfl) (by kernel_rfl) (by kernel_rfl) (fun _ _ _ h => h) (Or.inl ⟨by rfl, ?hyco010⟩) (by assumption) ?restco010
            case hyco010 => (intro w_ hSw; (try dsimp only at hSw); obtain ⟨⟨_, h1_, d0_, d1_, d2_⟩, d3_, d4_, d5_⟩ := hSw; go_simp; (try with_reducible rfl))
            (try simp only [Act.put, List.setIfInBounds_toArray, List.set_cons_zero, List.set_cons_succ, List.getElem_toArray, List.getElem_cons_zero, List.getElem_cons_succ])
            refine wpAnyH_take (i := 11) (v := ?vco011) rfl (by kernel_rfl) (by kernel_rfl) (by kernel_rfl) (fun _ _ _ h => h) (Or.inl ⟨by rfl, ?hyco011⟩) (by assumption) ?restco011
            case hyco011 => (intro w_ hSw; (try dsimp only at hSw); obtain ⟨⟨_, h1_, d0_, d1_, d2_⟩, d3_, d4_, d5_⟩ := hSw; go_simp; (try with_reducible rfl))
            (try simp only [Act.put, List.setIfInBounds_toArray, List.set_cons_zero, List.set_cons_succ, List.getElem_toArray, List.getElem_cons_zero, List.getElem_cons_succ])
            refine wpAnyH_take (i := 12) (v := ?vco012) rfl (by kernel_rfl) (by kernel_rfl) (by kernel_rfl) (fun _ _ _ h => h) (Or.inl ⟨by rfl, ?hyco012⟩) (by assumption) ?restco012
            case hyco012 => (intro w_ hSw; (try dsimp only at hSw); obtain ⟨⟨_, h1_, d0_, d1_, d2_⟩, d3_, d4_, d5_⟩ := hSw; go_simp; (try with_reducible rfl))
            (try simp only [Act.put, List.setIfInBounds_toArray, List.set_cons_zero, List.set_cons_succ, List.getElem_toArray, List.getElem_cons_zero, List.getElem_cons_succ])
            refine wpAnyH_take (i := 13) (v := ?vco013) rfl (by kernel_rfl) (by kernel_rfl) (by kernel_rfl) (fun _ _ _ h => h) (Or.inl ⟨by rfl, ?hyco013⟩) (by assumption) ?restco013
            case hyco013 => (intro w_ hSw; (try dsimp only at hSw); obtain ⟨⟨_, h1_, d0_, d1_, d2_⟩, d3_, d4_, d5_⟩ := hSw; go_simp; (try with_reducible rfl))
            (try simp only [Act.put, List.setIfInBounds_toArray, List.set_cons_zero, List.set_cons_succ, List.getElem_toArray, List.getElem_cons_zero, List.getElem_cons_succ])
            refine wpAnyH_take (i := 14) (v := ?vco014) rfl (by kernel_rfl) (by kernel_rfl) (by kernel_rfl) (fun _ _ _ h => h) (Or.inl ⟨by rfl, ?hyco014⟩) (by assumption) ?restco014
            case hyco014 => (intro w_ hSw; (try dsimp only at hSw); obtain ⟨⟨_, h1_, d0_, d1_, d2_⟩, d3_, d4_, d5_⟩ := hSw; go_simp; (try with_reducible rfl))
            (try simp only [Act.put, List.setIfInBounds_toArray, List.set_cons_zero, List.set_cons_succ, List.getElem_toArray, List.getElem_cons_zero, List.getElem_cons_succ])
            refine wpAnyH_take (i := 15) (v := ?vco015) rfl (by kernel_rfl) (by kernel_rfl) (by kernel_rfl) (fun _ _ _ h => h) (Or.inl ⟨by rfl, ?hyco015⟩) (by assumption) ?restco015
            case hyco015 => (intro w_ hSw; (try dsimp only at hSw); obtain ⟨⟨_, h1_, d0_, d1_, d2_⟩, d3_, d4_, d5_⟩ := hSw; go_simp; (try with_reducible rfl))
            (try simp only [Act.put, List.setIfInBounds_toArray, List.set_cons_zero, List.set_cons_succ, List.getElem_toArray, List.getElem_cons_zero, List.getElem_cons_succ])
            refine wpAnyH_take (i := 16) (v := undef) rfl (by kernel_rfl) (by kernel_rfl) (by kernel_rfl) (fun _ _ _ h => h) (Or.inr ⟨by rfl, rfl⟩) (by assumption) ?restco016
            (try simp only [Act.put, List.setIfInBounds_toArray, List.set_cons_zero, List.set_cons_succ, List.getElem_toArray, List.getElem_cons_zero, List.getElem_cons_succ])
            refine wpAnyH_take (i := 17) (v := undef) rfl (by kernel_rfl) (by kernel_rfl) (by kernel_rfl) (fun _ _ _ h => h) (Or.inr ⟨by rfl, rfl⟩) (by assumption) ?restco017
            (try simp only [Act.put, List.setIfInBounds_toArray, List.set_cons_zero, List.set_cons_succ, List.getElem_toArray, List.getElem_cons_zero, List.getElem_cons_succ])
            refine wpAnyH_take (i := 18) (v := undef) rfl (by kernel_rfl) (by kernel_rfl) (by kernel_rfl) (fun _ _ _ h => h) (Or.inr ⟨by rfl, rfl⟩) (by assumption) ?restco018
            (try simp only [Act.put, List.setIfInBounds_toArray, List.set_cons_zero, List.set_cons_succ, List.getElem_toArray, List.getElem_cons_zero, List.getElem_cons_succ])
            refine wpAnyH_take (i := 19) (v := undef) rfl (by kernel_rfl) (by kernel_rfl) (by kernel_rfl) (fun _ _ _ h => h) (Or.inr ⟨by rfl, rfl⟩) (by assumption) ?restco019
            (try simp only [Act.put, List.setIfInBounds_toArray, List.set_cons_zero, List.set_cons_succ, List.getElem_toArray, List.getElem_cons_zero, List.getElem_cons_succ])
            refine wpAnyH_take (i := 20) (v := undef) rfl (by kernel_rfl) (by kernel_rfl) (by kernel_rfl) (fun _ _ _ h => h) (Or.inr ⟨by rfl, rfl⟩) (by assumption) ?restco020
            (try simp only [Act.put, List.setIfInBounds_toArray, List.set_cons_zero, List.set_cons_succ, List.getElem_toArray, List.getElem_cons_zero, List.getElem_cons_succ])
            refine wpAnyH_take (i := 21) (v := ?vco021) rfl (by kernel_rfl) (by kernel_rfl) (by kernel_rfl) (fun _ _ _ h => h) (Or.inl ⟨by rfl, ?hyco021⟩) (by assumption) ?restco021
            case hyco021 => (intro w_ hSw; (try dsimp only at hSw); obtain ⟨⟨_, h1_, d0_, d1_, d2_⟩, d3_, d4_, d5_⟩ := hSw; go_simp; (try with_reducible rfl))
            (try simp only [Act.put, List.setIfInBounds_toArray, List.set_cons_zero, List.set_cons_succ, List.getElem_toArray, List.getElem_cons_zero, List.getElem_cons_succ])
            refine wpAnyH_take (i := 22) (v := ?vco022) rfl (by kernel_rfl) (by kernel_rfl) (by kernel_rfl) (fun _ _ _ h => h) (Or.inl ⟨by rfl, ?hyco022⟩) (by assumption) ?restco022
            case hyco022 => (intro w_ hSw; (try dsimp only at hSw); obtain ⟨⟨_, h1_, d0_, d1_, d2_⟩, d3_, d4_, d5_⟩ := hSw; go_simp; (try with_reducible rfl))
            (try simp only [Act.put, List.setIfInBounds_toArray, List.set_cons_zero, List.set_cons_succ, List.getElem_toArray, List.getElem_cons_zero, List.getElem_cons_succ])
            refine wpAnyH_take (i := 23) (v := undef) rfl (by kernel_rfl) (by kernel_rfl) (by kernel_rfl) (fun _ _ _ h => h) (Or.inr ⟨by rfl, rfl⟩) (by assumption) ?restco023
            (try simp only [Act.put, List.setIfInBounds_toArray, List.set_cons_zero, List.set_cons_succ, List.getElem_toArray, List.getElem_cons_zero, List.getElem_cons_succ])
            refine wpAnyH_take (i := 24) (v := undef) rfl (by kernel_rfl) (by kernel_rfl) (by kernel_rfl) (fun _ _ _ h => h) (Or.inr ⟨by rfl, rfl⟩) (by assumption) ?restco024
            (try simp only [Act.put, List.setIfInBounds_toArray, List.set_cons_zero, List.set_cons_succ, List.getElem_toArray, List.getElem_cons_zero, List.getElem_cons_succ])
            refine wpAnyH_take (i := 25) (v := undef) rfl (by kernel_rfl) (by kernel_rfl) (by kernel_rfl) (fun _ _ _ h => h) (Or.inr ⟨by rfl, rfl⟩) (by assumption) ?restco025
            (try simp only [Act.put, List.setIfInBounds_toArray, List.set_cons_zero, List.set_cons_succ, List.getElem_toArray, List.getElem_cons_zero, List.getElem_cons_succ])
            refine wpAnyH_take (i := 26) (v := ?vco026) rfl (by kernel_rfl) (by kernel_rfl) (by kernel_rfl) (fun _ _ _ h => h) (Or.inl ⟨by rfl, ?hyco026⟩) (by assumption) ?restco026
            case hyco026 => (intro w_ hSw; (try dsimp only at hSw); obtain ⟨⟨_, h1_, d0_, d1_, d2_⟩, d3_, d4_, d5_⟩ := hSw; go_simp; (try with_reducible rfl))
            (try simp only [Act.put, List.setIfInBounds_toArray, List.set_cons_zero, List.set_cons_succ, List.getElem_toArray, List.getElem_cons_zero, List.getElem_cons_succ])
            refine wpAnyH_done (by kernel_rfl) ?_ _
            go_wp2_with fail
            go_ret
            exact ⟨⟨false, rfl, b_no HNX.out⟩, hHeldco06.1.below⟩
          have e3 : decide (o < 0) = false := by rw [decide_eq_false_iff_not]; omega
          by_cases o6 : 6 ≤ o
          · have e4 : decide (6 ≤ o) = true := by rw [decide_eq_true_eq]; omega
            have HNX := Lib.hid (HNO.out fun h => by have := HOV.out.1 h; omega)
            refine wp_region_held_drew (S := fun w' => RvI w verb Ab (some ad) nb nw cb cw w' ∧ w'.cell? ⟨G, 0, none⟩ = some (.int .i64 f) ∧ w'.cell? ⟨G, 1, none⟩ = some (.int .i64 o) ∧ w'.cell? ⟨G, 2, none⟩ = some (.int .i64 v)) (by kernel_rfl) ⟨HS2.out.same (Below.refl _ _).drew, z0, z1, z2⟩ (fun hHeld => ?_)
            refine wpAnyH_take (i := 0) (v := ?vco60) rfl (by kernel_rfl) (by kernel_rfl) (by kernel_rfl) (fun _ _ _ h => h) (Or.inl ⟨by rfl, ?hyco60⟩) (by assumption) ?restco60
            case hyco60 => (intro w_ hSw; (try dsimp only at hSw); obtain ⟨⟨_, h1_, d0_, d1_, d2_⟩, d3_, d4_, d5_⟩ := hSw; go_simp; (try with_reducible rfl))
            (try simp only [Act.put, List.setIfInBounds_toArray, List.set_cons_zero, List.set_cons_succ, List.getElem_toArray, List.getElem_cons_zero, List.getElem_cons_succ])
            refine wpAnyH_take (i := 1) (v := ?vco61) rfl (by kernel_rfl) (by kernel_rfl) (by kernel_rfl) (fun _ _ _ h => h) (Or.inl ⟨by rfl, ?hyco61⟩) (by assumption) ?restco61
            case hyco61 => (intro w_ hSw; (try dsimp only at hSw); obtain ⟨⟨_, h1_, d0_, d1_, d2_⟩, d3_, d4_, d5_⟩ := hSw; go_simp; (try with_reducible rfl))
            (try simp only [Act.put, List.setIfInBounds_toArray, List.set_cons_zero, List.set_cons_succ, List.getElem_toArray, List.getElem_cons_zero, List.getElem_cons_succ])
            refine wpAnyH_take (i := 2) (v := ?vco62) rfl (by kernel_rfl) (by kernel_rfl) (by kernel_rfl) (fun _ _ _ h => h) (Or.inl ⟨by rfl, ?hyco62⟩) (by assumption) ?restco62
            case hyco62 => (intro w_ hSw; (try dsimp only at hSw); obtain ⟨⟨_, h1_, d0_, d1_, d2_⟩, d3_, d4_, d5_⟩ := hSw; go_simp; (try with_reducible rfl))
            (try simp only [Act.put, List.setIfInBounds_toArray, List.set_cons_zero, List.set_cons_succ, List.getElem_toArray, List.getElem_cons_zero, List.getElem_cons_succ])
            refine wpAnyH_take (i := 3) (v := ?vco63) rfl (by kernel_rfl) (by kernel_rfl) (by kernel_rfl) (fun _ _ _ h => h) (Or.inl ⟨by rfl, ?hyco63⟩) (by assumption) ?restco63
            case hyco63 => (intro w_ hSw; (try dsimp only at hSw); obtain ⟨⟨_, h1_, d0_, d1_, d2_⟩, d3_, d4_, d5_⟩ := hSw; go_simp; (try with_reducible rfl))
            (try simp only [Act.put, List.setIfInBounds_toArray, List.set_cons_zero, List.set_cons_succ, List.getElem_toArray, List.getElem_cons_zero, List.getElem_cons_succ])
            refine wpAnyH_take (i := 4) (v := ?vco64) rfl (by kernel_rfl) (by kernel_rfl) (by kernel_rfl) (fun _ _ _ h => h) (Or.inl ⟨by rfl, ?hyco64⟩) (by assumption) ?restco64
            case hyco64 => (intro w_ hSw; (try dsimp only at hSw); obtain ⟨⟨_, h1_, d0_, d1_, d2_⟩, d3_, d4_, d5_⟩ := hSw; go_simp; (try with_reducible rfl))
            (try simp only [Act.put, List.setIfInBounds_toArray, List.set_cons_zero, List.set_cons_succ, List.getElem_toArray, List.getElem_cons_zero, List.getElem_cons_succ])
            refine wpAnyH_take (i := 5) (v := ?vco65) rfl (by kernel_rfl) (by kernel_rfl) (by kernel_rfl) (fun _ _ _ h => h) (Or.inl ⟨by rfl, ?hyco65⟩) (by assumption) ?restco65
            case hyco65 => (intro w_ hSw; (try dsimp only at hSw); obtain ⟨⟨_, h1_, d0_, d1_, d2_⟩, d3_, d4_, d5_⟩ := hSw; go_simp; (try with_reducible rfl))
            (try simp only [Act.put, List.setIfInBounds_toArray, List.set_cons_zero, List.set_cons_succ, List.getElem_toArray, List.getElem_cons_zero, List.getElem_cons_succ])
            refine wpAnyH_ready (rs := [6]) (by kernel_rfl) (by simp) ?_
            refine AllReadyH.cons rfl (fun K hK => ?_) AllReadyH.nil
            go_simp
            go_wp2_with (go_at_call 48; refine (ref_fd_low _).mono ?_; rintro e w3 ⟨rfl, hbx⟩)
            refine hK.out _ _ ?hSco66 (fun hHeldco66 => ?_)
            case hSco66 => exact HS3.out _ hHeld w3 hbx
            clear hK K
            (try simp only [Act.put, List.setIfInBounds_toArray, List.set_cons_zero, List.set_cons_succ, List.getElem_toArray, List.getElem_cons_zero, List.getElem_cons_succ])
            refine wpAnyH_take (i := 7) (v := ?vco67) rfl (by kernel_rfl) (by kernel_rfl) (by kernel_rfl) (fun _ _ _ h => h) (Or.inl ⟨by rfl, ?hyco67⟩) (by assumption) ?restco67
            case hyco67 => (intro w_ hSw; (try dsimp only at hSw); obtain ⟨⟨_, h1_, d0_, d1_, d2_⟩, d3_, d4_, d5_⟩ := hSw; go_simp; (try with_reducible rfl))
            (try simp only [Act.put, List.setIfInBounds_toArray, List.set_cons_zero, List.set_cons_succ, List.getElem_toArray, List.getElem_cons_zero, List.getElem_cons_succ])
            refine wpAnyH_take (i := 8) (v := ?vco68) rfl (by kernel_rfl) (by kernel_rfl) (by kernel_rfl) (fun _ _ _ h => h) (Or.inl ⟨by rfl, ?hyco68⟩) (by assumption) ?restco68
            case hyco68 => (intro w_ hSw; (try dsimp only at hSw); obtain ⟨⟨_, h1_, d0_, d1_, d2_⟩, d3_, d4_, d5_⟩ := hSw; go_simp; (try with_reducible rfl))
            (try simp only [Act.put, List.setIfInBounds_toArray, List.set_cons_zero, List.set_cons_succ, List.getElem_toArray, List.getElem_cons_zero, List.getElem_cons_succ])
            refine wpAnyH_take (i := 9) (v := ?vco69) rfl (by kernel_rfl) (by kernel_rfl) (by kernel_rfl) (fun _ _ _ h => h) (Or.inl ⟨by rfl, ?hyco69⟩) (by assumption) ?restco69
            case hyco69 => (intro w_ hSw; (try dsimp only at hSw); obtain ⟨⟨_, h1_, d0_, d1_, d2_⟩, d3_, d4_, d5_⟩ := hSw; go_simp; (try with_reducible rfl))
            (try simp only [Act.put, List.setIfInBounds_toArray, List.set_cons_zero, List.set_cons_succ, List.getElem_toArray, List.getElem_cons_zero, List.getElem_cons_succ])
            refine wpAnyH_take (i := 10) (v := ?vco610) rfl (by kernel_rfl) (by kernel_rfl) (by kernel_rfl) (fun _ _ _ h => h) (Or.inl ⟨by rfl, ?hyco610⟩) (by assumption) ?restco610
            case hyco610 => (intro w_ hSw; (try dsimp only at hSw); obtain ⟨⟨_, h1_, d0_, d1_, d2_⟩, d3_, d4_, d5_⟩ := hSw; go_simp; (try with_reducible rfl))
            (try simp only [Act.put, List.setIfInBounds_toArray, List.set_cons_zero, List.set_cons_succ, List.getElem_toArray, List.getElem_cons_zero, List.getElem_cons_succ])
            refine wpAnyH_take (i := 11) (v := ?vco611) rfl (by kernel_rfl) (by kernel_rfl) (by kernel_rfl) (fun _ _ _ h => h) (Or.inl ⟨by rfl, ?hyco611⟩) (by assumption) ?restco611
            case hyco611 => (intro w_ hSw; (try dsimp only at hSw); obtain ⟨⟨_, h1_, d0_, d1_, d2_⟩, d3_, d4_, d5_⟩ := hSw; go_simp; (try with_reducible rfl))
            (try simp only [Act.put, List.setIfInBounds_toArray, List.set_cons_zero, List.set_cons_succ, List.getElem_toArray, List.getElem_cons_zero, List.getElem_cons_succ])
            refine wpAnyH_take (i := 12) (v := ?vco612) rfl (by kernel_rfl) (by kernel_rfl) (by kernel_rfl) (fun _ _ _ h => h) (Or.inl ⟨by rfl, ?hyco612⟩) (by assumption) ?restco612
            case hyco612 => (intro w_ hSw; (try dsimp only at hSw); obtain ⟨⟨_, h1_, d0_, d1_, d2_⟩, d3_, d4_, d5_⟩ := hSw; go_simp; (try with_reducible rfl))
            (try simp only [Act.put, List.setIfInBounds_toArray, List.set_cons_zero, List.set_cons_succ, List.getElem_toArray, List.getElem_cons_zero, List.getElem_cons_succ])
            refine wpAnyH_take (i := 13) (v := ?vco613) rfl (by kernel_rfl) (by kernel_rfl) (by kernel_rfl) (fun _ _ _ h => h) (Or.inl ⟨by rfl, ?hyco613⟩) (by assumption) ?restco613
            case hyco613 => (intro w_ hSw; (try dsimp only at hSw); obtain ⟨⟨_, h1_, d0_, d1_, d2_⟩, d3_, d4_, d5_⟩ := hSw; go_simp; (try with_reducible rfl))
            (try simp only [Act.put, List.setIfInBounds_toArray, List.set_cons_zero, List.set_cons_succ, List.getElem_toArray, List.getElem_cons_zero, List.getElem_cons_succ])
            refine wpAnyH_take (i := 14) (v := ?vco614) rfl (by kernel_rfl) (by kernel_rfl) (by kernel_rfl) (fun _ _ _ h => h) (Or.inl ⟨by rfl, ?hyco614⟩) (by assumption) ?restco614
            case hyco614 => (intro w_ hSw; (try dsimp only at hSw); obtain ⟨⟨_, h1_, d0_, d1_, d2_⟩, d3_, d4_, d5_⟩ := hSw; go_simp; (try with_reducible rfl))
            (try simp only [Act.put, List.setIfInBounds_toArray, List.set_cons_zero, List.set_cons_succ, List.getElem_toArray, List.getElem_cons_zero, List.getElem_cons_succ])
            refine wpAnyH_take (i := 15) (v := ?vco615) rfl (by kernel_rfl) (by kernel_rfl) (by kernel_rfl) (fun _ _ _ h => h) (Or.inl ⟨by rfl, ?hyco615⟩) (by assumption) ?restco615
            case hyco615 => (intro w_ hSw; (try dsimp only at hSw); obtain ⟨⟨_, h1_, d0_, d1_, d2_⟩, d3_, d4_, d5_⟩ := hSw; go_simp; (try with_reducible rfl))
            (try simp only [Act.put, List.setIfInBounds_toArray, List.set_cons_zero, List.set_cons_succ, List.getElem_toArray, List.getElem_cons_zero, List.getElem_cons_succ])
            refine wpAnyH_take (i := 16) (v := ?vco616) rfl (by kernel_rfl) (by kernel_rfl) (by kernel_rfl) (fun _ _ _ h => h) (Or.inl ⟨by rfl, ?hyco616⟩) (by assumption) ?restco616
            case hyco616 => (intro w_ hSw; (try dsimp only at hSw); obtain ⟨⟨_, h1_, d0_, d1_, d2_⟩, d3_, d4_, d5_⟩ := hSw; go_simp; (try with_reducible rfl))
            (try simp only [Act.put, List.setIfInBounds_toArray, List.set_cons_zero, List.set_cons_succ, List.getElem_toArray, List.getElem_cons_zero, List.getElem_cons_succ])
            refine wpAnyH_take (i := 17) (v := ?vco617) rfl (by kernel_rfl) (by kernel_rfl) (by kernel_rfl) (fun _ _ _ h => h) (Or.inl ⟨by rfl, ?hyco617⟩) (by assumption) ?restco617
            case hyco617 => (intro w_ hSw; (try dsimp only at hSw); obtain ⟨⟨_, h1_, d0_, d1_, d2_⟩, d3_, d4_, d5_⟩ := hSw; go_simp; (try with_reducible rfl))
            (try simp only [Act.put, List.setIfInBounds_toArray, List.set_cons_zero, List.set_cons_succ, List.getElem_toArray, List.getElem_cons_zero, List.getElem_cons_succ])
            refine wpAnyH_ready (rs := [18]) (by kernel_rfl) (by simp) ?_
            refine AllReadyH.cons rfl (fun K hK => ?_) AllReadyH.nil
            go_simp
            go_wp2_with (go_at_call 49; refine (ref_op_low _).mono ?_; rintro e w4 ⟨rfl, hbx2⟩)
            refine hK.out _ _ ?hSco618 (fun hHeldco618 => ?_)
            case hSco618 => exact HS3.out _ hHeldco66 w4 hbx2
            clear hK K
            (try simp only [Act.put, List.setIfInBounds_toArray, List.set_cons_zero, List.set_cons_succ, List.getElem_toArray, List.getElem_cons_zero, List.getElem_cons_succ])
            refine wpAnyH_take (i := 19) (v := ?vco619) rfl (by kernel_rfl) (by kernel_rfl) (by kernel_rfl) (fun _ _ _ h => h) (Or.inl ⟨by rfl, ?hyco619⟩) (by assumption) ?restco619
            case hyco619 => (intro w_ hSw; (try dsimp only at hSw); obtain ⟨⟨_, h1_, d0_, d1_, d2_⟩, d3_, d4_, d5_⟩ := hSw; go_simp; (try with_reducible rfl))
            (try simp only [Act.put, List.setIfInBounds_toArray, List.set_cons_zero, List.set_cons_succ, List.getElem_toArray, List.getElem_cons_zero, List.getElem_cons_succ])
            refine wpAnyH_take (i := 20) (v := ?vco620) rfl (by kernel_rfl) (by kernel_rfl) (by kernel_rfl) (fun _ _ _ h => h) (Or.inl ⟨by rfl, ?hyco620⟩) (by assumption) ?restco620
            case hyco620 => (intro w_ hSw; (try dsimp only at hSw); obtain ⟨⟨_, h1_, d0_, d1_, d2_⟩, d3_, d4_, d5_⟩ := hSw; go_simp; (try with_reducible rfl))
            (try simp only [Act.put, List.setIfInBounds_toArray, List.set_cons_zero, List.set_cons_succ, List.getElem_toArray, List.getElem_cons_zero, List.getElem_cons_succ])
            refine wpAnyH_take (i := 21) (v := ?vco621) rfl (by kernel_rfl) (by kernel_rfl) (by kernel_rfl) (fun _ _ _ h => h) (Or.inl ⟨by rfl, ?hyco621⟩) (by assumption) ?restco621
            case hyco621 => (intro w_ hSw; (try dsimp only at hSw); obtain ⟨⟨_, h1_, d0_, d1_, d2_⟩, d3_, d4_, d5_⟩ := hSw; go_simp; (try with_reducible rfl))
            (try simp only [Act.put, List.setIfInBounds_toArray, List.set_cons_zero, List.set_cons_succ, List.getElem_toArray, List.getElem_cons_zero, List.getElem_cons_succ])
            refine wpAnyH_take (i := 22) (v := ?vco622) rfl (by kernel_rfl) (by kernel_rfl) (by kernel_rfl) (fun _ _ _ h => h) (Or.inl ⟨by rfl, ?hyco622⟩) (by assumption) ?restco622
            case hyco622 => (intro w_ hSw; (try dsimp only at hSw); obtain ⟨⟨_, h1_, d0_, d1_, d2_⟩, d3_, d4_, d5_⟩ := hSw; go_simp; (try with_reducible rfl))
            (try simp only [Act.put, List.setIfInBounds_toArray, List.set_cons_zero, List.set_cons_succ, List.getElem_toArray, List.getElem_cons_zero, List.getElem_cons_succ])
            refine wpAnyH_take (i := 23) (v := undef) rfl (by kernel_rfl) (by kernel_rfl) (by kernel_rfl) (fun _ _ _ h => h) (Or.inr ⟨by rfl, rfl⟩) (by assumption) ?restco623
            (try simp only [Act.put, List.setIfInBounds_toArray, List.set_cons_zero, List.set_cons_succ, List.getElem_toArray, List.getElem_cons_zero, List.getElem_cons_succ])
            refine wpAnyH_take (i := 24) (v := undef) rfl (by kernel_rfl) (by kernel_rfl) (by kernel_rfl) (fun _ _ _ h => h) (Or.inr ⟨by rfl, rfl⟩) (by assumption) ?restco624
            (try simp only [Act.put, List.setIfInBounds_toArray, List.set_cons_zero, List.set_cons_succ, List.getElem_toArray, List.getElem_cons_zero, List.getElem_cons_succ])
            refine wpAnyH_take (i := 25) (v := undef) rfl (by kernel_rfl) (by kernel_rfl) (by kernel_rfl) (fun _ _ _ h => h) (Or.inr ⟨by rfl, rfl⟩) (by assumption) ?restco625
            (try simp only [Act.put, List.setIfInBounds_toArray, List.set_cons_zero, List.set_cons_succ, List.getElem_toArray, List.getElem_cons_zero, List.getElem_cons_succ])
            refine wpAnyH_take (i := 26) (v := ?vco626) rfl (by kernel_rfl) (by kernel_rfl) (by kernel_rfl) (fun _ _ _ h => h) (Or.inl ⟨by rfl, ?hyco626⟩) (by assumption) ?restco626
            case hyco626 => (intro w_ hSw; (try dsimp only at hSw); obtain ⟨⟨_, h1_, d0_, d1_, d2_⟩, d3_, d4_, d5_⟩ := hSw; go_simp; (try with_reducible rfl))
            (try simp only [Act.put, List.setIfInBounds_toArray, List.set_cons_zero, List.set_cons_succ, List.getElem_toArray, List.getElem_cons_zero, List.getElem_cons_succ])
            refine wpAnyH_done (by kernel_rfl) ?_ _
            go_wp2_with fail
            go_ret
            exact ⟨⟨false, rfl, b_no HNX.out⟩, hHeldco618.1.below⟩
          have e4 : decide (6 ≤ o) = false := by rw [decide_eq_false_iff_not]; omega
          refine wp_region_held_drew (S := fun w' => RvI w verb Ab (some ad) nb nw cb cw w' ∧ w'.cell? ⟨G, 0, none⟩ = some (.int .i64 f) ∧ w'.cell? ⟨G, 1, none⟩ = some (.int .i64 o) ∧ w'.cell? ⟨G, 2, none⟩ = some (.int .i64 v)) (by kernel_rfl) ⟨HS2.out.same (Below.refl _ _).drew, z0, z1, z2⟩ (fun hHeld => ?_)
          refine wpAnyH_take (i := 0) (v := ?vcin0) rfl (by kernel_rfl) (by kernel_rfl) (by kernel_rfl) (fun _ _ _ h => h) (Or.inl ⟨by rfl, ?hycin0⟩) (by assumption) ?restcin0
          case hycin0 => (intro w_ hSw; (try dsimp only at hSw); obtain ⟨⟨_, h1_, d0_, d1_, d2_⟩, d3_, d4_, d5_⟩ := hSw; go_simp; (try with_reducible rfl))
          (try simp only [Act.put, List.setIfInBounds_toArray, List.set_cons_zero, List.set_cons_succ, List.getElem_toArray, List.getElem_cons_zero, List.getElem_cons_succ])
          refine wpAnyH_take (i := 1) (v := ?vcin1) rfl (by kernel_rfl) (by kernel_rfl) (by kernel_rfl) (fun _ _ _ h => h) (Or.inl ⟨by rfl, ?hycin1⟩) (by assumption) ?restcin1
          case hycin1 => (intro w_ hSw; (try dsimp only at hSw); obtain ⟨⟨_, h1_, d0_, d1_, d2_⟩, d3_, d4_, d5_⟩ := hSw; go_simp; (try with_reducible rfl))
          (try simp only [Act.put, List.setIfInBounds_toArray, List.set_cons_zero, List.set_cons_succ, List.getElem_toArray, List.getElem_cons_zero, List.getElem_cons_succ])
          refine wpAnyH_take (i := 2) (v := ?vcin2) rfl (by kernel_rfl) (by kernel_rfl) (by kernel_rfl) (fun _ _ _ h => h) (Or.inl ⟨by rfl, ?hycin2⟩) (by assumption) ?restcin2
          case hycin2 => (intro w_ hSw; (try dsimp only at hSw); obtain ⟨⟨_, h1_, d0_, d1_, d2_⟩, d3_, d4_, d5_⟩ := hSw; go_simp; (try with_reducible rfl))
          (try simp only [Act.put, List.setIfInBounds_toArray, List.set_cons_zero, List.set_cons_succ, List.getElem_toArray, List.getElem_cons_zero, List.getElem_cons_succ])
          refine wpAnyH_take (i := 3) (v := ?vcin3) rfl (by kernel_rfl) (by kernel_rfl) (by kernel_rfl) (fun _ _ _ h => h) (Or.inl ⟨by rfl, ?hycin3⟩) (by assumption) ?restcin3
          case hycin3 => (intro w_ hSw; (try dsimp only at hSw); obtain ⟨⟨_, h1_, d0_, d1_, d2_⟩, d3_, d4_, d5_⟩ := hSw; go_simp; (try with_reducible rfl))
          (try simp only [Act.put, List.setIfInBounds_toArray, List.set_cons_zero, List.set_cons_succ, List.getElem_toArray, List.getElem_cons_zero, List.getElem_cons_succ])
          refine wpAnyH_take (i := 4) (v := ?vcin4) rfl (by kernel_rfl) (by kernel_rfl) (by kernel_rfl) (fun _ _ _ h => h) (Or.inl ⟨by rfl, ?hycin4⟩) (by assumption) ?restcin4
          case hycin4 => (intro w_ hSw; (try dsimp only at hSw); obtain ⟨⟨_, h1_, d0_, d1_, d2_⟩, d3_, d4_, d5_⟩ := hSw; go_simp; (try with_reducible rfl))
          (try simp only [Act.put, List.setIfInBounds_toArray, List.set_cons_zero, List.set_cons_succ, List.getElem_toArray, List.getElem_cons_zero, List.getElem_cons_succ])
          refine wpAnyH_take (i := 5) (v := ?vcin5) rfl (by kernel_rfl) (by kernel_rfl) (by kernel_rfl) (fun _ _ _ h => h) (Or.inl ⟨by rfl, ?hycin5⟩) (by assumption) ?restcin5
          case hycin5 => (intro w_ hSw; (try dsimp only at hSw); obtain ⟨⟨_, h1_, d0_, d1_, d2_⟩, d3_, d4_, d5_⟩ := hSw; go_simp; (try with_reducible rfl))
          (try simp only [Act.put, List.setIfInBounds_toArray, List.set_cons_zero, List.set_cons_succ, List.getElem_toArray, List.getElem_cons_zero, List.getElem_cons_succ])
          refine wpAnyH_ready (rs := [6]) (by kernel_rfl) (by simp) ?_
          refine AllReadyH.cons rfl (fun K hK => ?_) AllReadyH.nil
          go_simp
          go_wp2_with (go_at_call 48; refine (ref_fd_low _).mono ?_; rintro e w3 ⟨rfl, hbx⟩)
          refine hK.out _ _ ?hScin6 (fun hHeldcin6 => ?_)
          case hScin6 => exact HS3.out _ hHeld w3 hbx
          clear hK K
          (try simp only [Act.put, List.setIfInBounds_toArray, List.set_cons_zero, List.set_cons_succ, List.getElem_toArray, List.getElem_cons_zero, List.getElem_cons_succ])
          refine wpAnyH_take (i := 7) (v := ?vcin7) rfl (by kernel_rfl) (by kernel_rfl) (by kernel_rfl) (fun _ _ _ h => h) (Or.inl ⟨by rfl, ?hycin7⟩) (by assumption) ?restcin7
          case hycin7 => (intro w_ hSw; (try dsimp only at hSw); obtain ⟨⟨_, h1_, d0_, d1_, d2_⟩, d3_, d4_, d5_⟩ := hSw; go_simp; (try with_reducible rfl))
          (try simp only [Act.put, List.setIfInBounds_toArray, List.set_cons_zero, List.set_cons_succ, List.getElem_toArray, List.getElem_cons_zero, List.getElem_cons_succ])
          refine wpAnyH_take (i := 8) (v := ?vcin8) rfl (by kernel_rfl) (by kernel_rfl) (by kernel_rfl) (fun _ _ _ h => h) (Or.inl ⟨by rfl, ?hycin8⟩) (by assumption) ?restcin8
          case hycin8 => (intro w_ hSw; (try dsimp only at hSw); obtain ⟨⟨_, h1_, d0_, d1_, d2_⟩, d3_, d4_, d5_⟩ := hSw; go_simp; (try with_reducible rfl))
          (try simp only [Act.put, List.setIfInBounds_toArray, List.set_cons_zero, List.set_cons_succ, List.getElem_toArray, List.getElem_cons_zero, List.getElem_cons_succ])
          refine wpAnyH_take (i := 9) (v := ?vcin9) rfl (by kernel_rfl) (by kernel_rfl) (by kernel_rfl) (fun _ _ _ h => h) (Or.inl ⟨by rfl, ?hycin9⟩) (by assumption) ?restcin9
          case hycin9 => (intro w_ hSw; (try dsimp only at hSw); obtain ⟨⟨_, h1_, d0_, d1_, d2_⟩, d3_, d4_, d5_⟩ := hSw; go_simp; (try with_reducible rfl))
          (try simp only [Act.put, List.setIfInBounds_toArray, List.set_cons_zero, List.set_cons_succ, List.getElem_toArray, List.getElem_cons_zero, List.getElem_cons_succ])
          refine wpAnyH_take (i := 10) (v := ?vcin10) rfl (by kernel_rfl) (by kernel_rfl) (by kernel_rfl) (fun _ _ _ h => h) (Or.inl ⟨by rfl, ?hycin10⟩) (by assumption) ?restcin10
          case hycin10 => (intro w_ hSw; (try dsimp only at hSw); obtain ⟨⟨_, h1_, d0_, d1_, d2_⟩, d3_, d4_, d5_⟩ := hSw; go_simp; (try with_reducible rfl))
          (try simp only [Act.put, List.setIfInBounds_toArray, List.set_cons_zero, List.set_cons_succ, List.getElem_toArray, List.getElem_cons_zero, List.getElem_cons_succ])
          refine wpAnyH_take (i := 11) (v := ?vcin11) rfl (by kernel_rfl) (by kernel_rfl) (by kernel_rfl) (fun _ _ _ h => h) (Or.inl ⟨by rfl, ?hycin11⟩) (by assumption) ?restcin11
          case hycin11 => (intro w_ hSw; (try dsimp only at hSw); obtain ⟨⟨_, h1_, d0_, d1_, d2_⟩, d3_, d4_, d5_⟩ := hSw; go_simp; (try with_reducible rfl))
          (try simp only [Act.put, List.setIfInBounds_toArray, List.set_cons_zero, List.set_cons_succ, List.getElem_toArray, List.getElem_cons_zero, List.getElem_cons_succ])
          refine wpAnyH_take (i := 12) (v := ?vcin12) rfl (by kernel_rfl) (by kernel_rfl) (by kernel_rfl) (fun _ _ _ h => h) (Or.inl ⟨by rfl, ?hycin12⟩) (by assumption) ?restcin12
          case hycin12 => (intro w_ hSw; (try dsimp only at hSw); obtain ⟨⟨_, h1_, d0_, d1_, d2_⟩, d3_, d4_, d5_⟩ := hSw; go_simp; (try with_reducible rfl))
          (try simp only [Act.put, List.setIfInBounds_toArray, List.set_cons_zero, List.set_cons_succ, List.getElem_toArray, List.getElem_cons_zero, List.getElem_cons_succ])
          refine wpAnyH_take (i := 13) (v := ?vcin13) rfl (by kernel_rfl) (by kernel_rfl) (by kernel_rfl) (fun _ _ _ h => h) (Or.inl ⟨by rfl, ?hycin13⟩) (by assumption) ?restcin13
          case hycin13 => (intro w_ hSw; (try dsimp only at hSw); obtain ⟨⟨_, h1_, d0_, d1_, d2_⟩, d3_, d4_, d5_⟩ := hSw; go_simp; (try with_reducible rfl))
          (try simp only [Act.put, List.setIfInBounds_toArray, List.set_cons_zero, List.set_cons_succ, List.getElem_toArray, List.getElem_cons_zero, List.getElem_cons_succ])
          refine wpAnyH_take (i := 14) (v := ?vcin14) rfl (by kernel_rfl) (by kernel_rfl) (by kernel_rfl) (fun _ _ _ h => h) (Or.inl ⟨by rfl, ?hycin14⟩) (by assumption) ?restcin14
          case hycin14 => (intro w_ hSw; (try dsimp only at hSw); obtain ⟨⟨_, h1_, d0_, d1_, d2_⟩, d3_, d4_, d5_⟩ := hSw; go_simp; (try with_reducible rfl))
          (try simp only [Act.put, List.setIfInBounds_toArray, List.set_cons_zero, List.set_cons_succ, List.getElem_toArray, List.getElem_cons_zero, List.getElem_cons_succ])
          refine wpAnyH_take (i := 15) (v := ?vcin15) rfl (by kernel_rfl) (by kernel_rfl) (by kernel_rfl) (fun _ _ _ h => h) (Or.inl ⟨by rfl, ?hycin15⟩) (by assumption) ?restcin15
          case hycin15 => (intro w_ hSw; (try dsimp only at hSw); obtain ⟨⟨_, h1_, d0_, d1_, d2_⟩, d3_, d4_, d5_⟩ := hSw; go_simp; (try with_reducible rfl))
          (try simp only [Act.put, List.setIfInBounds_toArray, List.set_cons_zero, List.set_cons_succ, List.getElem_toArray, List.getElem_cons_zero, List.getElem_cons_succ])
          refine wpAnyH_take (i := 16) (v := ?vcin16) rfl (by kernel_rfl) (by kernel_rfl) (by kernel_rfl) (fun _ _ _ h => h) (Or.inl ⟨by rfl, ?hycin16⟩) (by assumption) ?restcin16
          case hycin16 => (intro w_ hSw; (try dsimp only at hSw); obtain ⟨⟨_, h1_, d0_, d1_, d2_⟩, d3_, d4_, d5_⟩ := hSw; go_simp; (try with_reducible rfl))
          (try simp only [Act.put, List.setIfInBounds_toArray, List.set_cons_zero, List.set_cons_succ, List.getElem_toArray, List.getElem_cons_zero, List.getElem_cons_succ])
          refine wpAnyH_take (i := 17) (v := ?vcin17) rfl (by kernel_rfl) (by kernel_rfl) (by kernel_rfl) (fun _ _ _ h => h) (Or.inl ⟨by rfl, ?hycin17⟩) (by assumption) ?restcin17
          case hycin17 => (intro w_ hSw; (try dsimp only at hSw); obtain ⟨⟨_, h1_, d0_, d1_, d2_⟩, d3_, d4_, d5_⟩ := hSw; go_simp; (try with_reducible rfl))
          (try simp only [Act.put, List.setIfInBounds_toArray, List.set_cons_zero, List.set_cons_succ, List.getElem_toArray, List.getElem_cons_zero, List.getElem_cons_succ])
          refine wpAnyH_ready (rs := [18]) (by kernel_rfl) (by simp) ?_
          refine AllReadyH.cons rfl (fun K hK => ?_) AllReadyH.nil
          go_simp
          go_wp2_with (go_at_call 49; refine (ref_op_low _).mono ?_; rintro e w4 ⟨rfl, hbx2⟩)
          refine hK.out _ _ ?hScin18 (fun hHeldcin18 => ?_)
          case hScin18 => exact HS3.out _ hHeldcin6 w4 hbx2
          clear hK K
          (try simp only [Act.put, List.setIfInBounds_toArray, List.set_cons_zero, List.set_cons_succ, List.getElem_toArray, List.getElem_cons_zero, List.getElem_cons_succ])
          refine wpAnyH_take (i := 19) (v := ?vcin19) rfl (by kernel_rfl) (by kernel_rfl) (by kernel_rfl) (fun _ _ _ h => h) (Or.inl ⟨by rfl, ?hycin19⟩) (by assumption) ?restcin19
          case hycin19 => (intro w_ hSw; (try dsimp only at hSw); obtain ⟨⟨_, h1_, d0_, d1_, d2_⟩, d3_, d4_, d5_⟩ := hSw; go_simp; (try with_reducible rfl))
          (try simp only [Act.put, List.setIfInBounds_toArray, List.set_cons_zero, List.set_cons_succ, List.getElem_toArray, List.getElem_cons_zero, List.getElem_cons_succ])
          refine wpAnyH_take (i := 20) (v := ?vcin20) rfl (by kernel_rfl) (by kernel_rfl) (by kernel_rfl) (fun _ _ _ h => h) (Or.inl ⟨by rfl, ?hycin20⟩) (by assumption) ?restcin20
          case hycin20 => (intro w_ hSw; (try dsimp only at hSw); obtain ⟨⟨_, h1_, d0_, d1_, d2_⟩, d3_, d4_, d5_⟩ := hSw; go_simp; (try with_reducible rfl))
          (try simp only [Act.put, List.setIfInBounds_toArray, List.set_cons_zero, List.set_cons_succ, List.getElem_toArray, List.getElem_cons_zero, List.getElem_cons_succ])
          refine wpAnyH_take (i := 21) (v := ?vcin21) rfl (by kernel_rfl) (by kernel_rfl) (by kernel_rfl) (fun _ _ _ h => h) (Or.inl ⟨by rfl, ?hycin21⟩) (by assumption) ?restcin21
          case hycin21 => (intro w_ hSw; (try dsimp only at hSw); obtain ⟨⟨_, h1_, d0_, d1_, d2_⟩, d3_, d4_, d5_⟩ := hSw; go_simp; (try with_reducible rfl))
          (try simp only [Act.put, List.setIfInBounds_toArray, List.set_cons_zero, List.set_cons_succ, List.getElem_toArray, List.getElem_cons_zero, List.getElem_cons_succ])
          refine wpAnyH_take (i := 22) (v := ?vcin22) rfl (by kernel_rfl) (by kernel_rfl) (by kernel_rfl) (fun _ _ _ h => h) (Or.inl ⟨by rfl, ?hycin22⟩) (by assumption) ?restcin22
          case hycin22 => (intro w_ hSw; (try dsimp only at hSw); obtain ⟨⟨_, h1_, d0_, d1_, d2_⟩, d3_, d4_, d5_⟩ := hSw; go_simp; (try with_reducible rfl))
          (try simp only [Act.put, List.setIfInBounds_toArray, List.set_cons_zero, List.set_cons_succ, List.getElem_toArray, List.getElem_cons_zero, List.getElem_cons_succ])
          refine wpAnyH_take (i := 23) (v := ?vcin23) rfl (by kernel_rfl) (by kernel_rfl) (by kernel_rfl) (fun _ _ _ h => h) (Or.inl ⟨by rfl, ?hycin23⟩) (by assumption) ?restcin23
          case hycin23 => (intro w_ hSw; (try dsimp only at hSw); obtain ⟨⟨_, h1_, d0_, d1_, d2_⟩, d3_, d4_, d5_⟩ := hSw; go_simp; (try with_reducible rfl))
          (try simp only [Act.put, List.setIfInBounds_toArray, List.set_cons_zero, List.set_cons_succ, List.getElem_toArray, List.getElem_cons_zero, List.getElem_cons_succ])
          refine wpAnyH_ready (rs := [24]) (by kernel_rfl) (by simp) ?_
          refine AllReadyH.cons rfl (fun K hK => ?_) AllReadyH.nil
          go_simp
          go_wp2_with (go_at_call 56; refine (HPR.out _).mono ?_; rintro e w5 ⟨rfl, hbx3⟩)
          refine hK.out _ _ ?hScin24 (fun hHeldcin24 => ?_)
          case hScin24 => exact HS3.out _ hHeldcin18 w5 hbx3
          clear hK K
          (try simp only [Act.put, List.setIfInBounds_toArray, List.set_cons_zero, List.set_cons_succ, List.getElem_toArray, List.getElem_cons_zero, List.getElem_cons_succ])
          refine wpAnyH_take (i := 25) (v := ?vcin25) rfl (by kernel_rfl) (by kernel_rfl) (by kernel_rfl) (fun _ _ _ h => h) (Or.inl ⟨by rfl, ?hycin25⟩) (by assumption) ?restcin25
          case hycin25 => (intro w_ hSw; (try dsimp only at hSw); obtain ⟨⟨_, h1_, d0_, d1_, d2_⟩, d3_, d4_, d5_⟩ := hSw; go_simp; (try with_reducible rfl))
          (try simp only [Act.put, List.setIfInBounds_toArray, List.set_cons_zero, List.set_cons_succ, List.getElem_toArray, List.getElem_cons_zero, List.getElem_cons_succ])
          refine wpAnyH_take (i := 26) (v := ?vcin26) rfl (by kernel_rfl) (by kernel_rfl) (by kernel_rfl) (fun _ _ _ h => h) (Or.inl ⟨by rfl, ?hycin26⟩) (by assumption) ?restcin26
          case hycin26 => (intro w_ hSw; (try dsimp only at hSw); obtain ⟨⟨_, h1_, d0_, d1_, d2_⟩, d3_, d4_, d5_⟩ := hSw; go_simp; (try with_reducible rfl))
          (try simp only [Act.put, List.setIfInBounds_toArray, List.set_cons_zero, List.set_cons_succ, List.getElem_toArray, List.getElem_cons_zero, List.getElem_cons_succ])
          refine wpAnyH_done (by kernel_rfl) ?_ _
          cases ov with
          | false =>
            have HNX := Lib.hid (HNO.out fun h => by have := (HOV.out.1 h).2.2; cases this)
            go_wp2_with fail
            go_ret
            exact ⟨⟨false, rfl, b_no HNX.out⟩, hHeldcin24.1.below⟩
          | true =>
            have HOX := Lib.hid (HOK.out (HOV.out.2 ⟨⟨by omega, by omega⟩, ⟨by omega, by omega⟩, rfl⟩))
            have HSN := Lib.hid hHeldcin24.1
            clear HOK HNO
            go_wp2_with fail
            go_roundw
            case rel => exact ⟨m + 1, by omega, by go_num, HSN.out, HOX.out⟩
            case measure => simp [intOf]; omega
        · have k5 : decide ((m : Int) < (nw : Int)) = false := by rw [decide_eq_false_iff_not]; omega
          have HGC : Hid (∀ j, j < wh.length → okCnd (wh.getD j default)) := fun j hj => HD.out j (by have := HNW.out; omega)
          have HNL := Lib.hid HNW.out
          have HS2 := HS
          go_wp2_with fail
          by_cases v0 : verb < 0
          · have e1 : decide (0 ≤ verb) = false := by rw [decide_eq_false_iff_not]; omega
            have HNX : Hid (¬ OkQ ⟨verb, byl, wh⟩) := fun h => by have := h.v0; simp only [] at this; omega
            refine wp_region_held_drew (S := fun w' => RvI w verb Ab Aw nb nw cb cw w') (by kernel_rfl) (HS2.out.same (Below.refl _ _).drew) (fun hHeld => ?_)
            refine wpAnyH_take (i := 0) (v := ?vllo0) rfl (by kernel_rfl) (by kernel_rfl) (by kernel_rfl) (fun _ _ _ h => h) (Or.inl ⟨by rfl, ?hyllo0⟩) (by assumption) ?restllo0
            case hyllo0 => (intro w_ hSw; (try dsimp only at hSw); obtain ⟨_, h1_, d0_, d1_, d2_⟩ := hSw; go_simp; (try with_reducible rfl))
            (try simp only [Act.put, List.setIfInBounds_toArray, List.set_cons_zero, List.set_cons_succ, List.getElem_toArray, List.getElem_cons_zero, List.getElem_cons_succ])
            refine wpAnyH_take (i := 1) (v := ?vllo1) rfl (by kernel_rfl) (by kernel_rfl) (by kernel_rfl) (fun _ _ _ h => h) (Or.inl ⟨by rfl, ?hyllo1⟩) (by assumption) ?restllo1
            case hyllo1 => (intro w_ hSw; (try dsimp only at hSw); obtain ⟨_, h1_, d0_, d1_, d2_⟩ := hSw; go_simp; (try with_reducible rfl))
            (try simp only [Act.put, List.setIfInBounds_toArray, List.set_cons_zero, List.set_cons_succ, List.getElem_toArray, List.getElem_cons_zero, List.getElem_cons_succ])
            refine wpAnyH_take (i := 2) (v := ?vllo2) rfl (by kernel_rfl) (by kernel_rfl) (by kernel_rfl) (fun _ _ _ h => h) (Or.inl ⟨by rfl, ?hyllo2⟩) (by assumption) ?restllo2
            case hyllo2 => (intro w_ hSw; (try dsimp only at hSw); obtain ⟨_, h1_, d0_, d1_, d2_⟩ := hSw; go_simp; (try with_reducible rfl))
            (try simp only [Act.put, List.setIfInBounds_toArray, List.set_cons_zero, List.set_cons_succ, List.getElem_toArray, List.getElem_cons_zero, List.getElem_cons_succ])
            refine wpAnyH_take (i := 3) (v := ?vllo3) rfl (by kernel_rfl) (by kernel_rfl) (by kernel_rfl) (fun _ _ _ h => h) (Or.inl ⟨by rfl, ?hyllo3⟩) (by assumption) ?restllo3
            case hyllo3 => (intro w_ hSw; (try dsimp only at hSw); obtain ⟨_, h1_, d0_, d1_, d2_⟩ := hSw; go_simp; (try with_reducible rfl))
            (try simp only [Act.put, List.setIfInBounds_toArray, List.set_cons_zero, List.set_cons_succ, List.getElem_toArray, List.getElem_cons_zero, List.getElem_cons_succ])
            refine wpAnyH_take (i := 4) (v := undef) rfl (by kernel_rfl) (by kernel_rfl) (by kernel_rfl) (fun _ _ _ h => h) (Or.inr ⟨by rfl, rfl⟩) (by assumption) ?restllo4
            (try simp only [Act.put, List.setIfInBounds_toArray, List.set_cons_zero, List.set_cons_succ, List.getElem_toArray, List.getElem_cons_zero, List.getElem_cons_succ])
            refine wpAnyH_take (i := 5) (v := undef) rfl (by kernel_rfl) (by kernel_rfl) (by kernel_rfl) (fun _ _ _ h => h) (Or.inr ⟨by rfl, rfl⟩) (by assumption) ?restllo5
            (try simp only [Act.put, List.setIfInBounds_toArray, List.set_cons_zero, List.set_cons_succ, List.getElem_toArray, List.getElem_cons_zero, List.getElem_cons_succ])
            refine wpAnyH_take (i := 6) (v := undef) rfl (by kernel_rfl) (by kernel_rfl) (by kernel_rfl) (fun _ _ _ h => h) (Or.inr ⟨by rfl, rfl⟩) (by assumption) ?restllo6
            (try simp only [Act.put, List.setIfInBounds_toArray, List.set_cons_zero, List.set_cons_succ, List.getElem_toArray, List.getElem_cons_zero, List.getElem_cons_succ])
            refine wpAnyH_take (i := 7) (v := undef) rfl (by kernel_rfl) (by kernel_rfl) (by kernel_rfl) (fun _ _ _ h => h) (Or.inr ⟨by rfl, rfl⟩) (by assumption) ?restllo7
            (try simp only [Act.put, List.setIfInBounds_toArray, List.set_cons_zero, List.set_cons_succ, List.getElem_toArray, List.getElem_cons_zero, List.getElem_cons_succ])
            refine wpAnyH_take (i := 8) (v := undef) rfl (by kernel_rfl) (by kernel_rfl) (by kernel_rfl) (fun _ _ _ h => h) (Or.inr ⟨by rfl, rfl⟩) (by assumption) ?restllo8
            (try simp only [Act.put, List.setIfInBounds_toArray, List.set_cons_zero, List.set_cons_succ, List.getElem_toArray, List.getElem_cons_zero, List.getElem_cons_succ])
            refine wpAnyH_take (i := 9) (v := ?vllo9) rfl (by kernel_rfl) (by kernel_rfl) (by kernel_rfl) (fun _ _ _ h => h) (Or.inl ⟨by rfl, ?hyllo9⟩) (by assumption) ?restllo9
            case hyllo9 => (intro w_ hSw; (try dsimp only at hSw); obtain ⟨_, h1_, d0_, d1_, d2_⟩ := hSw; go_simp; (try with_reducible rfl))
            (try simp only [Act.put, List.setIfInBounds_toArray, List.set_cons_zero, List.set_cons_succ, List.getElem_toArray, List.getElem_cons_zero, List.getElem_cons_succ])
            refine wpAnyH_take (i := 10) (v := ?vllo10) rfl (by kernel_rfl) (by kernel_rfl) (by kernel_rfl) (fun _ _ _ h => h) (Or.inl ⟨by rfl, ?hyllo10⟩) (by assumption) ?restllo10
            case hyllo10 => (intro w_ hSw; (try dsimp only at hSw); obtain ⟨_, h1_, d0_, d1_, d2_⟩ := hSw; go_simp; (try with_reducible rfl))
            (try simp only [Act.put, List.setIfInBounds_toArray, List.set_cons_zero, List.set_cons_succ, List.getElem_toArray, List.getElem_cons_zero, List.getElem_cons_succ])
            refine wpAnyH_take (i := 11) (v := undef) rfl (by kernel_rfl) (by kernel_rfl) (by kernel_rfl) (fun _ _ _ h => h) (Or.inr ⟨by rfl, rfl⟩) (by assumption) ?restllo11
            (try simp only [Act.put, List.setIfInBounds_toArray, List.set_cons_zero, List.set_cons_succ, List.getElem_toArray, List.getElem_cons_zero, List.getElem_cons_succ])
            refine wpAnyH_take (i := 12) (v := undef) rfl (by kernel_rfl) (by kernel_rfl) (by kernel_rfl) (fun _ _ _ h => h) (Or.inr ⟨by rfl, rfl⟩) (by assumption) ?restllo12
            (try simp only [Act.put, List.setIfInBounds_toArray, List.set_cons_zero, List.set_cons_succ, List.getElem_toArray, List.getElem_cons_zero, List.getElem_cons_succ])
            refine wpAnyH_take (i := 13) (v := undef) rfl (by kernel_rfl) (by kernel_rfl) (by kernel_rfl) (fun _ _ _ h => h) (Or.inr ⟨by rfl, rfl⟩) (by assumption) ?restllo13
            (try simp only [Act.put, List.setIfInBounds_toArray, List.set_cons_zero, List.set_cons_succ, List.getElem_toArray, List.getElem_cons_zero, List.getElem_cons_succ])
            refine wpAnyH_take (i := 14) (v := undef) rfl (by kernel_rfl) (by kernel_rfl) (by kernel_rfl) (fun _ _ _ h => h) (Or.inr ⟨by rfl, rfl⟩) (by assumption) ?restllo14
            (try simp only [Act.put, List.setIfInBounds_toArray, List.set_cons_zero, List.set_cons_succ, List.getElem_toArray, List.getElem_cons_zero, List.getElem_cons_succ])
            refine wpAnyH_take (i := 15) (v := ?vllo15) rfl (by kernel_rfl) (by kernel_rfl) (by kernel_rfl) (fun _ _ _ h => h) (Or.inl ⟨by rfl, ?hyllo15⟩) (by assumption) ?restllo15
            case hyllo15 => (intro w_ hSw; (try dsimp only at hSw); obtain ⟨_, h1_, d0_, d1_, d2_⟩ := hSw; go_simp; (try with_reducible rfl))
            (try simp only [Act.put, List.setIfInBounds_toArray, List.set_cons_zero, List.set_cons_succ, List.getElem_toArray, List.getElem_cons_zero, List.getElem_cons_succ])
            refine wpAnyH_take (i := 16) (v := ?vllo16) rfl (by kernel_rfl) (by kernel_rfl) (by kernel_rfl) (fun _ _ _ h => h) (Or.inl ⟨by rfl, ?hyllo16⟩) (by assumption) ?restllo16
            case hyllo16 => (intro w_ hSw; (try dsimp only at hSw); obtain ⟨_, h1_, d0_, d1_, d2_⟩ := hSw; go_simp; (try with_reducible rfl))
            (try simp only [Act.put, List.setIfInBounds_toArray, List.set_cons_zero, List.set_cons_succ, List.getElem_toArray, List.getElem_cons_zero, List.getElem_cons_succ])
            refine wpAnyH_done (by kernel_rfl) ?_ _
            go_wp2_with fail
            go_ret
            exact ⟨⟨false, rfl, b_no HNX.out⟩, hHeld.below⟩
          have e1 : decide (0 ≤ verb) = true := by rw [decide_eq_true_eq]; omega
          by_cases v2 : 2 ≤ verb
          · have e2 : decide (verb < 2) = false := by rw [decide_eq_false_iff_not]; omega
            have HNX : Hid (¬ OkQ ⟨verb, byl, wh⟩) := fun h => by have := h.v1; simp only [] at this; omega
            refine wp_region_held_drew (S := fun w' => RvI w verb Ab Aw nb nw cb cw w') (by kernel_rfl) (HS2.out.same (Below.refl _ _).drew) (fun hHeld => ?_)
            refine wpAnyH_take (i := 0) (v := ?vlhi0) rfl (by kernel_rfl) (by kernel_rfl) (by kernel_rfl) (fun _ _ _ h => h) (Or.inl ⟨by rfl, ?hylhi0⟩) (by assumption) ?restlhi0
            case hylhi0 => (intro w_ hSw; (try dsimp only at hSw); obtain ⟨_, h1_, d0_, d1_, d2_⟩ := hSw; go_simp; (try with_reducible rfl))
            (try simp only [Act.put, List.setIfInBounds_toArray, List.set_cons_zero, List.set_cons_succ, List.getElem_toArray, List.getElem_cons_zero, List.getElem_cons_succ])
            refine wpAnyH_take (i := 1) (v := ?vlhi1) rfl (by kernel_rfl) (by kernel_rfl) (by kernel_rfl) (fun _ _ _ h => h) (Or.inl ⟨by rfl, ?hylhi1⟩) (by assumption) ?restlhi1
            case hylhi1 => (intro w_ hSw; (try dsimp only at hSw); obtain ⟨_, h1_, d0_, d1_, d2_⟩ := hSw; go_simp; (try with_reducible rfl))
            (try simp only [Act.put, List.setIfInBounds_toArray, List.set_cons_zero, List.set_cons_succ, List.getElem_toArray, List.getElem_cons_zero, List.getElem_cons_succ])
            refine wpAnyH_take (i := 2) (v := ?vlhi2) rfl (by kernel_rfl) (by kernel_rfl) (by kernel_rfl) (fun _ _ _ h => h) (Or.inl ⟨by rfl, ?hylhi2⟩) (by assumption) ?restlhi2
            case hylhi2 => (intro w_ hSw; (try dsimp only at hSw); obtain ⟨_, h1_, d0_, d1_, d2_⟩ := hSw; go_simp; (try with_reducible rfl))
            (try simp only [Act.put, List.setIfInBounds_toArray, List.set_cons_zero, List.set_cons_succ, List.getElem_toArray, List.getElem_cons_zero, List.getElem_cons_succ])
            refine wpAnyH_take (i := 3) (v := ?vlhi3) rfl (by kernel_rfl) (by kernel_rfl) (by kernel_rfl) (fun _ _ _ h => h) (Or.inl ⟨by rfl, ?hylhi3⟩) (by assumption) ?restlhi3
            case hylhi3 => (intro w_ hSw; (try dsimp only at hSw); obtain ⟨_, h1_, d0_, d1_, d2_⟩ := hSw; go_simp; (try with_reducible rfl))
            (try simp only [Act.put, List.setIfInBounds_toArray, List.set_cons_zero, List.set_cons_succ, List.getElem_toArray, List.getElem_cons_zero, List.getElem_cons_succ])
            refine wpAnyH_take (i := 4) (v := ?vlhi4) rfl (by kernel_rfl) (by kernel_rfl) (by kernel_rfl) (fun _ _ _ h => h) (Or.inl ⟨by rfl, ?hylhi4⟩) (by assumption) ?restlhi4
            case hylhi4 => (intro w_ hSw; (try dsimp only at hSw); obtain ⟨_, h1_, d0_, d1_, d2_⟩ := hSw; go_simp; (try with_reducible rfl))
            (try simp only [Act.put, List.setIfInBounds_toArray, List.set_cons_zero, List.set_cons_succ, List.getElem_toArray, List.getElem_cons_zero, List.getElem_cons_succ])
            refine wpAnyH_take (i := 5) (v := ?vlhi5) rfl (by kernel_rfl) (by kernel_rfl) (by kernel_rfl) (fun _ _ _ h => h) (Or.inl ⟨by rfl, ?hylhi5⟩) (by assumption) ?restlhi5
            case hylhi5 => (intro w_ hSw; (try dsimp only at hSw); obtain ⟨_, h1_, d0_, d1_, d2_⟩ := hSw; go_simp; (try with_reducible rfl))
            (try simp only [Act.put, List.setIfInBounds_toArray, List.set_cons_zero, List.set_cons_succ, List.getElem_toArray, List.getElem_cons_zero, List.getElem_cons_succ])
            refine wpAnyH_ready (rs := [6]) (by kernel_rfl) (by simp) ?_
            refine AllReadyH.cons rfl (fun K hK => ?_) AllReadyH.nil
            go_simp
            go_wp2_with (go_at_call 38; refine (ref_vb_low _).mono ?_; rintro e w3 ⟨rfl, hbx⟩)
            refine hK.out _ _ ?hSlhi6 (fun hHeldlhi6 => ?_)
            case hSlhi6 => exact hHeld.same hbx
            clear hK K
            (try simp only [Act.put, List.setIfInBounds_toArray, List.set_cons_zero, List.set_cons_succ, List.getElem_toArray, List.getElem_cons_zero, List.getElem_cons_succ])
            refine wpAnyH_take (i := 7) (v := ?vlhi7) rfl (by kernel_rfl) (by kernel_rfl) (by kernel_rfl) (fun _ _ _ h => h) (Or.inl ⟨by rfl, ?hylhi7⟩) (by assumption) ?restlhi7
            case hylhi7 => (intro w_ hSw; (try dsimp only at hSw); obtain ⟨_, h1_, d0_, d1_, d2_⟩ := hSw; go_simp; (try with_reducible rfl))
            (try simp only [Act.put, List.setIfInBounds_toArray, List.set_cons_zero, List.set_cons_succ, List.getElem_toArray, List.getElem_cons_zero, List.getElem_cons_succ])
            refine wpAnyH_take (i := 8) (v := ?vlhi8) rfl (by kernel_rfl) (by kernel_rfl) (by kernel_rfl) (fun _ _ _ h => h) (Or.inl ⟨by rfl, ?hylhi8⟩) (by assumption) ?restlhi8
            case hylhi8 => (intro w_ hSw; (try dsimp only at hSw); obtain ⟨_, h1_, d0_, d1_, d2_⟩ := hSw; go_simp; (try with_reducible rfl))
            (try simp only [Act.put, List.setIfInBounds_toArray, List.set_cons_zero, List.set_cons_succ, List.getElem_toArray, List.getElem_cons_zero, List.getElem_cons_succ])
            refine wpAnyH_take (i := 9) (v := ?vlhi9) rfl (by kernel_rfl) (by kernel_rfl) (by kernel_rfl) (fun _ _ _ h => h) (Or.inl ⟨by rfl, ?hylhi9⟩) (by assumption) ?restlhi9
            case hylhi9 => (intro w_ hSw; (try dsimp only at hSw); obtain ⟨_, h1_, d0_, d1_, d2_⟩ := hSw; go_simp; (try with_reducible rfl))
            (try simp only [Act.put, List.setIfInBounds_toArray, List.set_cons_zero, List.set_cons_succ, List.getElem_toArray, List.getElem_cons_zero, List.getElem_cons_succ])
            refine wpAnyH_take (i := 10) (v := ?vlhi10) rfl (by kernel_rfl) (by kernel_rfl) (by kernel_rfl) (fun _ _ _ h => h) (Or.inl ⟨by rfl, ?hylhi10⟩) (by assumption) ?restlhi10
            case hylhi10 => (intro w_ hSw; (try dsimp only at hSw); obtain ⟨_, h1_, d0_, d1_, d2_⟩ := hSw; go_simp; (try with_reducible rfl))
            (try simp only [Act.put, List.setIfInBounds_toArray, List.set_cons_zero, List.set_cons_succ, List.getElem_toArray, List.getElem_cons_zero, List.getElem_cons_succ])
            refine wpAnyH_take (i := 11) (v := undef) rfl (by kernel_rfl) (by kernel_rfl) (by kernel_rfl) (fun _ _ _ h => h) (Or.inr ⟨by rfl, rfl⟩) (by assumption) ?restlhi11
            (try simp only [Act.put, List.setIfInBounds_toArray, List.set_cons_zero, List.set_cons_succ, List.getElem_toArray, List.getElem_cons_zero, List.getElem_cons_succ])
            refine wpAnyH_take (i := 12) (v := undef) rfl (by kernel_rfl) (by kernel_rfl) (by kernel_rfl) (fun _ _ _ h => h) (Or.inr ⟨by rfl, rfl⟩) (by assumption) ?restlhi12
            (try simp only [Act.put, List.setIfInBounds_toArray, List.set_cons_zero, List.set_cons_succ, List.getElem_toArray, List.getElem_cons_zero, List.getElem_cons_succ])
            refine wpAnyH_take (i := 13) (v := undef) rfl (by kernel_rfl) (by kernel_rfl) (by kernel_rfl) (fun _ _ _ h => h) (Or.inr ⟨by rfl, rfl⟩) (by assumption) ?restlhi13
            (try simp only [Act.put, List.setIfInBounds_toArray, List.set_cons_zero, List.set_cons_succ, List.getElem_toArray, List.getElem_cons_zero, List.getElem_cons_succ])
            refine wpAnyH_take (i := 14) (v := undef) rfl (by kernel_rfl) (by kernel_rfl) (by kernel_rfl) (fun _ _ _ h => h) (Or.inr ⟨by rfl, rfl⟩) (by assumption) ?restlhi14
            (try simp only [Act.put, List.setIfInBounds_toArray, List.set_cons_zero, List.set_cons_succ, List.getElem_toArray, List.getElem_cons_zero, List.getElem_cons_succ])
            refine wpAnyH_take (i := 15) (v := ?vlhi15) rfl (by kernel_rfl) (by kernel_rfl) (by kernel_rfl) (fun _ _ _ h => h) (Or.inl ⟨by rfl, ?hylhi15⟩) (by assumption) ?restlhi15
            case hylhi15 => (intro w_ hSw; (try dsimp only at hSw); obtain ⟨_, h1_, d0_, d1_, d2_⟩ := hSw; go_simp; (try with_reducible rfl))
            (try simp only [Act.put, List.setIfInBounds_toArray, List.set_cons_zero, List.set_cons_succ, List.getElem_toArray, List.getElem_cons_zero, List.getElem_cons_succ])
            refine wpAnyH_take (i := 16) (v := ?vlhi16) rfl (by kernel_rfl) (by kernel_rfl) (by kernel_rfl) (fun _ _ _ h => h) (Or.inl ⟨by rfl, ?hylhi16⟩) (by assumption) ?restlhi16
            case hylhi16 => (intro w_ hSw; (try dsimp only at hSw); obtain ⟨_, h1_, d0_, d1_, d2_⟩ := hSw; go_simp; (try with_reducible rfl))
            (try simp only [Act.put, List.setIfInBounds_toArray, List.set_cons_zero, List.set_cons_succ, List.getElem_toArray, List.getElem_cons_zero, List.getElem_cons_succ])
            refine wpAnyH_done (by kernel_rfl) ?_ _
            go_wp2_with fail
            go_ret
            exact ⟨⟨false, rfl, b_no HNX.out⟩, hHeldlhi6.below⟩
          have e2 : decide (verb < 2) = true := by rw [decide_eq_true_eq]; omega
          by_cases wl : nw ≤ 20
          · have e3 : decide (nw ≤ 20) = true := by rw [decide_eq_true_eq]; omega
            have e5 : decide ((nw : Int) ≤ 20) = true := by rw [decide_eq_true_eq]; omega
            have HYX : Hid (OkQ ⟨verb, byl, wh⟩) := HIFF.out.2 ⟨⟨by omega, by omega, by have := HNW.out; omega⟩, HGB.out, HGC.out⟩
            refine wp_region_held_drew (S := fun w' => RvI w verb Ab Aw nb nw cb cw w') (by kernel_rfl) (HS2.out.same (Below.refl _ _).drew) (fun hHeld => ?_)
            refine wpAnyH_take (i := 0) (v := ?vlina0) rfl (by kernel_rfl) (by kernel_rfl) (by kernel_rfl) (fun _ _ _ h => h) (Or.inl ⟨by rfl, ?hylina0⟩) (by assumption) ?restlina0
            case hylina0 => (intro w_ hSw; (try dsimp only at hSw); obtain ⟨_, h1_, d0_, d1_, d2_⟩ := hSw; go_simp; (try with_reducible rfl))
            (try simp only [Act.put, List.setIfInBounds_toArray, List.set_cons_zero, List.set_cons_succ, List.getElem_toArray, List.getElem_cons_zero, List.getElem_cons_succ])
            refine wpAnyH_take (i := 1) (v := ?vlina1) rfl (by kernel_rfl) (by kernel_rfl) (by kernel_rfl) (fun _ _ _ h => h) (Or.inl ⟨by rfl, ?hylina1⟩) (by assumption) ?restlina1
            case hylina1 => (intro w_ hSw; (try dsimp only at hSw); obtain ⟨_, h1_, d0_, d1_, d2_⟩ := hSw; go_simp; (try with_reducible rfl))
            (try simp only [Act.put, List.setIfInBounds_toArray, List.set_cons_zero, List.set_cons_succ, List.getElem_toArray, List.getElem_cons_zero, List.getElem_cons_succ])
            refine wpAnyH_take (i := 2) (v := ?vlina2) rfl (by kernel_rfl) (by kernel_rfl) (by kernel_rfl) (fun _ _ _ h => h) (Or.inl ⟨by rfl, ?hylina2⟩) (by assumption) ?restlina2
            case hylina2 => (intro w_ hSw; (try dsimp only at hSw); obtain ⟨_, h1_, d0_, d1_, d2_⟩ := hSw; go_simp; (try with_reducible rfl))
            (try simp only [Act.put, List.setIfInBounds_toArray, List.set_cons_zero, List.set_cons_succ, List.getElem_toArray, List.getElem_cons_zero, List.getElem_cons_succ])
            refine wpAnyH_take (i := 3) (v := ?vlina3) rfl (by kernel_rfl) (by kernel_rfl) (by kernel_rfl) (fun _ _ _ h => h) (Or.inl ⟨by rfl, ?hylina3⟩) (by assumption) ?restlina3
            case hylina3 => (intro w_ hSw; (try dsimp only at hSw); obtain ⟨_, h1_, d0_, d1_, d2_⟩ := hSw; go_simp; (try with_reducible rfl))
            (try simp only [Act.put, List.setIfInBounds_toArray, List.set_cons_zero, List.set_cons_succ, List.getElem_toArray, List.getElem_cons_zero, List.getElem_cons_succ])
            refine wpAnyH_take (i := 4) (v := ?vlina4) rfl (by kernel_rfl) (by kernel_rfl) (by kernel_rfl) (fun _ _ _ h => h) (Or.inl ⟨by rfl, ?hylina4⟩) (by assumption) ?restlina4
            case hylina4 => (intro w_ hSw; (try dsimp only at hSw); obtain ⟨_, h1_, d0_, d1_, d2_⟩ := hSw; go_simp; (try with_reducible rfl))
            (try simp only [Act.put, List.setIfInBounds_toArray, List.set_cons_zero, List.set_cons_succ, List.getElem_toArray, List.getElem_cons_zero, List.getElem_cons_succ])
            refine wpAnyH_take (i := 5) (v := ?vlina5) rfl (by kernel_rfl) (by kernel_rfl) (by kernel_rfl) (fun _ _ _ h => h) (Or.inl ⟨by rfl, ?hylina5⟩) (by assumption) ?restlina5
            case hylina5 => (intro w_ hSw; (try dsimp only at hSw); obtain ⟨_, h1_, d0_, d1_, d2_⟩ := hSw; go_simp; (try with_reducible rfl))
            (try simp only [Act.put, List.setIfInBounds_toArray, List.set_cons_zero, List.set_cons_succ, List.getElem_toArray, List.getElem_cons_zero, List.getElem_cons_succ])
            refine wpAnyH_ready (rs := [6]) (by kernel_rfl) (by simp) ?_
            refine AllReadyH.cons rfl (fun K hK => ?_) AllReadyH.nil
            go_simp
            go_wp2_with (go_at_call 38; refine (ref_vb_low _).mono ?_; rintro e w3 ⟨rfl, hbx⟩)
            refine hK.out _ _ ?hSlina6 (fun hHeldlina6 => ?_)
            case hSlina6 => exact hHeld.same hbx
            clear hK K
            (try simp only [Act.put, List.setIfInBounds_toArray, List.set_cons_zero, List.set_cons_succ, List.getElem_toArray, List.getElem_cons_zero, List.getElem_cons_succ])
            refine wpAnyH_take (i := 7) (v := ?vlina7) rfl (by kernel_rfl) (by kernel_rfl) (by kernel_rfl) (fun _ _ _ h => h) (Or.inl ⟨by rfl, ?hylina7⟩) (by assumption) ?restlina7
            case hylina7 => (intro w_ hSw; (try dsimp only at hSw); obtain ⟨_, h1_, d0_, d1_, d2_⟩ := hSw; go_simp; (try with_reducible rfl))
            (try simp only [Act.put, List.setIfInBounds_toArray, List.set_cons_zero, List.set_cons_succ, List.getElem_toArray, List.getElem_cons_zero, List.getElem_cons_succ])
            refine wpAnyH_take (i := 8) (v := ?vlina8) rfl (by kernel_rfl) (by kernel_rfl) (by kernel_rfl) (fun _ _ _ h => h) (Or.inl ⟨by rfl, ?hylina8⟩) (by assumption) ?restlina8
            case hylina8 => (intro w_ hSw; (try dsimp only at hSw); obtain ⟨_, h1_, d0_, d1_, d2_⟩ := hSw; go_simp; (try with_reducible rfl))
            (try simp only [Act.put, List.setIfInBounds_toArray, List.set_cons_zero, List.set_cons_succ, List.getElem_toArray, List.getElem_cons_zero, List.getElem_cons_succ])
            refine wpAnyH_take (i := 9) (v := ?vlina9) rfl (by kernel_rfl) (by kernel_rfl) (by kernel_rfl) (fun _ _ _ h => h) (Or.inl ⟨by rfl, ?hylina9⟩) (by assumption) ?restlina9
            case hylina9 => (intro w_ hSw; (try dsimp only at hSw); obtain ⟨_, h1_, d0_, d1_, d2_⟩ := hSw; go_simp; (try with_reducible rfl))
            (try simp only [Act.put, List.setIfInBounds_toArray, List.set_cons_zero, List.set_cons_succ, List.getElem_toArray, List.getElem_cons_zero, List.getElem_cons_succ])
            refine wpAnyH_take (i := 10) (v := ?vlina10) rfl (by kernel_rfl) (by kernel_rfl) (by kernel_rfl) (fun _ _ _ h => h) (Or.inl ⟨by rfl, ?hylina10⟩) (by assumption) ?restlina10
            case hylina10 => (intro w_ hSw; (try dsimp only at hSw); obtain ⟨_, h1_, d0_, d1_, d2_⟩ := hSw; go_simp; (try with_reducible rfl))
            (try simp only [Act.put, List.setIfInBounds_toArray, List.set_cons_zero, List.set_cons_succ, List.getElem_toArray, List.getElem_cons_zero, List.getElem_cons_succ])
            refine wpAnyH_take (i := 11) (v := ?vlina11) rfl (by kernel_rfl) (by kernel_rfl) (by kernel_rfl) (fun _ _ _ h => h) (Or.inl ⟨by rfl, ?hylina11⟩) (by assumption) ?restlina11
            case hylina11 => (intro w_ hSw; (try dsimp only at hSw); obtain ⟨_, h1_, d0_, d1_, d2_⟩ := hSw; go_simp; (try with_reducible rfl))
            (try simp only [Act.put, List.setIfInBounds_toArray, List.set_cons_zero, List.set_cons_succ, List.getElem_toArray, List.getElem_cons_zero, List.getElem_cons_succ])
            refine wpAnyH_take (i := 12) (v := ?vlina12) rfl (by kernel_rfl) (by kernel_rfl) (by kernel_rfl) (fun _ _ _ h => h) (Or.inl ⟨by rfl, ?hylina12⟩) (by assumption) ?restlina12
            case hylina12 => (intro w_ hSw; (try dsimp only at hSw); obtain ⟨_, h1_, d0_, d1_, d2_⟩ := hSw; go_simp; (try with_reducible rfl))
            (try simp only [Act.put, List.setIfInBounds_toArray, List.set_cons_zero, List.set_cons_succ, List.getElem_toArray, List.getElem_cons_zero, List.getElem_cons_succ])
            refine wpAnyH_take (i := 13) (v := ?vlina13) rfl (by kernel_rfl) (by kernel_rfl) (by kernel_rfl) (fun _ _ _ h => h) (Or.inl ⟨by rfl, ?hylina13⟩) (by assumption) ?restlina13
            case hylina13 => (intro w_ hSw; (try dsimp only at hSw); obtain ⟨_, h1_, d0_, d1_, d2_⟩ := hSw; go_simp; (try with_reducible rfl))
            (try simp only [Act.put, List.setIfInBounds_toArray, List.set_cons_zero, List.set_cons_succ, List.getElem_toArray, List.getElem_cons_zero, List.getElem_cons_succ])
            refine wpAnyH_take (i := 14) (v := ?vlina14) rfl (by kernel_rfl) (by kernel_rfl) (by kernel_rfl) (fun _ _ _ h => h) (Or.inl ⟨by rfl, ?hylina14⟩) (by assumption) ?restlina14
            case hylina14 => (intro w_ hSw; (try dsimp only at hSw); obtain ⟨_, h1_, d0_, d1_, d2_⟩ := hSw; go_simp; (try with_reducible rfl))
            (try simp only [Act.put, List.setIfInBounds_toArray, List.set_cons_zero, List.set_cons_succ, List.getElem_toArray, List.getElem_cons_zero, List.getElem_cons_succ])
            refine wpAnyH_take (i := 15) (v := ?vlina15) rfl (by kernel_rfl) (by kernel_rfl) (by kernel_rfl) (fun _ _ _ h => h) (Or.inl ⟨by rfl, ?hylina15⟩) (by assumption) ?restlina15
            case hylina15 => (intro w_ hSw; (try dsimp only at hSw); obtain ⟨_, h1_, d0_, d1_, d2_⟩ := hSw; go_simp; (try with_reducible rfl))
            (try simp only [Act.put, List.setIfInBounds_toArray, List.set_cons_zero, List.set_cons_succ, List.getElem_toArray, List.getElem_cons_zero, List.getElem_cons_succ])
            refine wpAnyH_take (i := 16) (v := ?vlina16) rfl (by kernel_rfl) (by kernel_rfl) (by kernel_rfl) (fun _ _ _ h => h) (Or.inl ⟨by rfl, ?hylina16⟩) (by assumption) ?restlina16
            case hylina16 => (intro w_ hSw; (try dsimp only at hSw); obtain ⟨_, h1_, d0_, d1_, d2_⟩ := hSw; go_simp; (try with_reducible rfl))
            (try simp only [Act.put, List.setIfInBounds_toArray, List.set_cons_zero, List.set_cons_succ, List.getElem_toArray, List.getElem_cons_zero, List.getElem_cons_succ])
            refine wpAnyH_done (by kernel_rfl) ?_ _
            go_wp2_with fail
            go_ret
            exact ⟨⟨true, rfl, b_yes HYX.out⟩, hHeldlina6.below⟩
          · have e3 : decide (nw ≤ 20) = false := by rw [decide_eq_false_iff_not]; omega
            have e5 : decide ((nw : Int) ≤ 20) = false := by rw [decide_eq_false_iff_not]; omega
            have HNX : Hid (¬ OkQ ⟨verb, byl, wh⟩) := fun h => by have := h.wl; have := HNW.out; simp only [] at *; omega
            refine wp_region_held_drew (S := fun w' => RvI w verb Ab Aw nb nw cb cw w') (by kernel_rfl) (HS2.out.same (Below.refl _ _).drew) (fun hHeld => ?_)
            refine wpAnyH_take (i := 0) (v := ?vlinz0) rfl (by kernel_rfl) (by kernel_rfl) (by kernel_rfl) (fun _ _ _ h => h) (Or.inl ⟨by rfl, ?hylinz0⟩) (by assumption) ?restlinz0
            case hylinz0 => (intro w_ hSw; (try dsimp only at hSw); obtain ⟨_, h1_, d0_, d1_, d2_⟩ := hSw; go_simp; (try with_reducible rfl))
            (try simp only [Act.put, List.setIfInBounds_toArray, List.set_cons_zero, List.set_cons_succ, List.getElem_toArray, List.getElem_cons_zero, List.getElem_cons_succ])
            refine wpAnyH_take (i := 1) (v := ?vlinz1) rfl (by kernel_rfl) (by kernel_rfl) (by kernel_rfl) (fun _ _ _ h => h) (Or.inl ⟨by rfl, ?hylinz1⟩) (by assumption) ?restlinz1
            case hylinz1 => (intro w_ hSw; (try dsimp only at hSw); obtain ⟨_, h1_, d0_, d1_, d2_⟩ := hSw; go_simp; (try with_reducible rfl))
            (try simp only [Act.put, List.setIfInBounds_toArray, List.set_cons_zero, List.set_cons_succ, List.getElem_toArray, List.getElem_cons_zero, List.getElem_cons_succ])
            refine wpAnyH_take (i := 2) (v := ?vlinz2) rfl (by kernel_rfl) (by kernel_rfl) (by kernel_rfl) (fun _ _ _ h => h) (Or.inl ⟨by rfl, ?hylinz2⟩) (by assumption) ?restlinz2
            case hylinz2 => (intro w_ hSw; (try dsimp only at hSw); obtain ⟨_, h1_, d0_, d1_, d2_⟩ := hSw; go_simp; (try with_reducible rfl))
            (try simp only [Act.put, List.setIfInBounds_toArray, List.set_cons_zero, List.set_cons_succ, List.getElem_toArray, List.getElem_cons_zero, List.getElem_cons_succ])
            refine wpAnyH_take (i := 3) (v := ?vlinz3) rfl (by kernel_rfl) (by kernel_rfl) (by kernel_rfl) (fun _ _ _ h => h) (Or.inl ⟨by rfl, ?hylinz3⟩) (by assumption) ?restlinz3
            case hylinz3 => (intro w_ hSw; (try dsimp only at hSw); obtain ⟨_, h1_, d0_, d1_, d2_⟩ := hSw; go_simp; (try with_reducible rfl))
            (try simp only [Act.put, List.setIfInBounds_toArray, List.set_cons_zero, List.set_cons_succ, List.getElem_toArray, List.getElem_cons_zero, List.getElem_cons_succ])
            refine wpAnyH_take (i := 4) (v := ?vlinz4) rfl (by kernel_rfl) (by kernel_rfl) (by kernel_rfl) (fun _ _ _ h => h) (Or.inl ⟨by rfl, ?hylinz4⟩) (by assumption) ?restlinz4
            case hylinz4 => (intro w_ hSw; (try dsimp only at hSw); obtain ⟨_, h1_, d0_, d1_, d2_⟩ := hSw; go_simp; (try with_reducible rfl))
            (try simp only [Act.put, List.setIfInBounds_toArray, List.set_cons_zero, List.set_cons_succ, List.getElem_toArray, List.getElem_cons_zero, List.getElem_cons_succ])
            refine wpAnyH_take (i := 5) (v := ?vlinz5) rfl (by kernel_rfl) (by kernel_rfl) (by kernel_rfl) (fun _ _ _ h => h) (Or.inl ⟨by rfl, ?hylinz5⟩) (by assumption) ?restlinz5
            case hylinz5 => (intro w_ hSw; (try dsimp only at hSw); obtain ⟨_, h1_, d0_, d1_, d2_⟩ := hSw; go_simp; (try with_reducible rfl))
            (try simp only [Act.put, List.setIfInBounds_toArray, List.set_cons_zero, List.set_cons_succ, List.getElem_toArray, List.getElem_cons_zero, List.getElem_cons_succ])
            refine wpAnyH_ready (rs := [6]) (by kernel_rfl) (by simp) ?_
            refine AllReadyH.cons rfl (fun K hK => ?_) AllReadyH.nil
            go_simp
            go_wp2_with (go_at_call 38; refine (ref_vb_low _).mono ?_; rintro e w3 ⟨rfl, hbx⟩)
            refine hK.out _ _ ?hSlinz6 (fun hHeldlinz6 => ?_)
            case hSlinz6 => exact hHeld.same hbx
            clear hK K
            (try simp only [Act.put, List.setIfInBounds_toArray, List.set_cons_zero, List.set_cons_succ, List.getElem_toArray, List.getElem_cons_zero, List.getElem_cons_succ])
            refine wpAnyH_take (i := 7) (v := ?vlinz7) rfl (by kernel_rfl) (by kernel_rfl) (by kernel_rfl) (fun _ _ _ h => h) (Or.inl ⟨by rfl, ?hylinz7⟩) (by assumption) ?restlinz7
            case hylinz7 => (intro w_ hSw; (try dsimp only at hSw); obtain ⟨_, h1_, d0_, d1_, d2_⟩ := hSw; go_simp; (try with_reducible rfl))
            (try simp only [Act.put, List.setIfInBounds_toArray, List.set_cons_zero, List.set_cons_succ, List.getElem_toArray, List.getElem_cons_zero, List.getElem_cons_succ])
            refine wpAnyH_take (i := 8) (v := ?vlinz8) rfl (by kernel_rfl) (by kernel_rfl) (by kernel_rfl) (fun _ _ _ h => h) (Or.inl ⟨by rfl, ?hylinz8⟩) (by assumption) ?restlinz8
            case hylinz8 => (intro w_ hSw; (try dsimp only at hSw); obtain ⟨_, h1_, d0_, d1_, d2_⟩ := hSw; go_simp; (try with_reducible rfl))
            (try simp only [Act.put, List.setIfInBounds_toArray, List.set_cons_zero, List.set_cons_succ, List.getElem_toArray, List.getElem_cons_zero, List.getElem_cons_succ])
            refine wpAnyH_take (i := 9) (v := ?vlinz9) rfl (by kernel_rfl) (by kernel_rfl) (by kernel_rfl) (fun _ _ _ h => h) (Or.inl ⟨by rfl, ?hylinz9⟩) (by assumption) ?restlinz9
            case hylinz9 => (intro w_ hSw; (try dsimp only at hSw); obtain ⟨_, h1_, d0_, d1_, d2_⟩ := hSw; go_simp; (try with_reducible rfl))
            (try simp only [Act.put, List.setIfInBounds_toArray, List.set_cons_zero, List.set_cons_succ, List.getElem_toArray, List.getElem_cons_zero, List.getElem_cons_succ])
            refine wpAnyH_take (i := 10) (v := ?vlinz10) rfl (by kernel_rfl) (by kernel_rfl) (by kernel_rfl) (fun _ _ _ h => h) (Or.inl ⟨by rfl, ?hylinz10⟩) (by assumption) ?restlinz10
            case hylinz10 => (intro w_ hSw; (try dsimp only at hSw); obtain ⟨_, h1_, d0_, d1_, d2_⟩ := hSw; go_simp; (try with_reducible rfl))
            (try simp only [Act.put, List.setIfInBounds_toArray, List.set_cons_zero, List.set_cons_succ, List.getElem_toArray, List.getElem_cons_zero, List.getElem_cons_succ])
            refine wpAnyH_take (i := 11) (v := ?vlinz11) rfl (by kernel_rfl) (by kernel_rfl) (by kernel_rfl) (fun _ _ _ h => h) (Or.inl ⟨by rfl, ?hylinz11⟩) (by assumption) ?restlinz11
            case hylinz11 => (intro w_ hSw; (try dsimp only at hSw); obtain ⟨_, h1_, d0_, d1_, d2_⟩ := hSw; go_simp; (try with_reducible rfl))
            (try simp only [Act.put, List.setIfInBounds_toArray, List.set_cons_zero, List.set_cons_succ, List.getElem_toArray, List.getElem_cons_zero, List.getElem_cons_succ])
            refine wpAnyH_take (i := 12) (v := ?vlinz12) rfl (by kernel_rfl) (by kernel_rfl) (by kernel_rfl) (fun _ _ _ h => h) (Or.inl ⟨by rfl, ?hylinz12⟩) (by assumption) ?restlinz12
            case hylinz12 => (intro w_ hSw; (try dsimp only at hSw); obtain ⟨_, h1_, d0_, d1_, d2_⟩ := hSw; go_simp; (try with_reducible rfl))
            (try simp only [Act.put, List.setIfInBounds_toArray, List.set_cons_zero, List.set_cons_succ, List.getElem_toArray, List.getElem_cons_zero, List.getElem_cons_succ])
            refine wpAnyH_take (i := 13) (v := ?vlinz13) rfl (by kernel_rfl) (by kernel_rfl) (by kernel_rfl) (fun _ _ _ h => h) (Or.inl ⟨by rfl, ?hylinz13⟩) (by assumption) ?restlinz13
            case hylinz13 => (intro w_ hSw; (try dsimp only at hSw); obtain ⟨_, h1_, d0_, d1_, d2_⟩ := hSw; go_simp; (try with_reducible rfl))
            (try simp only [Act.put, List.setIfInBounds_toArray, List.set_cons_zero, List.set_cons_succ, List.getElem_toArray, List.getElem_cons_zero, List.getElem_cons_succ])
            refine wpAnyH_take (i := 14) (v := ?vlinz14) rfl (by kernel_rfl) (by kernel_rfl) (by kernel_rfl) (fun _ _ _ h => h) (Or.inl ⟨by rfl, ?hylinz14⟩) (by assumption) ?restlinz14
            case hylinz14 => (intro w_ hSw; (try dsimp only at hSw); obtain ⟨_, h1_, d0_, d1_, d2_⟩ := hSw; go_simp; (try with_reducible rfl))
            (try simp only [Act.put, List.setIfInBounds_toArray, List.set_cons_zero, List.set_cons_succ, List.getElem_toArray, List.getElem_cons_zero, List.getElem_cons_succ])
            refine wpAnyH_take (i := 15) (v := ?vlinz15) rfl (by kernel_rfl) (by kernel_rfl) (by kernel_rfl) (fun _ _ _ h => h) (Or.inl ⟨by rfl, ?hylinz15⟩) (by assumption) ?restlinz15
            case hylinz15 => (intro w_ hSw; (try dsimp only at hSw); obtain ⟨_, h1_, d0_, d1_, d2_⟩ := hSw; go_simp; (try with_reducible rfl))
            (try simp only [Act.put, List.setIfInBounds_toArray, List.set_cons_zero, List.set_cons_succ, List.getElem_toArray, List.getElem_cons_zero, List.getElem_cons_succ])
            refine wpAnyH_take (i := 16) (v := ?vlinz16) rfl (by kernel_rfl) (by kernel_rfl) (by kernel_rfl) (fun _ _ _ h => h) (Or.inl ⟨by rfl, ?hylinz16⟩) (by assumption) ?restlinz16
            case hylinz16 => (intro w_ hSw; (try dsimp only at hSw); obtain ⟨_, h1_, d0_, d1_, d2_⟩ := hSw; go_simp; (try with_reducible rfl))
            (try simp only [Act.put, List.setIfInBounds_toArray, List.set_cons_zero, List.set_cons_succ, List.getElem_toArray, List.getElem_cons_zero, List.getElem_cons_succ])
            refine wpAnyH_done (by kernel_rfl) ?_ _
            go_wp2_with fail
            go_ret
            exact ⟨⟨false, rfl, b_no HNX.out⟩, hHeldlinz6.below⟩
end Go.Proofs.YtfnlddloalineaaGreatDoor
