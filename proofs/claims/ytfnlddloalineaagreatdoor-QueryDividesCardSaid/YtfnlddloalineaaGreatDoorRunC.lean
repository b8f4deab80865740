/-
  The reference's Less. (printed by wip/tools/gen_runr1.py)
  Rows of an answer: rows.
  SameRows at equal answers. (printed by wip/tools/gen_runr3.py)
  Parts of a list of rows (for the three appends of the reference's put).
-/
import Derived.Test.YtfnlddloalineaaGreatDoorRunB
namespace Go.Proofs.YtfnlddloalineaaGreatDoor
open Go.RowKit
set_option linter.unusedVariables false
set_option linter.unusedSimpArgs false
set_option maxRecDepth 100000
theorem cmpI_lt (x y : Int) : (cmpI x y < 0) ↔ x < y := by
  unfold cmpI
  by_cases h1 : x < y
  · rw [if_pos h1]; exact ⟨fun _ => h1, fun _ => by decide⟩
  · rw [if_neg h1]
    by_cases h2 : y < x
    · rw [if_pos h2]; exact ⟨fun h => absurd h (by decide), fun h => absurd h h1⟩
    · rw [if_neg h2]; exact ⟨fun h => absurd h (by decide), fun h => absurd h h1⟩
set_option maxHeartbeats 8000000 in
theorem less_any (xs ys : List Int) (A A' : Option Addr) (n c c' B : Nat) (w : World) (hx : RdBy w B A xs) (hy : RdBy w B A' ys) (hn : xs.length = n) (hn2 : ys.length = n) (hb : n ≤ 1000) :
    Calls Tryz.prog 95 #[.slice A n c, .slice A' n c'] w fun e w' => e = .returned (.bool (decide (cmpL xs ys < 0))) ∧ ∃ m, w' = w.drewN m := by
  have HX := Lib.hid hx
  have HY := Lib.hid hy
  have HN := Lib.hid hn
  have HN2 := Lib.hid hn2
  clear hx hy hn hn2
  go_enter Tryz.func95, Tryz.ntmps95
  go_wp2_with fail
  go_loopw [5] (fun i x => ∃ k m : Nat, k ≤ n ∧ i = .int .i64 (k : Int) ∧ x = w.drewN m ∧ ∀ j, j < k → xs.getD j 0 = ys.getD j 0) (fun i _ => n - (intOf i).toNat)
  case atStart => exact ⟨0, 0, Nat.zero_le _, rfl, rfl, fun j h => by omega⟩
  case round =>
    obtain ⟨k, m, hk, rfl, hw, hd⟩ := hrel
    have HD := Lib.hid hd
    have HW := Lib.hid hw
    clear hd
    by_cases hlt : k < n
    · have k1 : decide ((k : Int) < (n : Int)) = true := by rw [decide_eq_true_eq]; omega
      have k4 : (k : Int) < (n : Int) := by omega
      obtain ⟨g, o, rfl, _, hc1⟩ := HX.out (by have := HN.out; omega)
      obtain ⟨g', o', rfl, _, hc2⟩ := HY.out (by have := HN2.out; omega)
      have a1 : wr.cell? ⟨g, o + k, none⟩ = some (.int .i64 (xs.getD k 0)) := by rw [hw]; exact hc1 k (by have := HN.out; omega)
      have a2 : wr.cell? ⟨g', o' + k, none⟩ = some (.int .i64 (ys.getD k 0)) := by rw [hw]; exact hc2 k (by have := HN2.out; omega)
      have HKL : Hid (k < xs.length) := by show _ < _; have := HN.out; omega
      have HNE : Hid (xs.getD k 0 ≠ ys.getD k 0 → decide (cmpL xs ys < 0) = decide (xs.getD k 0 < ys.getD k 0)) := fun h => by
        rw [cmpL_at HKL.out HD.out h, decide_eq_decide]; exact cmpI_lt _ _
      have HEQ : Hid (xs.getD k 0 = ys.getD k 0 → ∀ j, j < k + 1 → xs.getD j 0 = ys.getD j 0) := fun h j hj => by
        by_cases e : j = k
        · rw [e]; exact h
        · exact HD.out j (by omega)
      generalize xs.getD k 0 = x at *
      generalize ys.getD k 0 = y at *
      clear hc1 hc2 hw
      go_wp2_with fail
      refine wp_region_held_drew (S := fun w' => w'.cell? ⟨g, o + k, none⟩ = some (.int .i64 x) ∧ w'.cell? ⟨g', o' + k, none⟩ = some (.int .i64 y)) (by kernel_rfl) ⟨a1, a2⟩ (fun hHeld => ?_)
      refine wpAnyH_take (i := 0) (v := ?va0) rfl (by kernel_rfl) (by kernel_rfl) (by kernel_rfl) (fun _ _ _ h => h) (Or.inl ⟨by rfl, ?hya0⟩) (by assumption) ?resta0
      case hya0 => (intro w_ hSw; (try dsimp only at hSw); obtain ⟨d0_, d1_⟩ := hSw; go_simp; (try with_reducible rfl))
      (try simp only [Act.put, List.setIfInBounds_toArray, List.set_cons_zero, List.set_cons_succ, List.getElem_toArray, List.getElem_cons_zero, List.getElem_cons_succ])
      refine wpAnyH_take (i := 1) (v := ?va1) rfl (by kernel_rfl) (by kernel_rfl) (by kernel_rfl) (fun _ _ _ h => h) (Or.inl ⟨by rfl, ?hya1⟩) (by assumption) ?resta1
      case hya1 => (intro w_ hSw; (try dsimp only at hSw); obtain ⟨d0_, d1_⟩ := hSw; go_simp; (try with_reducible rfl))
      (try simp only [Act.put, List.setIfInBounds_toArray, List.set_cons_zero, List.set_cons_succ, List.getElem_toArray, List.getElem_cons_zero, List.getElem_cons_succ])
      refine wpAnyH_take (i := 2) (v := ?va2) rfl (by kernel_rfl) (by kernel_rfl) (by kernel_rfl) (fun _ _ _ h => h) (Or.inl ⟨by rfl, ?hya2⟩) (by assumption) ?resta2
      case hya2 => (intro w_ hSw; (try dsimp only at hSw); obtain ⟨d0_, d1_⟩ := hSw; go_simp; (try with_reducible rfl))
      (try simp only [Act.put, List.setIfInBounds_toArray, List.set_cons_zero, List.set_cons_succ, List.getElem_toArray, List.getElem_cons_zero, List.getElem_cons_succ])
      refine wpAnyH_take (i := 3) (v := ?va3) rfl (by kernel_rfl) (by kernel_rfl) (by kernel_rfl) (fun _ _ _ h => h) (Or.inl ⟨by rfl, ?hya3⟩) (by assumption) ?resta3
      case hya3 => (intro w_ hSw; (try dsimp only at hSw); obtain ⟨d0_, d1_⟩ := hSw; go_simp; (try with_reducible rfl))
      (try simp only [Act.put, List.setIfInBounds_toArray, List.set_cons_zero, List.set_cons_succ, List.getElem_toArray, List.getElem_cons_zero, List.getElem_cons_succ])
      refine wpAnyH_take (i := 4) (v := ?va4) rfl (by kernel_rfl) (by kernel_rfl) (by kernel_rfl) (fun _ _ _ h => h) (Or.inl ⟨by rfl, ?hya4⟩) (by assumption) ?resta4
      case hya4 => (intro w_ hSw; (try dsimp only at hSw); obtain ⟨d0_, d1_⟩ := hSw; go_simp; (try with_reducible rfl))
      (try simp only [Act.put, List.setIfInBounds_toArray, List.set_cons_zero, List.set_cons_succ, List.getElem_toArray, List.getElem_cons_zero, List.getElem_cons_succ])
      refine wpAnyH_take (i := 5) (v := ?va5) rfl (by kernel_rfl) (by kernel_rfl) (by kernel_rfl) (fun _ _ _ h => h) (Or.inl ⟨by rfl, ?hya5⟩) (by assumption) ?resta5
      case hya5 => (intro w_ hSw; (try dsimp only at hSw); obtain ⟨d0_, d1_⟩ := hSw; go_simp; (try with_reducible rfl))
      (try simp only [Act.put, List.setIfInBounds_toArray, List.set_cons_zero, List.set_cons_succ, List.getElem_toArray, List.getElem_cons_zero, List.getElem_cons_succ])
      refine wpAnyH_take (i := 6) (v := ?va6) rfl (by kernel_rfl) (by kernel_rfl) (by kernel_rfl) (fun _ _ _ h => h) (Or.inl ⟨by rfl, ?hya6⟩) (by assumption) ?resta6
      case hya6 => (intro w_ hSw; (try dsimp only at hSw); obtain ⟨d0_, d1_⟩ := hSw; go_simp; (try with_reducible rfl))
      (try simp only [Act.put, List.setIfInBounds_toArray, List.set_cons_zero, List.set_cons_succ, List.getElem_toArray, List.getElem_cons_zero, List.getElem_cons_succ])
      refine wpAnyH_take (i := 7) (v := ?va7) rfl (by kernel_rfl) (by kernel_rfl) (by kernel_rfl) (fun _ _ _ h => h) (Or.inl ⟨by rfl, ?hya7⟩) (by assumption) ?resta7
      case hya7 => (intro w_ hSw; (try dsimp only at hSw); obtain ⟨d0_, d1_⟩ := hSw; go_simp; (try with_reducible rfl))
      (try simp only [Act.put, List.setIfInBounds_toArray, List.set_cons_zero, List.set_cons_succ, List.getElem_toArray, List.getElem_cons_zero, List.getElem_cons_succ])
      refine wpAnyH_take (i := 8) (v := ?va8) rfl (by kernel_rfl) (by kernel_rfl) (by kernel_rfl) (fun _ _ _ h => h) (Or.inl ⟨by rfl, ?hya8⟩) (by assumption) ?resta8
      case hya8 => (intro w_ hSw; (try dsimp only at hSw); obtain ⟨d0_, d1_⟩ := hSw; go_simp; (try with_reducible rfl))
      (try simp only [Act.put, List.setIfInBounds_toArray, List.set_cons_zero, List.set_cons_succ, List.getElem_toArray, List.getElem_cons_zero, List.getElem_cons_succ])
      refine wpAnyH_done (by kernel_rfl) ?_ _
      by_cases hxy : x = y
      · have F := Lib.hid (HEQ.out hxy)
        have q1 : (x != y) = false := by simp [hxy]
        clear HNE HEQ hxy hHeld
        go_wp2_with fail
        go_roundw
        case rel => exact ⟨k + 1, m + 1, by omega, by go_num, by rw [HW.out]; rfl, F.out⟩
        case measure => simp [intOf]; omega
      · have F := Lib.hid (HNE.out hxy)
        have q1 : (x != y) = true := by simpa using hxy
        have b1 := hHeld.1
        have b2 := hHeld.2
        clear HNE HEQ
        go_upto_region 5 with fail
        refine wp_region_held_drew (S := fun w' => w'.cell? ⟨g, o + k, none⟩ = some (.int .i64 x) ∧ w'.cell? ⟨g', o' + k, none⟩ = some (.int .i64 y)) (by kernel_rfl) ⟨b1, b2⟩ (fun hHeld => ?_)
        refine wpAnyH_take (i := 0) (v := ?vb0) rfl (by kernel_rfl) (by kernel_rfl) (by kernel_rfl) (fun _ _ _ h => h) (Or.inl ⟨by rfl, ?hyb0⟩) (by assumption) ?restb0
        case hyb0 => (intro w_ hSw; (try dsimp only at hSw); obtain ⟨d0_, d1_⟩ := hSw; go_simp; (try with_reducible rfl))
        (try simp only [Act.put, List.setIfInBounds_toArray, List.set_cons_zero, List.set_cons_succ, List.getElem_toArray, List.getElem_cons_zero, List.getElem_cons_succ])
        refine wpAnyH_take (i := 1) (v := ?vb1) rfl (by kernel_rfl) (by kernel_rfl) (by kernel_rfl) (fun _ _ _ h => h) (Or.inl ⟨by rfl, ?hyb1⟩) (by assumption) ?restb1
        case hyb1 => (intro w_ hSw; (try dsimp only at hSw); obtain ⟨d0_, d1_⟩ := hSw; go_simp; (try with_reducible rfl))
        (try simp only [Act.put, List.setIfInBounds_toArray, List.set_cons_zero, List.set_cons_succ, List.getElem_toArray, List.getElem_cons_zero, List.getElem_cons_succ])
        refine wpAnyH_take (i := 2) (v := ?vb2) rfl (by kernel_rfl) (by kernel_rfl) (by kernel_rfl) (fun _ _ _ h => h) (Or.inl ⟨by rfl, ?hyb2⟩) (by assumption) ?restb2
        case hyb2 => (intro w_ hSw; (try dsimp only at hSw); obtain ⟨d0_, d1_⟩ := hSw; go_simp; (try with_reducible rfl))
        (try simp only [Act.put, List.setIfInBounds_toArray, List.set_cons_zero, List.set_cons_succ, List.getElem_toArray, List.getElem_cons_zero, List.getElem_cons_succ])
        refine wpAnyH_take (i := 3) (v := ?vb3) rfl (by kernel_rfl) (by kernel_rfl) (by kernel_rfl) (fun _ _ _ h => h) (Or.inl ⟨by rfl, ?hyb3⟩) (by assumption) ?restb3
        case hyb3 => (intro w_ hSw; (try dsimp only at hSw); obtain ⟨d0_, d1_⟩ := hSw; go_simp; (try with_reducible rfl))
        (try simp only [Act.put, List.setIfInBounds_toArray, List.set_cons_zero, List.set_cons_succ, List.getElem_toArray, List.getElem_cons_zero, List.getElem_cons_succ])
        refine wpAnyH_take (i := 4) (v := ?vb4) rfl (by kernel_rfl) (by kernel_rfl) (by kernel_rfl) (fun _ _ _ h => h) (Or.inl ⟨by rfl, ?hyb4⟩) (by assumption) ?restb4
        case hyb4 => (intro w_ hSw; (try dsimp only at hSw); obtain ⟨d0_, d1_⟩ := hSw; go_simp; (try with_reducible rfl))
        (try simp only [Act.put, List.setIfInBounds_toArray, List.set_cons_zero, List.set_cons_succ, List.getElem_toArray, List.getElem_cons_zero, List.getElem_cons_succ])
        refine wpAnyH_take (i := 5) (v := ?vb5) rfl (by kernel_rfl) (by kernel_rfl) (by kernel_rfl) (fun _ _ _ h => h) (Or.inl ⟨by rfl, ?hyb5⟩) (by assumption) ?restb5
        case hyb5 => (intro w_ hSw; (try dsimp only at hSw); obtain ⟨d0_, d1_⟩ := hSw; go_simp; (try with_reducible rfl))
        (try simp only [Act.put, List.setIfInBounds_toArray, List.set_cons_zero, List.set_cons_succ, List.getElem_toArray, List.getElem_cons_zero, List.getElem_cons_succ])
        refine wpAnyH_take (i := 6) (v := ?vb6) rfl (by kernel_rfl) (by kernel_rfl) (by kernel_rfl) (fun _ _ _ h => h) (Or.inl ⟨by rfl, ?hyb6⟩) (by assumption) ?restb6
        case hyb6 => (intro w_ hSw; (try dsimp only at hSw); obtain ⟨d0_, d1_⟩ := hSw; go_simp; (try with_reducible rfl))
        (try simp only [Act.put, List.setIfInBounds_toArray, List.set_cons_zero, List.set_cons_succ, List.getElem_toArray, List.getElem_cons_zero, List.getElem_cons_succ])
        refine wpAnyH_take (i := 7) (v := ?vb7) rfl (by kernel_rfl) (by kernel_rfl) (by kernel_rfl) (fun _ _ _ h => h) (Or.inl ⟨by rfl, ?hyb7⟩) (by assumption) ?restb7
        case hyb7 => (intro w_ hSw; (try dsimp only at hSw); obtain ⟨d0_, d1_⟩ := hSw; go_simp; (try with_reducible rfl))
        (try simp only [Act.put, List.setIfInBounds_toArray, List.set_cons_zero, List.set_cons_succ, List.getElem_toArray, List.getElem_cons_zero, List.getElem_cons_succ])
        refine wpAnyH_take (i := 8) (v := ?vb8) rfl (by kernel_rfl) (by kernel_rfl) (by kernel_rfl) (fun _ _ _ h => h) (Or.inl ⟨by rfl, ?hyb8⟩) (by assumption) ?restb8
        case hyb8 => (intro w_ hSw; (try dsimp only at hSw); obtain ⟨d0_, d1_⟩ := hSw; go_simp; (try with_reducible rfl))
        (try simp only [Act.put, List.setIfInBounds_toArray, List.set_cons_zero, List.set_cons_succ, List.getElem_toArray, List.getElem_cons_zero, List.getElem_cons_succ])
        refine wpAnyH_take (i := 9) (v := ?vb9) rfl (by kernel_rfl) (by kernel_rfl) (by kernel_rfl) (fun _ _ _ h => h) (Or.inl ⟨by rfl, ?hyb9⟩) (by assumption) ?restb9
        case hyb9 => (intro w_ hSw; (try dsimp only at hSw); obtain ⟨d0_, d1_⟩ := hSw; go_simp; (try with_reducible rfl))
        (try simp only [Act.put, List.setIfInBounds_toArray, List.set_cons_zero, List.set_cons_succ, List.getElem_toArray, List.getElem_cons_zero, List.getElem_cons_succ])
        refine wpAnyH_done (by kernel_rfl) ?_ _
        go_wp2_with fail
        go_ret
        exact ⟨by rw [F.out]; rfl, m + 1 + 1, by rw [HW.out]; rfl⟩
    · have k1 : decide ((k : Int) < (n : Int)) = false := by rw [decide_eq_false_iff_not]; omega
      have F : Hid (decide (cmpL xs ys < 0) = false) := by
        show _ = _
        rw [cmpL_eq (fun j hj => HD.out j (by have := HN.out; omega))]; rfl
      clear hw
      go_wp2_with fail
      go_ret
      exact ⟨by rw [F.out]; rfl, m, HW.out⟩
end Go.Proofs.YtfnlddloalineaaGreatDoor
namespace Go.Proofs.YtfnlddloalineaaGreatDoor
open Go.RowKit
set_option linter.unusedVariables false
set_option linter.unusedSimpArgs false
set_option maxRecDepth 100000
/-- a row of an answer: its list of keys in memory, the keys, the value -/
structure RRow where
  A : Option Addr
  n : Nat
  c : Nat
  ks : List Int
  val : Int
instance : Inhabited RRow := ⟨⟨none, 0, 0, [], 0⟩⟩
def rrowC (r : RRow) : List Value := [.slice r.A r.n r.c, .int .i64 r.val]
def rrowsC (l : List RRow) : List Value := l.flatMap rrowC
theorem rrowsC_app (l : List RRow) (r : RRow) : rrowsC (l ++ [r]) = rrowsC l ++ rrowC r := by
  unfold rrowsC
  rw [List.flatMap_append]; simp
theorem two_one (A : Option Addr) (n c : Nat) (v : Int) : ∀ u ∈ ([.slice A n c, .int .i64 v] : List Value), u.oneCell' = true := by
  intro u hu
  simp only [List.mem_cons, List.not_mem_nil, or_false] at hu
  rcases hu with rfl | rfl <;> rfl
theorem info_rrow : (Tryz.prog.info? 128).map (fun i => (i.zero, i.size, i.bytes)) = some (some (.agg #[.slice none 0 0, .int .i64 0]), 2, 32) := by kernel_rfl
theorem rrows_take {l : List RRow} {k : Nat} (hk : k < l.length) : rrowsC (l.take (k + 1)) = rrowsC (l.take k) ++ rrowC (l.getD k default) := by
  rw [List.take_succ_eq_append_getElem hk, rrowsC_app]
  simp [List.getD, hk]
structure RwS (w : World) (rs : List RRow) (k : Nat) (v : Value) (x : World) : Prop where
  below : Below w.heap.size w x
  row : x.ownsRow w.heap.size 128 2 v k (rrowsC (rs.take k))
theorem RwS.push {w x y w6 : World} {rs : List RRow} {k : Nat} {v v6 : Value} (h : RwS w rs k v x) (hk : k < rs.length) (hxy : Below x.heap.size x y) (hg : y.grownBy w6 v.ownBlock) (hown : w6.ownsRow w.heap.size 128 2 v6 (k + 1) (rrowsC (rs.take k) ++ rrowC (rs.getD k default))) : RwS w rs (k + 1) v6 w6 := by
  have hb := own_base h.row
  have h1 := below_two h.below hxy
  exact ⟨h1.grown hg (by have := h1.size; omega) (fun r e => by have := hb _ e; omega), by rw [rrows_take hk]; exact hown⟩
set_option maxHeartbeats 8000000 in
theorem rows_any (rs : List RRow) (A : Option Addr) (n c B : Nat) (w : World) (h : Reads w B 2 A n (rrowsC rs)) (hB : B ≤ w.heap.size) (hn : n ≤ 1000) (hl : rs.length = n) :
    Calls Tryz.prog 29 #[.slice A n c] w fun e w' => ∃ A' c', e = .returned (.slice A' n c') ∧ w'.ownsRow w.heap.size 128 2 (.slice A' n c') n (rrowsC rs) ∧ Below w.heap.size w w' := by
  obtain ⟨i0, hi0, hz0, hz1, hz2⟩ := info_parts info_rrow
  have HR := Lib.hid h
  have HL := Lib.hid hl
  have HS0 : Hid (RwS w rs 0 (.slice none 0 0) w) := ⟨Below.refl _ _, World.ownsRow_nil _ _ _ _⟩
  clear h hl
  go_enter Tryz.func29, Tryz.ntmps29
  go_wp2_with fail
  go_loopw [3, 8] (fun l i x => ∃ k : Nat, k ≤ n ∧ i = .int .i64 k ∧ RwS w rs k l x) (fun l i _ => n - (intOf i).toNat)
  case atStart => exact ⟨0, by omega, rfl, HS0.out⟩
  case round =>
    clear HS0
    obtain ⟨k, hk, rfl, hs⟩ := hrel
    obtain ⟨Al, cl, rfl⟩ := own_slice hs.row
    have HS := Lib.hid hs
    have hbl := hs.below
    clear hs
    by_cases hlk : k < n
    · have k3 : decide ((k : Int) < (n : Int)) = true := by rw [decide_eq_true_eq]; omega
      have k4 : (k : Int) < (n : Int) := by omega
      obtain ⟨ad, rfl, had, hkl, b0, bj⟩ := (HR.out.lowQ hB (Nat.le_refl _) hbl).row_at rrowC (fun _ => rfl) (by decide) hlk
      have b1 := bj 1 (by decide) (by decide)
      have hadl : ad.block < wr.heap.size := by have := hbl.size; omega
      have HPU : Hid (∀ (v6 : Value) (w6 : World) (o1 o2 : Obj), ((wr.alloc o1).alloc o2).grownBy w6 (Value.slice Al k cl).ownBlock → w6.ownsRow w.heap.size 128 2 v6 (k + 1) (rrowsC (rs.take k) ++ rrowC (rs.getD k default)) → RwS w rs (k + 1) v6 w6) := fun v6 w6 o1 o2 hg ho => HS.out.push hkl (((Below.refl _ _).alloc (Nat.le_refl _) o1).alloc (by rw [World.size_alloc]; omega) o2) hg ho
      clear bj
      generalize rs.getD k default = rr at *
      obtain ⟨rA, rn, rc, rks, rv⟩ := rr
      replace b0 : wr.cell? (ad.add (k * 2)) = some (.slice rA rn rc) := b0
      replace b1 : wr.cell? ⟨(ad.add (k * 2)).block, (ad.add (k * 2)).off + 1, none⟩ = some (.int .i64 rv) := b1
      replace HPU : Hid (∀ (v6 : Value) (w6 : World) (o1 o2 : Obj), ((wr.alloc o1).alloc o2).grownBy w6 (Value.slice Al k cl).ownBlock → w6.ownsRow w.heap.size 128 2 v6 (k + 1) (rrowsC (rs.take k) ++ [.slice rA rn rc, .int .i64 rv]) → RwS w rs (k + 1) v6 w6) := HPU
      have HRO : Hid (Reads ((wr.alloc (.cells (#[.slice rA rn rc, .int .i64 rv] : Array Value) 68)).alloc (.cells (#[.slice rA rn rc, .int .i64 rv] : Array Value) 128)) (wr.heap.size + 1 + 1) 2 (some ⟨wr.heap.size + 1, 0, none⟩) 1 [.slice rA rn rc, .int .i64 rv]) := by
        have := reads_one (wr.alloc (.cells (#[.slice rA rn rc, .int .i64 rv] : Array Value) 68)) #[.slice rA rn rc, .int .i64 rv] 128 2 rfl
        rw [World.size_alloc] at this
        exact this
      go_wp2_with (at_builtin; refine wpList_append_any _ rfl (.tmp 12) (.tmp 14) _ rfl w.heap.size 128 i0 _ 2 32 Tryz.underlying62 hi0 hz0 hz1 hz2 rfl (by omega) _ k (rrowsC (rs.take k)) rfl ((HS.out.row.alloc _).alloc _) (wr.heap.size + 1 + 1) (some ⟨wr.heap.size + 1, 0, none⟩) 1 1 [.slice rA rn rc, .int .i64 rv] rfl HRO.out (two_one _ _ _ _) (by simp only [maxLen]; omega) (by omega) (by simp only [World.size_alloc]; have := hbl.size; omega) ?_; intro v6 w6 hown6 hg6 hat6; have HF6 := Lib.hid (HPU.out _ _ _ _ hg6 hown6); clear hown6 hg6 hat6)
      go_roundw
      case rel => exact ⟨k + 1, by omega, by go_num, HF6.out⟩
      case measure => simp [intOf]; omega
    · have k3 : decide ((k : Int) < (n : Int)) = false := by rw [decide_eq_false_iff_not]; omega
      have HFE : Hid (k = n ∧ rs.take k = rs) := ⟨by omega, List.take_of_length_le (by have := HL.out; omega)⟩
      have HROW := Lib.hid HS.out.row
      rw [HFE.out.2, HFE.out.1] at HROW
      go_wp2_with fail
      go_ret
      exact ⟨Al, cl, by rw [← HFE.out.1]; rfl, HROW.out, HS.out.below⟩
end Go.Proofs.YtfnlddloalineaaGreatDoor
namespace Go.Proofs.YtfnlddloalineaaGreatDoor
open Go.RowKit
set_option linter.unusedVariables false
set_option linter.unusedSimpArgs false
set_option maxRecDepth 100000
/-- a row's keys lie in memory -/
def RowIn (x : World) (B : Nat) (r : RRow) : Prop := RdBy x B r.A r.ks ∧ r.ks.length = r.n ∧ r.n ≤ 1000
set_option maxHeartbeats 8000000 in
theorem srows_yes (rs rs' : List RRow) (A A' : Option Addr) (n c c' B : Nat) (w : World) (hB : B ≤ w.heap.size) (h : Reads w B 2 A n (rrowsC rs)) (h' : Reads w B 2 A' n (rrowsC rs')) (hn : n ≤ 1000) (hl : rs.length = n) (hl' : rs'.length = n) (hi : ∀ k, k < n → RowIn w B (rs.getD k default)) (hi' : ∀ k, k < n → RowIn w B (rs'.getD k default))
    (he : ∀ k, k < n → (rs.getD k default).ks = (rs'.getD k default).ks ∧ (rs.getD k default).val = (rs'.getD k default).val) :
    Calls Tryz.prog 28 #[.slice A n c, .slice A' n c'] w fun e w' => e = .returned (.bool true) ∧ Below w.heap.size w w' := by
  have HR := Lib.hid h
  have HR2 := Lib.hid h'
  have HI := Lib.hid hi
  have HI2 := Lib.hid hi'
  have HE := Lib.hid he
  have q0 : ((n : Int) != (n : Int)) = false := by simp
  clear h h' hi hi' he hl hl'
  go_enter Tryz.func28, Tryz.ntmps28
  go_wp2_with fail
  go_loopw [5] (fun i x => ∃ k : Nat, k ≤ n ∧ i = .int .i64 k ∧ Below w.heap.size w x) (fun i _ => n - (intOf i).toNat)
  case atStart => exact ⟨0, by omega, rfl, Below.refl _ _⟩
  case round =>
    obtain ⟨k, hk, rfl, hbl⟩ := hrel
    by_cases hlk : k < n
    · have k3 : decide ((k : Int) < (n : Int)) = true := by rw [decide_eq_true_eq]; omega
      have k4 : (k : Int) < (n : Int) := by omega
      obtain ⟨ad, rfl, had, _, a0, aj⟩ := (HR.out.lowQ hB (Nat.le_refl _) hbl).row_at rrowC (fun _ => rfl) (by decide) hlk
      obtain ⟨bd, rfl, hbd, _, b0, bj⟩ := (HR2.out.lowQ hB (Nat.le_refl _) hbl).row_at rrowC (fun _ => rfl) (by decide) hlk
      have a1 := aj 1 (by decide) (by decide)
      have b1 := bj 1 (by decide) (by decide)
      obtain ⟨i1, i2, i3⟩ := HI.out k hlk
      obtain ⟨j1, j2, j3⟩ := HI2.out k hlk
      obtain ⟨e1, e2⟩ := HE.out k hlk
      clear aj bj
      generalize rs.getD k default = ra at *
      generalize rs'.getD k default = rb at *
      obtain ⟨aA, an, ac, aks, av⟩ := ra
      obtain ⟨bA, bn, bc, bks, bv⟩ := rb
      simp only [] at e1 e2 i1 i2 i3 j1 j2 j3
      subst e1 e2
      obtain rfl : an = bn := by omega
      replace a0 : wr.cell? (ad.add (k * 2)) = some (.slice aA an ac) := a0
      replace a1 : wr.cell? ⟨(ad.add (k * 2)).block, (ad.add (k * 2)).off + 1, none⟩ = some (.int .i64 av) := a1
      replace b0 : wr.cell? (bd.add (k * 2)) = some (.slice bA an bc) := b0
      replace b1 : wr.cell? ⟨(bd.add (k * 2)).block, (bd.add (k * 2)).off + 1, none⟩ = some (.int .i64 av) := b1
      have HSI : Hid (∀ x, Below w.heap.size w x → Calls Tryz.prog 30 #[.slice aA an ac, .slice bA an bc] x fun e w' => e = .returned (.bool true) ∧ Below x.heap.size x w') := fun x hx => by
        refine (sameI_yes aks aA bA an ac bc B x (i1.low hB (Nat.le_refl _) hx) (j1.low hB (Nat.le_refl _) hx) i2.symm (by omega)).mono ?_
        rintro e w' ⟨h1, m, rfl⟩
        exact ⟨h1, below_drewN (Below.refl _ _) m⟩
      have qv : (av != av) = false := by simp
      clear i1 j1
      go_upto_region 6 with fail
      refine wp_region_held_drew (S := fun w' => Below w.heap.size w w' ∧ w'.cell? (ad.add (k * 2)) = some (.slice aA an ac) ∧ w'.cell? ⟨(ad.add (k * 2)).block, (ad.add (k * 2)).off + 1, none⟩ = some (.int .i64 av) ∧ w'.cell? (bd.add (k * 2)) = some (.slice bA an bc) ∧ w'.cell? ⟨(bd.add (k * 2)).block, (bd.add (k * 2)).off + 1, none⟩ = some (.int .i64 av)) (by kernel_rfl) ⟨hbl.drew, a0, a1, b0, b1⟩ (fun hHeld => ?_)
      refine wpAnyH_take (i := 0) (v := ?vs0) rfl (by kernel_rfl) (by kernel_rfl) (by kernel_rfl) (fun _ _ _ h => h) (Or.inl ⟨by rfl, ?hys0⟩) (by assumption) ?rests0
      case hys0 => (intro w_ hSw; (try dsimp only at hSw); obtain ⟨_, d0_, d1_, d2_, d3_⟩ := hSw; go_simp; (try with_reducible rfl))
      (try simp only [Act.put, List.setIfInBounds_toArray, List.set_cons_zero, List.set_cons_succ, List.getElem_toArray, List.getElem_cons_zero, List.getElem_cons_succ])
      refine wpAnyH_take (i := 1) (v := ?vs1) rfl (by kernel_rfl) (by kernel_rfl) (by kernel_rfl) (fun _ _ _ h => h) (Or.inl ⟨by rfl, ?hys1⟩) (by assumption) ?rests1
      case hys1 => (intro w_ hSw; (try dsimp only at hSw); obtain ⟨_, d0_, d1_, d2_, d3_⟩ := hSw; go_simp; (try with_reducible rfl))
      (try simp only [Act.put, List.setIfInBounds_toArray, List.set_cons_zero, List.set_cons_succ, List.getElem_toArray, List.getElem_cons_zero, List.getElem_cons_succ])
      refine wpAnyH_take (i := 2) (v := ?vs2) rfl (by kernel_rfl) (by kernel_rfl) (by kernel_rfl) (fun _ _ _ h => h) (Or.inl ⟨by rfl, ?hys2⟩) (by assumption) ?rests2
      case hys2 => (intro w_ hSw; (try dsimp only at hSw); obtain ⟨_, d0_, d1_, d2_, d3_⟩ := hSw; go_simp; (try with_reducible rfl))
      (try simp only [Act.put, List.setIfInBounds_toArray, List.set_cons_zero, List.set_cons_succ, List.getElem_toArray, List.getElem_cons_zero, List.getElem_cons_succ])
      refine wpAnyH_take (i := 3) (v := ?vs3) rfl (by kernel_rfl) (by kernel_rfl) (by kernel_rfl) (fun _ _ _ h => h) (Or.inl ⟨by rfl, ?hys3⟩) (by assumption) ?rests3
      case hys3 => (intro w_ hSw; (try dsimp only at hSw); obtain ⟨_, d0_, d1_, d2_, d3_⟩ := hSw; go_simp; (try with_reducible rfl))
      (try simp only [Act.put, List.setIfInBounds_toArray, List.set_cons_zero, List.set_cons_succ, List.getElem_toArray, List.getElem_cons_zero, List.getElem_cons_succ])
      refine wpAnyH_take (i := 4) (v := ?vs4) rfl (by kernel_rfl) (by kernel_rfl) (by kernel_rfl) (fun _ _ _ h => h) (Or.inl ⟨by rfl, ?hys4⟩) (by assumption) ?rests4
      case hys4 => (intro w_ hSw; (try dsimp only at hSw); obtain ⟨_, d0_, d1_, d2_, d3_⟩ := hSw; go_simp; (try with_reducible rfl))
      (try simp only [Act.put, List.setIfInBounds_toArray, List.set_cons_zero, List.set_cons_succ, List.getElem_toArray, List.getElem_cons_zero, List.getElem_cons_succ])
      refine wpAnyH_take (i := 5) (v := ?vs5) rfl (by kernel_rfl) (by kernel_rfl) (by kernel_rfl) (fun _ _ _ h => h) (Or.inl ⟨by rfl, ?hys5⟩) (by assumption) ?rests5
      case hys5 => (intro w_ hSw; (try dsimp only at hSw); obtain ⟨_, d0_, d1_, d2_, d3_⟩ := hSw; go_simp; (try with_reducible rfl))
      (try simp only [Act.put, List.setIfInBounds_toArray, List.set_cons_zero, List.set_cons_succ, List.getElem_toArray, List.getElem_cons_zero, List.getElem_cons_succ])
      refine wpAnyH_take (i := 6) (v := ?vs6) rfl (by kernel_rfl) (by kernel_rfl) (by kernel_rfl) (fun _ _ _ h => h) (Or.inl ⟨by rfl, ?hys6⟩) (by assumption) ?rests6
      case hys6 => (intro w_ hSw; (try dsimp only at hSw); obtain ⟨_, d0_, d1_, d2_, d3_⟩ := hSw; go_simp; (try with_reducible rfl))
      (try simp only [Act.put, List.setIfInBounds_toArray, List.set_cons_zero, List.set_cons_succ, List.getElem_toArray, List.getElem_cons_zero, List.getElem_cons_succ])
      refine wpAnyH_take (i := 7) (v := ?vs7) rfl (by kernel_rfl) (by kernel_rfl) (by kernel_rfl) (fun _ _ _ h => h) (Or.inl ⟨by rfl, ?hys7⟩) (by assumption) ?rests7
      case hys7 => (intro w_ hSw; (try dsimp only at hSw); obtain ⟨_, d0_, d1_, d2_, d3_⟩ := hSw; go_simp; (try with_reducible rfl))
      (try simp only [Act.put, List.setIfInBounds_toArray, List.set_cons_zero, List.set_cons_succ, List.getElem_toArray, List.getElem_cons_zero, List.getElem_cons_succ])
      refine wpAnyH_take (i := 8) (v := ?vs8) rfl (by kernel_rfl) (by kernel_rfl) (by kernel_rfl) (fun _ _ _ h => h) (Or.inl ⟨by rfl, ?hys8⟩) (by assumption) ?rests8
      case hys8 => (intro w_ hSw; (try dsimp only at hSw); obtain ⟨_, d0_, d1_, d2_, d3_⟩ := hSw; go_simp; (try with_reducible rfl))
      (try simp only [Act.put, List.setIfInBounds_toArray, List.set_cons_zero, List.set_cons_succ, List.getElem_toArray, List.getElem_cons_zero, List.getElem_cons_succ])
      refine wpAnyH_take (i := 9) (v := ?vs9) rfl (by kernel_rfl) (by kernel_rfl) (by kernel_rfl) (fun _ _ _ h => h) (Or.inl ⟨by rfl, ?hys9⟩) (by assumption) ?rests9
      case hys9 => (intro w_ hSw; (try dsimp only at hSw); obtain ⟨_, d0_, d1_, d2_, d3_⟩ := hSw; go_simp; (try with_reducible rfl))
      (try simp only [Act.put, List.setIfInBounds_toArray, List.set_cons_zero, List.set_cons_succ, List.getElem_toArray, List.getElem_cons_zero, List.getElem_cons_succ])
      refine wpAnyH_take (i := 10) (v := ?vs10) rfl (by kernel_rfl) (by kernel_rfl) (by kernel_rfl) (fun _ _ _ h => h) (Or.inl ⟨by rfl, ?hys10⟩) (by assumption) ?rests10
      case hys10 => (intro w_ hSw; (try dsimp only at hSw); obtain ⟨_, d0_, d1_, d2_, d3_⟩ := hSw; go_simp; (try with_reducible rfl))
      (try simp only [Act.put, List.setIfInBounds_toArray, List.set_cons_zero, List.set_cons_succ, List.getElem_toArray, List.getElem_cons_zero, List.getElem_cons_succ])
      refine wpAnyH_take (i := 11) (v := ?vs11) rfl (by kernel_rfl) (by kernel_rfl) (by kernel_rfl) (fun _ _ _ h => h) (Or.inl ⟨by rfl, ?hys11⟩) (by assumption) ?rests11
      case hys11 => (intro w_ hSw; (try dsimp only at hSw); obtain ⟨_, d0_, d1_, d2_, d3_⟩ := hSw; go_simp; (try with_reducible rfl))
      (try simp only [Act.put, List.setIfInBounds_toArray, List.set_cons_zero, List.set_cons_succ, List.getElem_toArray, List.getElem_cons_zero, List.getElem_cons_succ])
      refine wpAnyH_take (i := 12) (v := ?vs12) rfl (by kernel_rfl) (by kernel_rfl) (by kernel_rfl) (fun _ _ _ h => h) (Or.inl ⟨by rfl, ?hys12⟩) (by assumption) ?rests12
      case hys12 => (intro w_ hSw; (try dsimp only at hSw); obtain ⟨_, d0_, d1_, d2_, d3_⟩ := hSw; go_simp; (try with_reducible rfl))
      (try simp only [Act.put, List.setIfInBounds_toArray, List.set_cons_zero, List.set_cons_succ, List.getElem_toArray, List.getElem_cons_zero, List.getElem_cons_succ])
      refine wpAnyH_take (i := 13) (v := ?vs13) rfl (by kernel_rfl) (by kernel_rfl) (by kernel_rfl) (fun _ _ _ h => h) (Or.inl ⟨by rfl, ?hys13⟩) (by assumption) ?rests13
      case hys13 => (intro w_ hSw; (try dsimp only at hSw); obtain ⟨_, d0_, d1_, d2_, d3_⟩ := hSw; go_simp; (try with_reducible rfl))
      (try simp only [Act.put, List.setIfInBounds_toArray, List.set_cons_zero, List.set_cons_succ, List.getElem_toArray, List.getElem_cons_zero, List.getElem_cons_succ])
      refine wpAnyH_take (i := 14) (v := ?vs14) rfl (by kernel_rfl) (by kernel_rfl) (by kernel_rfl) (fun _ _ _ h => h) (Or.inl ⟨by rfl, ?hys14⟩) (by assumption) ?rests14
      case hys14 => (intro w_ hSw; (try dsimp only at hSw); obtain ⟨_, d0_, d1_, d2_, d3_⟩ := hSw; go_simp; (try with_reducible rfl))
      (try simp only [Act.put, List.setIfInBounds_toArray, List.set_cons_zero, List.set_cons_succ, List.getElem_toArray, List.getElem_cons_zero, List.getElem_cons_succ])
      refine wpAnyH_take (i := 15) (v := ?vs15) rfl (by kernel_rfl) (by kernel_rfl) (by kernel_rfl) (fun _ _ _ h => h) (Or.inl ⟨by rfl, ?hys15⟩) (by assumption) ?rests15
      case hys15 => (intro w_ hSw; (try dsimp only at hSw); obtain ⟨_, d0_, d1_, d2_, d3_⟩ := hSw; go_simp; (try with_reducible rfl))
      (try simp only [Act.put, List.setIfInBounds_toArray, List.set_cons_zero, List.set_cons_succ, List.getElem_toArray, List.getElem_cons_zero, List.getElem_cons_succ])
      refine wpAnyH_take (i := 16) (v := ?vs16) rfl (by kernel_rfl) (by kernel_rfl) (by kernel_rfl) (fun _ _ _ h => h) (Or.inl ⟨by rfl, ?hys16⟩) (by assumption) ?rests16
      case hys16 => (intro w_ hSw; (try dsimp only at hSw); obtain ⟨_, d0_, d1_, d2_, d3_⟩ := hSw; go_simp; (try with_reducible rfl))
      (try simp only [Act.put, List.setIfInBounds_toArray, List.set_cons_zero, List.set_cons_succ, List.getElem_toArray, List.getElem_cons_zero, List.getElem_cons_succ])
      refine wpAnyH_take (i := 17) (v := ?vs17) rfl (by kernel_rfl) (by kernel_rfl) (by kernel_rfl) (fun _ _ _ h => h) (Or.inl ⟨by rfl, ?hys17⟩) (by assumption) ?rests17
      case hys17 => (intro w_ hSw; (try dsimp only at hSw); obtain ⟨_, d0_, d1_, d2_, d3_⟩ := hSw; go_simp; (try with_reducible rfl))
      (try simp only [Act.put, List.setIfInBounds_toArray, List.set_cons_zero, List.set_cons_succ, List.getElem_toArray, List.getElem_cons_zero, List.getElem_cons_succ])
      refine wpAnyH_take (i := 18) (v := ?vs18) rfl (by kernel_rfl) (by kernel_rfl) (by kernel_rfl) (fun _ _ _ h => h) (Or.inl ⟨by rfl, ?hys18⟩) (by assumption) ?rests18
      case hys18 => (intro w_ hSw; (try dsimp only at hSw); obtain ⟨_, d0_, d1_, d2_, d3_⟩ := hSw; go_simp; (try with_reducible rfl))
      (try simp only [Act.put, List.setIfInBounds_toArray, List.set_cons_zero, List.set_cons_succ, List.getElem_toArray, List.getElem_cons_zero, List.getElem_cons_succ])
      refine wpAnyH_take (i := 19) (v := ?vs19) rfl (by kernel_rfl) (by kernel_rfl) (by kernel_rfl) (fun _ _ _ h => h) (Or.inl ⟨by rfl, ?hys19⟩) (by assumption) ?rests19
      case hys19 => (intro w_ hSw; (try dsimp only at hSw); obtain ⟨_, d0_, d1_, d2_, d3_⟩ := hSw; go_simp; (try with_reducible rfl))
      (try simp only [Act.put, List.setIfInBounds_toArray, List.set_cons_zero, List.set_cons_succ, List.getElem_toArray, List.getElem_cons_zero, List.getElem_cons_succ])
      refine wpAnyH_take (i := 20) (v := ?vs20) rfl (by kernel_rfl) (by kernel_rfl) (by kernel_rfl) (fun _ _ _ h => h) (Or.inl ⟨by rfl, ?hys20⟩) (by assumption) ?rests20
      case hys20 => (intro w_ hSw; (try dsimp only at hSw); obtain ⟨_, d0_, d1_, d2_, d3_⟩ := hSw; go_simp; (try with_reducible rfl))
      (try simp only [Act.put, List.setIfInBounds_toArray, List.set_cons_zero, List.set_cons_succ, List.getElem_toArray, List.getElem_cons_zero, List.getElem_cons_succ])
      refine wpAnyH_take (i := 21) (v := ?vs21) rfl (by kernel_rfl) (by kernel_rfl) (by kernel_rfl) (fun _ _ _ h => h) (Or.inl ⟨by rfl, ?hys21⟩) (by assumption) ?rests21
      case hys21 => (intro w_ hSw; (try dsimp only at hSw); obtain ⟨_, d0_, d1_, d2_, d3_⟩ := hSw; go_simp; (try with_reducible rfl))
      (try simp only [Act.put, List.setIfInBounds_toArray, List.set_cons_zero, List.set_cons_succ, List.getElem_toArray, List.getElem_cons_zero, List.getElem_cons_succ])
      refine wpAnyH_ready (rs := [22]) (by kernel_rfl) (by simp) ?_
      refine AllReadyH.cons rfl (fun K hK => ?_) AllReadyH.nil
      go_simp
      go_wp2_with (go_at_call 30; refine (HSI.out _ hHeld.1).mono ?_; rintro e w3 ⟨rfl, hb3⟩)
      refine hK.out _ _ ?hSs22 (fun hHelds22 => ?_)
      case hSs22 => exact ⟨below_two hHeld.1 hb3, (hb3.cell (World.block_lt_of_cell? _ _ hHeld.2.1)).trans hHeld.2.1, (hb3.cell (World.block_lt_of_cell? _ _ hHeld.2.2.1)).trans hHeld.2.2.1, (hb3.cell (World.block_lt_of_cell? _ _ hHeld.2.2.2.1)).trans hHeld.2.2.2.1, (hb3.cell (World.block_lt_of_cell? _ _ hHeld.2.2.2.2)).trans hHeld.2.2.2.2⟩
      clear hK K
      (try simp only [Act.put, List.setIfInBounds_toArray, List.set_cons_zero, List.set_cons_succ, List.getElem_toArray, List.getElem_cons_zero, List.getElem_cons_succ])
      refine wpAnyH_take (i := 23) (v := ?vs23) rfl (by kernel_rfl) (by kernel_rfl) (by kernel_rfl) (fun _ _ _ h => h) (Or.inl ⟨by rfl, ?hys23⟩) (by assumption) ?rests23
      case hys23 => (intro w_ hSw; (try dsimp only at hSw); obtain ⟨_, d0_, d1_, d2_, d3_⟩ := hSw; go_simp; (try with_reducible rfl))
      (try simp only [Act.put, List.setIfInBounds_toArray, List.set_cons_zero, List.set_cons_succ, List.getElem_toArray, List.getElem_cons_zero, List.getElem_cons_succ])
      refine wpAnyH_take (i := 24) (v := ?vs24) rfl (by kernel_rfl) (by kernel_rfl) (by kernel_rfl) (fun _ _ _ h => h) (Or.inl ⟨by rfl, ?hys24⟩) (by assumption) ?rests24
      case hys24 => (intro w_ hSw; (try dsimp only at hSw); obtain ⟨_, d0_, d1_, d2_, d3_⟩ := hSw; go_simp; (try with_reducible rfl))
      (try simp only [Act.put, List.setIfInBounds_toArray, List.set_cons_zero, List.set_cons_succ, List.getElem_toArray, List.getElem_cons_zero, List.getElem_cons_succ])
      refine wpAnyH_done (by kernel_rfl) ?_ _
      have HBN := Lib.hid hHelds22.1
      clear hHeld hHelds22 hb3 a0 a1 b0 b1
      go_wp2_with fail
      go_roundw
      case rel => exact ⟨k + 1, by omega, by go_num, HBN.out⟩
      case measure => simp [intOf]; omega
    · have k3 : decide ((k : Int) < (n : Int)) = false := by rw [decide_eq_false_iff_not]; omega
      go_wp2_with fail
      go_ret
      exact ⟨rfl, hbl⟩
end Go.Proofs.YtfnlddloalineaaGreatDoor
namespace Go.Proofs.YtfnlddloalineaaGreatDoor
open Go.RowKit
set_option linter.unusedVariables false
set_option linter.unusedSimpArgs false
theorem rrows_cat (a b : List RRow) : rrowsC (a ++ b) = rrowsC a ++ rrowsC b := by
  unfold rrowsC
  rw [List.flatMap_append]
theorem rrows_take2 (l : List RRow) (p : Nat) : rrowsC (l.take p) = (rrowsC l).take (p * 2) := by
  induction l generalizing p with
  | nil => simp [rrowsC]
  | cons r t ih =>
    cases p with
    | zero => rfl
    | succ p =>
      rw [show (p + 1) * 2 = p * 2 + 1 + 1 by omega]
      show (.slice r.A r.n r.c :: .int .i64 r.val :: rrowsC (t.take p) : List Value) = (.slice r.A r.n r.c :: .int .i64 r.val :: rrowsC t : List Value).take (p * 2 + 1 + 1)
      rw [List.take_succ_cons, List.take_succ_cons, ih]
theorem rrows_drop2 (l : List RRow) (p : Nat) : rrowsC (l.drop p) = (rrowsC l).drop (p * 2) := by
  induction l generalizing p with
  | nil => simp [rrowsC]
  | cons r t ih =>
    cases p with
    | zero => rfl
    | succ p =>
      rw [show (p + 1) * 2 = p * 2 + 1 + 1 by omega]
      show rrowsC (t.drop p) = (.slice r.A r.n r.c :: .int .i64 r.val :: rrowsC t : List Value).drop (p * 2 + 1 + 1)
      rw [List.drop_succ_cons, List.drop_succ_cons, ih]
/-- the first rows -/
theorem Reads.head2 {w : World} {B size n : Nat} {A : Option Addr} {xs : List Value} (h : Reads w B size A n xs) {p : Nat} (hp : p ≤ n) : Reads w B size A p (xs.take (p * size)) := by
  have hle : p * size ≤ n * size := Nat.mul_le_mul_right size hp
  refine ⟨by rw [List.length_take, h.1]; omega, fun h0 => ?_⟩
  obtain ⟨ad, e, hb, hc⟩ := h.2 (by omega)
  refine ⟨ad, e, hb, fun j u hu => hc j u ?_⟩
  have hj : j < p * size := by
    have := (List.getElem?_eq_some_iff.1 hu).1
    rw [List.length_take] at this
    omega
  rwa [List.getElem?_take_of_lt hj] at hu
/-- the rows behind them -/
theorem Reads.tail2 {w : World} {B size n g o : Nat} {xs : List Value} (h : Reads w B size (some ⟨g, o, none⟩) n xs) {p : Nat} (hp : p ≤ n) : Reads w B size (some ⟨g, o + p * size, none⟩) (n - p) (xs.drop (p * size)) := by
  refine ⟨by rw [List.length_drop, h.1, Nat.sub_mul], fun h0 => ?_⟩
  obtain ⟨ad, e, hb, hc⟩ := h.2 (by omega)
  have e2 : ad = ⟨g, o, none⟩ := by injection e with e; exact e.symm
  subst e2
  refine ⟨_, rfl, hb, fun j u hu => ?_⟩
  rw [List.getElem?_drop] at hu
  have := hc _ _ hu
  have ea : (⟨g, o + p * size, none⟩ : Addr).add j = (⟨g, o, none⟩ : Addr).add (p * size + j) := by
    unfold Addr.add
    split <;> split <;> simp_all <;> omega
  rw [ea]
  exact this
end Go.Proofs.YtfnlddloalineaaGreatDoor
