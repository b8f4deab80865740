/-
  Find of both: the first account with a code.
-/
import Derived.Test.YtcmmppkmkejniaaGreatDoorGvMem
namespace Go.Proofs.YtcmmppkmkejniaaGreatDoor
open Go.RowKit
set_option linter.unusedVariables false
/-- what Find returns -/
def findV (l : List SAcc) (c : Int) : Value := match findA l c with
  | some a => .tuple #[.agg #[.int .i64 a.code, .int .i64 a.kind, .int .i64 a.basis, .int .i64 a.parent], .bool true]
  | none => .tuple #[.agg #[.int .i64 0, .int .i64 0, .int .i64 0, .int .i64 0], .bool false]
theorem findV_yes {l : List SAcc} {c : Int} {a : SAcc} (h : findA l c = some a) : findV l c = .tuple #[.agg #[.int .i64 a.code, .int .i64 a.kind, .int .i64 a.basis, .int .i64 a.parent], .bool true] := by unfold findV; rw [h]
theorem findV_no {l : List SAcc} {c : Int} (h : findA l c = none) : findV l c = .tuple #[.agg #[.int .i64 0, .int .i64 0, .int .i64 0, .int .i64 0], .bool false] := by unfold findV; rw [h]
theorem set4 {w : World} {g : Nat} {T : TypeId} {a b c d a' b' c' d' : Value} (h : Blk w g T #[a, b, c, d]) : Blk ((((w.setCell ⟨g, 0, none⟩ a').setCell ⟨g, 1, none⟩ b').setCell ⟨g, 2, none⟩ c').setCell ⟨g, 3, none⟩ d') g T #[a', b', c', d'] := by
  have := (((h.set_ 0 a').set_ 1 b').set_ 2 c').set_ 3 d'
  simpa using this
theorem set4_below {w w0 : World} {B g : Nat} {a b c d : Value} (h : Below B w0 w) (hB : B ≤ g) : Below B w0 ((((w.setCell ⟨g, 0, none⟩ a).setCell ⟨g, 1, none⟩ b).setCell ⟨g, 2, none⟩ c).setCell ⟨g, 3, none⟩ d) :=
  (((h.setCell (p := ⟨g, 0, none⟩) hB a).setCell (p := ⟨g, 1, none⟩) hB b).setCell (p := ⟨g, 2, none⟩) hB c).setCell (p := ⟨g, 3, none⟩) hB d
theorem findA_end {l : List SAcc} {c : Int} {n : Nat} (h : (l.take n).find? (fun a => a.code == c) = none) (hl : l.length ≤ n) : findA l c = none := by
  rw [List.take_of_length_le hl] at h; exact h
set_option maxRecDepth 100000 in
set_option maxHeartbeats 4000000 in
theorem find_any (l : List SAcc) (A : Option Addr) (n c : Nat) (code : Int) (B : Nat) (w : World) (hr : Reads w B 4 A n (accsC l)) (hB : B ≤ w.heap.size) (hn : n ≤ 9223372036854775807) :
    Calls Tryz.prog 86 #[.slice A n c, .int .i64 code] w fun e w' => e = .returned (findV l code) ∧ Below w.heap.size w w' := by
  have HL := Lib.hid (accs_len hr)
  have HR := Lib.hid hr
  have hb0 := (Below.refl w.heap.size w).alloc (Nat.le_refl _) (.cells #[.int .i64 0, .int .i64 0, .int .i64 0, .int .i64 0] 42)
  have HB0 := Lib.hid hb0
  have HK0 := Lib.hid (Blk.new w 42 #[.int .i64 0, .int .i64 0, .int .i64 0, .int .i64 0])
  clear hr hb0
  go_enter Tryz.func86, Tryz.ntmps86
  go_wp2_with fail
  go_loopw [10] (fun i wr => ∃ k : Nat, k ≤ n ∧ i = .int .i64 k ∧ (l.take k).find? (fun a => a.code == code) = none ∧ Below w.heap.size w wr ∧ Blk wr w.heap.size 42 #[.int .i64 0, .int .i64 0, .int .i64 0, .int .i64 0]) (fun i _ => n - (intOf i).toNat)
  case atStart => exact ⟨0, by omega, rfl, rfl, HB0.out, HK0.out⟩
  case round =>
    obtain ⟨k, hk, rfl, hd, hbr, hkr⟩ := hrel
    obtain ⟨wo, rfl⟩ : ∃ wo : World, wo = wr := ⟨_, rfl⟩
    have hlt0 := hkr.lt
    have hfz := hkr.frozen
    obtain ⟨y0, y1, y2, y3⟩ := acc_blk hkr
    have HK := Lib.hid hkr
    have HD := Lib.hid hd
    clear hd hkr
    by_cases hlt : k < n
    · have k3 : decide ((k : Int) < (n : Int)) = true := by rw [decide_eq_true_eq]; omega
      obtain ⟨ad, rfl, hbk, c0, c1, c2, c3⟩ := (HR.out.lowg hB (Nat.le_refl _) hbr).acc_at hlt
      have HY : Hid (((l.getD k default).code == code) = true → findA l code = some (l.getD k default)) := fun h => findA_take HD.out (by rw [HL.out]; exact hlt) rfl h
      have HN : Hid (((l.getD k default).code == code) = false → (l.take (k + 1)).find? (fun a => a.code == code) = none) := fun h => find_step HD.out (by rw [HL.out]; exact hlt) h
      have hs1 : w.heap.size ≤ wo.heap.size := hbr.size
      generalize l.getD k default = x at *
      obtain ⟨x0, x1, x2, x3⟩ := x
      simp only [] at c0 c1 c2 c3 HY HN
      cases hc : x0 == code
      · have F := Lib.hid (HN.out hc)
        have HC := Lib.hid hc
        clear HY HN HD
        go_wp2_with fail
        exact ⟨⟨k + 1, by omega, by go_num, F.out, hbr.alloc hs1 _, HK.out.alloc _⟩, by simp [intOf]; omega⟩
      · have F := Lib.hid (findV_yes (HY.out hc))
        clear HY HN HD
        go_wp2_with fail
        have hbz := (set4_below (a := .int .i64 x0) (b := .int .i64 x1) (c := .int .i64 x2) (d := .int .i64 x3) hbr (Nat.le_refl _)).alloc (by simpa using hs1) (.cells #[.int .i64 x0, .int .i64 x1, .int .i64 x2, .int .i64 x3] 42)
        have hbk2 := (set4 (a' := .int .i64 x0) (b' := .int .i64 x1) (c' := .int .i64 x2) (d' := .int .i64 x3) HK.out).alloc (.cells #[.int .i64 x0, .int .i64 x1, .int .i64 x2, .int .i64 x3] 42)
        generalize World.alloc _ _ = wz at *
        obtain ⟨z0, z1, z2, z3⟩ := acc_blk hbk2
        refine bodyPost_ret (v := .tuple #[.agg #[.int .i64 x0, .int .i64 x1, .int .i64 x2, .int .i64 x3], .bool true]) ?_ rfl ⟨by rw [F.out], hbz⟩
        simp [results, Tryz.results86, go_sem, z0, z1, z2, z3]
    · have k3 : decide ((k : Int) < (n : Int)) = false := by rw [decide_eq_false_iff_not]; omega
      have F := Lib.hid (findV_no (findA_end HD.out (by rw [HL.out]; omega)))
      clear HD
      go_wp2_with fail
      have hbz := set4_below (a := .int .i64 0) (b := .int .i64 0) (c := .int .i64 0) (d := .int .i64 0) hbr (Nat.le_refl _)
      have hbk2 := set4 (a' := .int .i64 0) (b' := .int .i64 0) (c' := .int .i64 0) (d' := .int .i64 0) HK.out
      generalize World.setCell _ ⟨w.heap.size, 3, none⟩ _ = wz at *
      obtain ⟨z0, z1, z2, z3⟩ := acc_blk hbk2
      refine bodyPost_ret (v := .tuple #[.agg #[.int .i64 0, .int .i64 0, .int .i64 0, .int .i64 0], .bool false]) ?_ rfl ⟨by rw [F.out], hbz⟩
      simp [results, Tryz.results86, go_sem, z0, z1, z2, z3]
set_option maxRecDepth 100000 in
set_option maxHeartbeats 4000000 in
theorem rfind_any (l : List SAcc) (A : Option Addr) (n c : Nat) (code : Int) (B : Nat) (w : World) (hr : Reads w B 4 A n (accsC l)) (hB : B ≤ w.heap.size) (hn : n ≤ 9223372036854775807) :
    Calls Tryz.prog 16 #[.slice A n c, .int .i64 code] w fun e w' => e = .returned (findV l code) ∧ Below w.heap.size w w' := by
  have HL := Lib.hid (accs_len hr)
  have HR := Lib.hid hr
  have hb0 := (Below.refl w.heap.size w).alloc (Nat.le_refl _) (.cells #[.int .i64 0, .int .i64 0, .int .i64 0, .int .i64 0] 42)
  have HB0 := Lib.hid hb0
  have HK0 := Lib.hid (Blk.new w 42 #[.int .i64 0, .int .i64 0, .int .i64 0, .int .i64 0])
  clear hr hb0
  go_enter Tryz.func16, Tryz.ntmps16
  go_wp2_with fail
  go_loopw [6] (fun i wr => ∃ k : Nat, k ≤ n ∧ i = .int .i64 k ∧ (l.take k).find? (fun a => a.code == code) = none ∧ Below w.heap.size w wr ∧ Blk wr w.heap.size 42 #[.int .i64 0, .int .i64 0, .int .i64 0, .int .i64 0]) (fun i _ => n - (intOf i).toNat)
  case atStart => exact ⟨0, by omega, rfl, rfl, HB0.out, HK0.out⟩
  case round =>
    obtain ⟨k, hk, rfl, hd, hbr, hkr⟩ := hrel
    obtain ⟨wo, rfl⟩ : ∃ wo : World, wo = wr := ⟨_, rfl⟩
    have hlt0 := hkr.lt
    have hfz := hkr.frozen
    obtain ⟨y0, y1, y2, y3⟩ := acc_blk hkr
    have HK := Lib.hid hkr
    have HD := Lib.hid hd
    clear hd hkr
    by_cases hlt : k < n
    · have k3 : decide ((k : Int) < (n : Int)) = true := by rw [decide_eq_true_eq]; omega
      obtain ⟨ad, rfl, hbk, c0, c1, c2, c3⟩ := (HR.out.lowg hB (Nat.le_refl _) hbr).acc_at hlt
      have HY : Hid (((l.getD k default).code == code) = true → findA l code = some (l.getD k default)) := fun h => findA_take HD.out (by rw [HL.out]; exact hlt) rfl h
      have HN : Hid (((l.getD k default).code == code) = false → (l.take (k + 1)).find? (fun a => a.code == code) = none) := fun h => find_step HD.out (by rw [HL.out]; exact hlt) h
      have hs1 : w.heap.size ≤ wo.heap.size := hbr.size
      generalize l.getD k default = x at *
      obtain ⟨x0, x1, x2, x3⟩ := x
      simp only [] at c0 c1 c2 c3 HY HN
      cases hc : x0 == code
      · have F := Lib.hid (HN.out hc)
        have HC := Lib.hid hc
        clear HY HN HD
        go_wp2_with fail
        exact ⟨⟨k + 1, by omega, by go_num, F.out, hbr, HK.out⟩, by simp [intOf]; omega⟩
      · have F := Lib.hid (findV_yes (HY.out hc))
        clear HY HN HD
        go_wp2_with fail
        have hbz := set4_below (a := .int .i64 x0) (b := .int .i64 x1) (c := .int .i64 x2) (d := .int .i64 x3) hbr (Nat.le_refl _)
        have hbk2 := set4 (a' := .int .i64 x0) (b' := .int .i64 x1) (c' := .int .i64 x2) (d' := .int .i64 x3) HK.out
        generalize World.setCell _ ⟨w.heap.size, 3, none⟩ _ = wz at *
        obtain ⟨z0, z1, z2, z3⟩ := acc_blk hbk2
        refine bodyPost_ret (v := .tuple #[.agg #[.int .i64 x0, .int .i64 x1, .int .i64 x2, .int .i64 x3], .bool true]) ?_ rfl ⟨by rw [F.out], hbz⟩
        simp [results, Tryz.results16, go_sem, z0, z1, z2, z3]
    · have k3 : decide ((k : Int) < (n : Int)) = false := by rw [decide_eq_false_iff_not]; omega
      have F := Lib.hid (findV_no (findA_end HD.out (by rw [HL.out]; omega)))
      clear HD
      go_wp2_with fail
      have hbz := set4_below (a := .int .i64 0) (b := .int .i64 0) (c := .int .i64 0) (d := .int .i64 0) hbr (Nat.le_refl _)
      have hbk2 := set4 (a' := .int .i64 0) (b' := .int .i64 0) (c' := .int .i64 0) (d' := .int .i64 0) HK.out
      generalize World.setCell _ ⟨w.heap.size, 3, none⟩ _ = wz at *
      obtain ⟨z0, z1, z2, z3⟩ := acc_blk hbk2
      refine bodyPost_ret (v := .tuple #[.agg #[.int .i64 0, .int .i64 0, .int .i64 0, .int .i64 0], .bool false]) ?_ rfl ⟨by rw [F.out], hbz⟩
      simp [results, Tryz.results16, go_sem, z0, z1, z2, z3]
end Go.Proofs.YtcmmppkmkejniaaGreatDoor
