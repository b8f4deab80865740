/-
  cell.All: the walk.
-/
import Derived.Test.YtophffmofpmbpaaDoorCel10
namespace Go.Proofs.YtophffmofpmbpaaDoor
open Go.RowKit
set_option linter.unusedVariables false
theorem cell_one (a b c d : Int) : ∀ u ∈ ([.int .i64 a, .int .i64 b, .int .i64 c, .int .i64 d] : List Value), u.oneCell' = true := by
  intro u hu
  simp only [List.mem_cons, List.not_mem_nil, or_false] at hu
  rcases hu with rfl | rfl | rfl | rfl <;> rfl
theorem info_cell : (Tryd.prog.info? 23).map (fun i => (i.zero, i.size, i.bytes)) = some (some (.agg #[.int .i64 0, .int .i64 0, .int .i64 0, .int .i64 0]), 4, 32) := by kernel_rfl
set_option maxRecDepth 100000 in
set_option maxHeartbeats 8000000 in
theorem all_any (s m p : Int) (w : World) : Calls Tryd.prog 27 #[.int .i64 s, .int .i64 m, .int .i64 p] w fun e w' => ∃ v, e = .returned v ∧ w'.ownsRow w.heap.size 23 4 v (allC s m p).length (cellsL (allC s m p)) ∧ Below w.heap.size w w' := by
  obtain ⟨i0, hi0, hz0, hz1, hz2⟩ := info_parts info_cell
  have HKX := Lib.hid (Blk.new w 3 #[.int .i64 m])
  have HB0 := Lib.hid ((Below.refl w.heap.size w).alloc (Nat.le_refl _) (.cells (#[.int .i64 m] : Array Value) 3))
  have HUP : Hid (∀ (u : Bool) (wr : World), Blk wr w.heap.size 3 #[.int .i64 m] → Calls Tryd.prog 41 #[.bool u, .pointer (some ⟨w.heap.size, 0, none⟩)] wr fun e w' => e = .returned (.int .i64 (upI u m)) ∧ wr = w') := fun u wr hk => up_any u m w.heap.size wr (hk.cell 0)
  obtain ⟨NE, hne⟩ : ∃ NE, (upI (uE s) m).toNat = NE := ⟨_, rfl⟩
  obtain ⟨NO, hno⟩ : ∃ NO, (upI (uO s) m).toNat = NO := ⟨_, rfl⟩
  have HC : Hid (allC s m p = allA s p NO NE) := by show _ = _; unfold allC; rw [hne, hno]
  have hbe := upI_bd (uE s) m
  have hbo := upI_bd (uO s) m
  go_enter Tryd.func27, Tryd.ntmps27
  go_wp2_with fail
  refine (uses_any s _).mono ?_
  rintro e w1 ⟨rfl, hb1⟩
  have HB1 := Lib.hid (below_two HB0.out hb1)
  have HK1 := Lib.hid (HKX.out.below hb1 (by simp))
  clear hb1 HB0 HKX
  generalize uE s = A1 at *
  generalize uO s = A2 at *
  generalize uP s = A3 at *
  generalize hue : upI A1 m = UE at *
  generalize huo : upI A2 m = UO at *
  have HUE := Lib.hid hue
  have HUO := Lib.hid huo
  clear hue huo
  go_wp2_with fail
  go_loopw [11, 12] (fun v i wr => ∃ e : Nat, e ≤ NE ∧ i = .int .i64 e ∧ wr.ownsRow (w.heap.size + 1) 23 4 v (allA s p NO e).length (cellsL (allA s p NO e)) ∧ Blk wr w.heap.size 3 #[.int .i64 m] ∧ Below w.heap.size w wr) (fun _ i _ => NE - (intOf i).toNat)
  case atStart => exact ⟨0, Nat.zero_le _, rfl, World.ownsRow_nil _ _ _ _, HK1.out, HB1.out⟩
  case round =>
    obtain ⟨e, he, rfl, hown, hk, hbr⟩ := hrel
    have HO := Lib.hid hown
    have HK := Lib.hid hk
    have HBR := Lib.hid hbr
    clear hown hk hbr
    by_cases hlt : e < NE
    · have k3 : decide ((e : Int) < UE) = true := by rw [decide_eq_true_eq]; omega
      go_wp2_with fail
      refine (HUP.out A1 _ HK.out).mono ?_
      rintro e' wx ⟨rfl, rfl⟩
      rw [HUE.out]
      have hrm := allA_room s p (q := NO) (n := e) (by omega) (by omega)
      have HRM := Lib.hid hrm
      clear hrm
      go_wp2_with fail
      go_loopw [11, 13] (fun v i wr => ∃ o : Nat, o ≤ NO ∧ i = .int .i64 o ∧ wr.ownsRow (w.heap.size + 1) 23 4 v (allA s p NO e ++ rowA s p e o).length (cellsL (allA s p NO e ++ rowA s p e o)) ∧ Blk wr w.heap.size 3 #[.int .i64 m] ∧ Below w.heap.size w wr) (fun _ i _ => NO - (intOf i).toNat)
      case atStart => exact ⟨0, Nat.zero_le _, rfl, by rw [show rowA s p e 0 = [] from rfl, List.append_nil]; exact HO.out, HK.out, HBR.out⟩
      case round =>
        clear HO HK HBR k3
        obtain ⟨o, ho, rfl, hown, hk, hbr⟩ := hrel
        have HO := Lib.hid hown
        have HK := Lib.hid hk
        have HBR := Lib.hid hbr
        have hro := rowA_len s p e o
        have hal : (allA s p NO e ++ rowA s p e o).length ≤ 160 := by rw [List.length_append]; have := HRM.out; omega
        clear hown hk hbr hro
        by_cases hlo : o < NO
        · have k3 : decide ((o : Int) < UO) = true := by rw [decide_eq_true_eq]; omega
          have HY : Hid (validC (ofC s e o p) = true → allA s p NO e ++ rowA s p e (o + 1) = (allA s p NO e ++ rowA s p e o) ++ [ofC s e o p]) := fun h => by rw [rowA_yes h, List.append_assoc]
          have HN : Hid (validC (ofC s e o p) = false → allA s p NO e ++ rowA s p e (o + 1) = allA s p NO e ++ rowA s p e o) := fun h => by rw [rowA_no h]
          generalize hacc : allA s p NO e ++ rowA s p e o = acc at *
          generalize hacd : allA s p NO e ++ rowA s p e (o + 1) = acd at *
          clear hacc
          have HACD := Lib.hid hacd
          clear hacd
          go_wp2_with fail
          refine (HUP.out A2 _ HK.out).mono ?_
          rintro e' wx ⟨rfl, rfl⟩
          rw [HUO.out]
          go_wp2_with fail
          refine (of_any s e o p _).mono ?_
          rintro e' w5 ⟨rfl, hb5⟩
          generalize ofC s e o p = cc at *
          obtain ⟨st, en, ot, pe⟩ := cc
          unfold cellV
          simp only []
          have HB5 := Lib.hid (below_two HBR.out hb5)
          have HO5 := Lib.hid (own_below HO.out hb5)
          have HK5 := Lib.hid (HK.out.below hb5 HK.out.lt)
          clear HO HK HBR hb5
          have HKC := Lib.hid (Blk.new w5 23 #[.int .i64 st, .int .i64 en, .int .i64 ot, .int .i64 pe])
          have HB6 := Lib.hid (HB5.out.alloc HB5.out.size (.cells (#[.int .i64 st, .int .i64 en, .int .i64 ot, .int .i64 pe] : Array Value) 23))
          have HO6 := Lib.hid (HO5.out.alloc (.cells (#[.int .i64 st, .int .i64 en, .int .i64 ot, .int .i64 pe] : Array Value) 23))
          have HK6 := Lib.hid (HK5.out.alloc (.cells (#[.int .i64 st, .int .i64 en, .int .i64 ot, .int .i64 pe] : Array Value) 23))
          have HVA : Hid (∀ w, Calls Tryd.prog 10 #[.agg #[.int .i64 st, .int .i64 en, .int .i64 ot, .int .i64 pe]] w fun e w' => e = .returned (.bool (validC ⟨st, en, ot, pe⟩)) ∧ Below w.heap.size w w') := fun w => valid_any ⟨st, en, ot, pe⟩ w
          go_wp2_with fail
          refine (HVA.out _).mono ?_
          rintro e' w7 ⟨rfl, hb7⟩
          have HB7 := Lib.hid (below_two HB6.out hb7)
          have HO7 := Lib.hid (own_below HO6.out hb7)
          have HK7 := Lib.hid (HK6.out.below hb7 HK6.out.lt)
          obtain ⟨y0, y1, y2, y3⟩ := st_blk (HKC.out.below hb7 (by simp))
          clear hb7 HB5 HO5 HK5 HKC HB6 HO6 HK6
          cases hv : validC ⟨st, en, ot, pe⟩
          · have F := Lib.hid (HN.out hv)
            clear hv
            go_wp2_with fail
            go_round
            case rel => exact ⟨o + 1, by omega, by go_num, by rw [HACD.out, F.out]; exact HO7.out, HK7.out, HB7.out⟩
            case measure => simp [intOf]; omega
          · have F := Lib.hid (HY.out hv)
            clear hv
            go_wp2_with (at_builtin; refine wpList_append_any _ rfl (.tmp 43) (.tmp 45) _ rfl (w.heap.size + 1) 23 i0 _ 4 32 Tryd.underlying43 hi0 hz0 hz1 hz2 rfl (by omega) _ acc.length (cellsL acc) rfl (HO7.out.alloc _) (w7.heap.size + 1) (some ⟨w7.heap.size, 0, none⟩) 1 1 [.int .i64 st, .int .i64 en, .int .i64 ot, .int .i64 pe] rfl (reads_one w7 #[.int .i64 st, .int .i64 en, .int .i64 ot, .int .i64 pe] 23 4 rfl) (cell_one _ _ _ _) (by simp only [maxLen]; omega) (by omega) (by simp only [World.size_alloc]; have := HB7.out.size; omega) ?_; intro v4 w4 hown4 hg4 hat4)
            have HK8 := Lib.hid (HK7.out.alloc (.cells (#[.int .i64 st, .int .i64 en, .int .i64 ot, .int .i64 pe] : Array Value) 23))
            go_wp2_with fail
            go_round
            case rel =>
              refine ⟨o + 1, by omega, by go_num, by rw [HACD.out, F.out, List.length_append, cellsL_app]; exact hown4, HK8.out.grown hg4 (fun h => own_blk_ne HO7.out HK7.out (by decide) h.symm), ?_⟩
              exact (HB7.out.alloc HB7.out.size _).grown hg4 (by simp only [World.size_alloc]; have := HB7.out.size; omega) (fun k hk => by have := own_base HO7.out k hk; omega)
            case measure => simp [intOf]; omega
        · have k3 : decide ((o : Int) < UO) = false := by rw [decide_eq_false_iff_not]; omega
          have hon : o = NO := by omega
          subst hon
          clear hal
          go_wp2_with fail
          refine (HUP.out A2 _ HK.out).mono ?_
          rintro e' wx ⟨rfl, rfl⟩
          rw [HUO.out]
          go_wp2_with fail
          go_round
          case rel => exact ⟨e + 1, by omega, by go_num, by rw [allA_step]; exact HO.out, HK.out, HBR.out⟩
          case measure => simp [intOf]; omega
    · have k3 : decide ((e : Int) < UE) = false := by rw [decide_eq_false_iff_not]; omega
      have hen : e = NE := by omega
      subst hen
      go_wp2_with fail
      refine (HUP.out A1 _ HK.out).mono ?_
      rintro e' wx ⟨rfl, rfl⟩
      rw [HUE.out]
      go_wp2_with fail
      go_ret
      exact ⟨_, rfl, by rw [HC.out]; exact own_mono HO.out (by omega), HBR.out⟩
end Go.Proofs.YtophffmofpmbpaaDoor
