/-
  Name, Stage, Uses, in, Input of the program.
-/
import Derived.Test.YtophffmofpmbpaaDoorCel1
import Derived.Test.YtophffmofpmbpaaDoorCelPl2
import Derived.Test.YtophffmofpmbpaaDoorStr
namespace Go.Proofs.YtophffmofpmbpaaDoor
open Go.RowKit
set_option linter.unusedVariables false
theorem run_index_all (k : Nat) (h : k ≤ 22) (w : World) : (Instr.index 57 (.agg stArr) (.int .i64 (k : Int))).run Tryd.prog w = .ok (.agg #[.string ⟨(nmL.getD k []).toArray⟩, .bool (eL.getD k false), .bool (oL.getD k false), .bool (pL.getD k false)]) w := by
  cases k with
  | zero => exact run_index_st0 w
  | succ k => exact run_index_st (k + 1) (by omega) h w
theorem run_field_nm (N : ByteArray) (x y z : Bool) (w : World) : (Instr.field 56 (.agg #[.string N, .bool x, .bool y, .bool z]) 0).run Tryd.prog w = .ok (.string N) w := by kernel_rfl
theorem bool3 {a b c a' b' c' : Bool} (h : a = a') (h' : b = b') (h'' : c = c') : Ending.returned (.tuple #[.bool a, .bool b, .bool c]) = .returned (.tuple #[.bool a', .bool b', .bool c']) := by rw [h, h', h'']
theorem st_blk {w : World} {g : Nat} {T : TypeId} {a b c d : Value} (h : Blk w g T #[a, b, c, d]) : w.cell? ⟨g, 0, none⟩ = some a ∧ w.cell? ⟨g, 1, none⟩ = some b ∧ w.cell? ⟨g, 2, none⟩ = some c ∧ w.cell? ⟨g, 3, none⟩ = some d :=
  ⟨h.cell 0, h.cell 1, h.cell 2, h.cell 3⟩
set_option maxRecDepth 100000 in
set_option maxHeartbeats 2000000 in
theorem name_any (s : Int) (w : World) : Calls Tryd.prog 22 #[.int .i64 s] w fun e w' => e = .returned (.string ⟨(nmS s).toArray⟩) ∧ Below w.heap.size w w' := by
  cases h : known s
  · have F := Lib.hid (uses_no h).2.2.2
    have HK := Lib.hid h
    clear h
    go_enter Tryd.func22, Tryd.ntmps22
    go_wp2_with fail
    refine (known_any s _).mono ?_
    rintro e wx ⟨rfl, rfl⟩
    rw [HK.out]
    go_wp2_with fail
    go_ret
    exact ⟨ret_str F.out.symm, Below.refl _ _⟩
  · obtain ⟨k, rfl, h1, h2, _, _, _, e⟩ := uses_flags h
    have F := Lib.hid e
    have HK := Lib.hid h
    have hi := run_index_all k h2
    clear h e
    generalize nmL.getD k [] = N at *
    generalize eL.getD k false = A1 at *
    generalize oL.getD k false = A2 at *
    generalize pL.getD k false = A3 at *
    have hfn := run_field_nm ⟨N.toArray⟩ A1 A2 A3
    go_enter Tryd.func22, Tryd.ntmps22
    go_wp2_with fail
    refine (known_any k _).mono ?_
    rintro e wx ⟨rfl, rfl⟩
    rw [HK.out]
    go_wp2_with fail
    refine (stages_any _).mono ?_
    rintro e w1 ⟨rfl, hb⟩
    go_wp2_with fail
    go_ret
    exact ⟨ret_str F.out.symm, hb⟩
set_option maxRecDepth 100000 in
set_option maxHeartbeats 2000000 in
theorem uses_any (s : Int) (w : World) : Calls Tryd.prog 18 #[.int .i64 s] w fun e w' => e = .returned (.tuple #[.bool (uE s), .bool (uO s), .bool (uP s)]) ∧ Below w.heap.size w w' := by
  cases h : known s
  · have F := Lib.hid (uses_no h)
    have HK := Lib.hid h
    clear h
    go_enter Tryd.func18, Tryd.ntmps18
    go_wp2_with fail
    refine (known_any s _).mono ?_
    rintro e wx ⟨rfl, rfl⟩
    rw [HK.out]
    go_wp2_with fail
    go_ret3
    exact ⟨bool3 F.out.1.symm F.out.2.1.symm F.out.2.2.1.symm, Below.refl _ _⟩
  · obtain ⟨k, rfl, h1, h2, e1, e2, e3, _⟩ := uses_flags h
    have F1 := Lib.hid e1
    have F2 := Lib.hid e2
    have F3 := Lib.hid e3
    have HK := Lib.hid h
    have hi := run_index_all k h2
    clear h e1 e2 e3
    generalize nmL.getD k [] = N at *
    generalize eL.getD k false = A1 at *
    generalize oL.getD k false = A2 at *
    generalize pL.getD k false = A3 at *
    go_enter Tryd.func18, Tryd.ntmps18
    go_wp2_with fail
    refine (known_any k _).mono ?_
    rintro e wx ⟨rfl, rfl⟩
    rw [HK.out]
    go_wp2_with fail
    refine (stages_any _).mono ?_
    rintro e w1 ⟨rfl, hb⟩
    obtain ⟨y0, y1, y2, y3⟩ := st_blk (Blk.new w1 56 #[.string ⟨N.toArray⟩, .bool A1, .bool A2, .bool A3])
    have hb1 := hb.alloc hb.size (.cells #[.string ⟨N.toArray⟩, .bool A1, .bool A2, .bool A3] 56)
    have HB1 := Lib.hid hb1
    clear hb1
    go_wp2_with fail
    go_quiet (fail)
    go_wp2_with fail
    go_ret3
    exact ⟨bool3 F1.out.symm F2.out.symm F3.out.symm, below_drewN HB1.out nq⟩
def StSays (l : List UInt8) (w : World) (e : Ending) (w' : World) : Prop := e = .returned (.tuple #[.int .i64 (stOf l), .bool (decide (1 ≤ stOf l))]) ∧ Below w.heap.size w w'
theorem st_says {l : List UInt8} {k : Nat} {b : Bool} {w w' : World} (h : stOf l = k) (hb : decide (1 ≤ k) = b) (hw : Below w.heap.size w w') : StSays l w (.returned (.tuple #[.int .i64 k, .bool b])) w' :=
  ⟨by rw [h, hb], hw⟩
theorem st_says0 {l : List UInt8} {w w' : World} (h : stOf l = 0) (hw : Below w.heap.size w w') : StSays l w (.returned (.tuple #[.int .i64 0, .bool false])) w' :=
  ⟨by rw [h]; rfl, hw⟩
set_option maxRecDepth 100000 in
set_option maxHeartbeats 4000000 in
theorem stage_any (l : List UInt8) (w : World) : Calls Tryd.prog 20 #[.string ⟨l.toArray⟩] w (StSays l w) := by
  go_enter Tryd.func20, Tryd.ntmps20
  go_wp2_with fail
  refine (stages_any _).mono ?_
  rintro e w1 ⟨rfl, hb⟩
  have HB1 := Lib.hid hb
  clear hb
  go_wp2_with fail
  go_loopw [7] (fun i wr => ∃ k : Nat, k ≤ 23 ∧ i = .int .i64 k ∧ (∀ j, 1 ≤ j → j < k → nmL.getD j [] ≠ l) ∧ Below w.heap.size w wr) (fun i _ => 23 - (intOf i).toNat)
  case atStart => exact ⟨0, by omega, rfl, fun j h1 h2 => by omega, HB1.out⟩
  case round =>
    obtain ⟨k, hk, rfl, hd, hbr⟩ := hrel
    obtain ⟨wo, rfl⟩ : ∃ wo : World, wo = wr := ⟨_, rfl⟩
    have HD := Lib.hid hd
    clear hd
    by_cases hlt : k < 23
    · have k3 : decide ((k : Int) < 23) = true := by rw [decide_eq_true_eq]; omega
      have hi := run_index_all k (by omega)
      have HYE : Hid (nmL.getD k [] = l → 1 ≤ k → stOf l = k) := fun h h1 => stOf_at h1 (by omega) h
      have HNE : Hid ((nmL.getD k [] ≠ l ∨ k < 1) → ∀ j, 1 ≤ j → j < k + 1 → nmL.getD j [] ≠ l) := by
        show _ → _
        intro h j j1 j2
        by_cases hj : j = k
        · subst hj
          rcases h with h | h
          · exact h
          · omega
        · exact HD.out j j1 (by omega)
      generalize nmL.getD k [] = N at *
      generalize eL.getD k false = A1 at *
      generalize oL.getD k false = A2 at *
      generalize pL.getD k false = A3 at *
      obtain ⟨y0, y1, y2, y3⟩ := st_blk (Blk.new wo 56 #[.string ⟨N.toArray⟩, .bool A1, .bool A2, .bool A3])
      have HBA := Lib.hid (hbr.alloc hbr.size (.cells #[.string ⟨N.toArray⟩, .bool A1, .bool A2, .bool A3] 56))
      cases hkn : known (k : Int)
      · have F := Lib.hid (HNE.out (.inr (by have := known_no.1 hkn; omega)))
        have HK := Lib.hid hkn
        clear hkn HYE HNE
        go_wp2_with fail
        refine (known_any k _).mono ?_
        rintro e wx ⟨rfl, rfl⟩
        rw [HK.out]
        go_wp2_with fail
        go_roundw
        case rel => exact ⟨k + 1, by omega, by go_num, F.out, HBA.out⟩
        case measure => simp [intOf]; omega
      · have hk1 : 1 ≤ k := by have := known_iff.1 hkn; omega
        have HK := Lib.hid hkn
        clear hkn
        by_cases hN : N = l
        · have F := Lib.hid (HYE.out hN hk1)
          subst hN
          have q1 : (N == N) = true := by simp
          clear HYE HNE
          go_wp2_with fail
          refine (known_any k _).mono ?_
          rintro e wx ⟨rfl, rfl⟩
          rw [HK.out]
          go_wp2_with fail
          go_ret2
          exact st_says F.out (by rw [decide_eq_true_eq]; exact hk1) HBA.out
        · have F := Lib.hid (HNE.out (.inl hN))
          have q1 : (N == l) = false := by rw [beq_eq_false_iff_ne]; exact hN
          clear HYE HNE
          go_wp2_with fail
          refine (known_any k _).mono ?_
          rintro e wx ⟨rfl, rfl⟩
          rw [HK.out]
          go_wp2_with fail
          go_roundw
          case rel => exact ⟨k + 1, by omega, by go_num, F.out, HBA.out⟩
          case measure => simp [intOf]; omega
    · have k3 : decide ((k : Int) < 23) = false := by rw [decide_eq_false_iff_not]; omega
      have F := Lib.hid (stOf_no (l := l) (fun j j1 j2 => HD.out j j1 (by omega)))
      go_wp2_with fail
      go_ret2
      exact st_says0 F.out hbr
theorem in_any (u : Bool) (n m : Int) (w : World) : Calls Tryd.prog 31 #[.bool u, .int .i64 n, .int .i64 m] w fun e w' => e = .returned (.bool (inB u n m)) ∧ w = w' := by
  cases u
  · go_enter Tryd.func31, Tryd.ntmps31
    go_wp2_with fail
    go_ret
    exact ⟨rfl, rfl⟩
  · cases d1 : decide (0 ≤ n)
    · have F : Hid (inB true n m = false) := by show _ = _; unfold inB; rw [d1]; rfl
      go_enter Tryd.func31, Tryd.ntmps31
      go_wp2_with fail
      go_ret
      exact ⟨ret_bool F.out.symm, rfl⟩
    · have F : Hid (inB true n m = decide (n < m)) := by show _ = _; unfold inB; rw [d1]; rfl
      go_enter Tryd.func31, Tryd.ntmps31
      go_wp2_with fail
      go_ret
      exact ⟨ret_bool F.out.symm, rfl⟩
theorem input_any (s : Int) (w : World) : Calls Tryd.prog 24 #[.int .i64 s] w fun e w' => e = .returned (.bool (decide (1 ≤ s) && decide (s ≤ 6))) ∧ w = w' := by
  cases d1 : decide (1 ≤ s)
  · go_enter Tryd.func24, Tryd.ntmps24
    go_wp2_with fail
    go_ret
    exact ⟨rfl, rfl⟩
  · go_enter Tryd.func24, Tryd.ntmps24
    go_wp2_with fail
    go_ret
    exact ⟨ret_bool (by rw [Bool.true_and]), rfl⟩
end Go.Proofs.YtophffmofpmbpaaDoor
