/-
  The law TokenValues.
-/
import Derived.Test.YtblpgdfjmkefkaaDoorTokW15
namespace Go.Proofs.YtblpgdfjmkefkaaDoor
open Go.RowKit
set_option linter.unusedVariables false
set_option maxRecDepth 100000 in
set_option maxHeartbeats 4000000 in
theorem lawValues (k0 : Int) (t0 : List UInt8) (fr0 : Int) (s0 : ByteArray) (ts : List Tok) (A : Option Addr) (n c : Nat) (w : World) (hE : Env w) (hr : Reads w w.heap.size 3 A n (tokCells ts)) (hn63 : n ≤ 9223372036854775807) :
    Calls Tryd.prog 7 #[.agg #[.int .i64 k0, .string ⟨t0.toArray⟩, .int .i64 fr0], .string s0, .slice A n c] w fun e w' => e = .returned (.bool true) ∧ Below w.heap.size w w' := by
  obtain ⟨s, rfl⟩ : ∃ L : List UInt8, s0 = ⟨L.toArray⟩ := ⟨s0.data.toList, by simp⟩
  obtain ⟨i0, hi0, hz0, hz1, hz2⟩ := info_parts info_tok
  have HR := Lib.hid hr
  clear hr
  have hb0 := (Below.refl w.heap.size w).alloc (Nat.le_refl _) (.cells #[.int .i64 k0, .string ⟨t0.toArray⟩, .int .i64 fr0] 40)
  have HB0 := Lib.hid hb0
  have hE0 : Env (w.alloc (.cells #[.int .i64 k0, .string ⟨t0.toArray⟩, .int .i64 fr0] 40)) := hE.after hb0
  clear hb0
  have hblk := fun (w1 : World) (hb : Below (w.alloc (.cells #[.int .i64 k0, .string ⟨t0.toArray⟩, .int .i64 fr0] 40)).heap.size (w.alloc (.cells #[.int .i64 k0, .string ⟨t0.toArray⟩, .int .i64 fr0] 40)) w1) =>
    (Blk.new w 40 #[.int .i64 k0, .string ⟨t0.toArray⟩, .int .i64 fr0]).below hb (by simp)
  have HBLK := Lib.hid hblk
  clear hblk
  by_cases h1 : 100 < t0.length
  · have hd : decide (100 < (t0.length : Int)) = true := by rw [decide_eq_true_eq]; omega
    go_enter Tryd.func7, Tryd.ntmps7
    go_wp2_with fail
    refine (awake_true _ hE0).mono ?_
    rintro e w1 ⟨rfl, hb⟩
    have c1 := (HBLK.out _ hb).cell 1
    simp only [List.getElem?_toArray, List.getElem?_cons_zero, List.getElem?_cons_succ] at c1
    go_wp2_with fail
    go_ret
    exact ⟨rfl, below_two HB0.out hb⟩
  have hd1 : decide (100 < (t0.length : Int)) = false := by rw [decide_eq_false_iff_not]; omega
  have ht0 : t0.length ≤ 100 := by omega
  by_cases h2 : 100 < s.length
  · have hd : decide (100 < (s.length : Int)) = true := by rw [decide_eq_true_eq]; omega
    clear h1
    go_enter Tryd.func7, Tryd.ntmps7
    go_wp2_with fail
    refine (awake_true _ hE0).mono ?_
    rintro e w1 ⟨rfl, hb⟩
    have c1 := (HBLK.out _ hb).cell 1
    simp only [List.getElem?_toArray, List.getElem?_cons_zero, List.getElem?_cons_succ] at c1
    go_wp2_with fail
    go_ret
    exact ⟨rfl, below_two HB0.out hb⟩
  have hd2 : decide (100 < (s.length : Int)) = false := by rw [decide_eq_false_iff_not]; omega
  have hs0 : s.length ≤ 100 := by omega
  by_cases h3 : 30 < n
  · have hd : decide (30 < (n : Int)) = true := by rw [decide_eq_true_eq]; omega
    clear h1 h2
    go_enter Tryd.func7, Tryd.ntmps7
    go_wp2_with fail
    refine (awake_true _ hE0).mono ?_
    rintro e w1 ⟨rfl, hb⟩
    have c1 := (HBLK.out _ hb).cell 1
    simp only [List.getElem?_toArray, List.getElem?_cons_zero, List.getElem?_cons_succ] at c1
    go_wp2_with fail
    go_ret
    exact ⟨rfl, below_two HB0.out hb⟩
  have hd3 : decide (30 < (n : Int)) = false := by rw [decide_eq_false_iff_not]; omega
  have hn0 : n ≤ 30 := by omega
  clear h1 h2 h3
  go_enter Tryd.func7, Tryd.ntmps7
  go_wp2_with fail
  refine (awake_true _ hE0).mono ?_
  rintro e w1 ⟨rfl, hb⟩
  have HB := Lib.hid (below_two HB0.out hb)
  have hbk := HBLK.out _ hb
  have c1 := hbk.cell 1
  simp only [List.getElem?_toArray, List.getElem?_cons_zero, List.getElem?_cons_succ] at c1
  have hlt1 : w.heap.size < w1.heap.size := by have := hb.size; simp at this; omega
  have HBK := Lib.hid hbk
  have HRW := Lib.hid (HR.out.low (Nat.le_refl _) (Nat.le_refl _) HB.out)
  have HL := Lib.hid (toks_len HR.out)
  have hE1 := hE0.after hb
  clear hb hbk HBLK HB0 hE0
  go_wp2_with fail
  clear c1
  go_loopw [7, 32] (fun v i wr => ∃ k : Nat, k ≤ n ∧ i = .int .i64 k ∧ wr.ownsRow w1.heap.size 34 3 v k (tokCells (ts.take k)) ∧ (∀ t ∈ ts.take k, t.text.length ≤ 100) ∧ Below w1.heap.size w1 wr) (fun _ i _ => n - (intOf i).toNat)
  case atStart => exact ⟨0, by omega, rfl, World.ownsRow_nil _ _ _ _, by simp, Below.refl _ _⟩
  case round =>
    obtain ⟨k, hk, rfl, hown, hal, hbr⟩ := hrel
    obtain ⟨wo, rfl⟩ : ∃ wo : World, wo = wr := ⟨_, rfl⟩
    have HO := Lib.hid hown
    have HA := Lib.hid hal
    clear hown hal
    by_cases hlt : k < n
    · obtain ⟨ad, rfl, hbk, c0, c1, c2⟩ := (HRW.out.low (Nat.le_of_lt hlt1) (Nat.le_refl _) hbr).tok_at hlt
      have htk : Hid (tokCells (ts.take (k + 1)) = tokCells (ts.take k) ++ tokRow (ts.getD k ⟨0, [], 0⟩)) := by
        show _ = _
        rw [List.take_succ_eq_append_getElem (by rw [HL.out]; exact hlt), tokCells_snoc]
        simp [List.getD, show k < ts.length by rw [HL.out]; exact hlt]
      have hta : Hid ((ts.getD k ⟨0, [], 0⟩).text.length ≤ 100 → ∀ t ∈ ts.take (k + 1), t.text.length ≤ 100) := by
        show _ → _
        intro h t ht
        rw [List.take_succ_eq_append_getElem (by rw [HL.out]; exact hlt)] at ht
        rcases List.mem_append.1 ht with ht | ht
        · exact HA.out t ht
        · obtain rfl := List.mem_singleton.1 ht
          simpa [List.getD, show k < ts.length by rw [HL.out]; exact hlt] using h
      generalize ts.getD k ⟨0, [], 0⟩ = t at *
      by_cases h100 : 100 < t.text.length
      · have hdt : decide (100 < (t.text.length : Int)) = true := by rw [decide_eq_true_eq]; omega
        go_wp2_with fail
        go_ret
        exact ⟨rfl, below_two HB.out (hbr.alloc hbr.size _)⟩
      · have hdt : decide (100 < (t.text.length : Int)) = false := by rw [decide_eq_false_iff_not]; omega
        go_wp2_with (at_builtin; refine wpList_append_any _ rfl (.tmp 40) (.tmp 42) _ rfl w1.heap.size 34 i0 _ 3 32 Tryd.underlying23 hi0 hz0 hz1 hz2 rfl (by omega) _ k (tokCells (ts.take k)) rfl ((HO.out.alloc _).alloc _) (wo.heap.size + 1 + 1) (some ⟨wo.heap.size + 1, 0, none⟩) 1 1 (tokRow t) rfl (by have := reads_one (wo.alloc (.cells #[.int .i64 t.kind, .string ⟨t.text.toArray⟩, .int .i64 t.from_] 40)) #[.int .i64 t.kind, .string ⟨t.text.toArray⟩, .int .i64 t.from_] 34 3 rfl; rw [World.size_alloc] at this; exact this) (tokRow_one _) (by simp only [maxLen]; omega) (by omega) (by simp only [World.size_alloc]; have := hbr.size; omega) ?_; intro v4 w4 hown4 hg4 hat4)
        rw [← htk.out] at hown4
        exact ⟨⟨k + 1, by omega, by go_num, hown4, hta.out (by omega), ((hbr.alloc hbr.size _).alloc (by simp only [World.size_alloc]; have := hbr.size; omega) _).grown hg4 (by simp only [World.size_alloc]; have := hbr.size; omega) (own_base HO.out)⟩, by simp [intOf]; omega⟩
    · have e : k = n := by omega
      have hown := HO.out
      have hal := HA.out
      rw [List.take_of_length_le (by rw [HL.out]; omega)] at hown hal
      rw [e, ← HL.out] at hown
      obtain ⟨A1, c1, rfl⟩ := own_slice hown
      have HO1 := Lib.hid (Reads.of_own hown)
      have HA1 := Lib.hid hal
      have HRO := Lib.hid (HRW.out.low (Nat.le_of_lt hlt1) (Nat.le_refl _) hbr)
      have hbk := HBK.out.below hbr hlt1
      have b0 := hbk.cell 0
      have b1 := hbk.cell 1
      have b2 := hbk.cell 2
      simp only [List.getElem?_toArray, List.getElem?_cons_zero, List.getElem?_cons_succ] at b0 b1 b2
      have HBK2 := Lib.hid hbk
      have hjl : (joinL (txts ts)).length ≤ 30 * 101 := by
        have h1 := joinL_le (M := 100) (xs := txts ts) (by
          intro x hx
          obtain ⟨t, ht, rfl⟩ := List.mem_map.1 hx
          exact hal t ht)
        have h2 : (txts ts).length ≤ 30 := by unfold txts; rw [List.length_map, HL.out]; omega
        have := Nat.mul_le_mul_right 101 h2
        omega
      have hsz : w1.heap.size ≤ wo.heap.size := hbr.size
      have hnl : ts.length ≤ 30 := by rw [HL.out]; omega
      have HBR := Lib.hid (below_two HB.out hbr)
      clear hown hal e hbk HO HA hbr
      go_wp2_with fail
      refine (value_any k0 t0 fr0 _ (by omega)).mono ?_
      rintro e w2 ⟨rfl, hb2⟩
      have hbk2 := HBK2.out.below hb2 (by omega)
      clear b0 b1 b2
      have b0 := hbk2.cell 0
      have b1 := hbk2.cell 1
      have b2 := hbk2.cell 2
      simp only [List.getElem?_toArray, List.getElem?_cons_zero, List.getElem?_cons_succ] at b0 b1 b2
      clear hbk2
      go_wp2_with fail
      refine (refValue_any k0 t0 fr0 _ (by omega)).mono ?_
      rintro e w3 ⟨rfl, hb3⟩
      clear b0 b1 b2
      generalize vN k0 t0 = vn
      generalize vB k0 t0 = vb
      have q1 : (vn == vn) = true := by simp
      have q2 : (vb == vb) = true := by simp
      go_wp2_with fail
      refine (keyword_any s _).mono ?_
      rintro e wx ⟨rfl, rfl⟩
      go_wp2_with fail
      refine (refKeyword_any s _).mono ?_
      rintro e w4 ⟨rfl, hb4⟩
      have hb24 := below_two (below_two hb2 hb3) hb4
      generalize inL kws s = kb
      have q3 : (kb == kb) = true := by simp
      go_wp2_with fail
      refine (join_any ts A1 ts.length c1 _ _ (HO1.out.low (Nat.le_refl _) (Nat.le_refl _) hb24) hb24.size (by omega) (by omega)).mono ?_
      rintro e w5 ⟨rfl, hb5⟩
      go_wp2_with fail
      refine (refJoin_any ts A n c _ _ ((HRO.out.low (by omega) (Nat.le_refl _) hb24).low (by have := hb24.size; omega) (Nat.le_refl _) hb5) (by have := hb24.size; have := hb5.size; omega) hn0 HA1.out).mono ?_
      rintro e wx ⟨rfl, rfl⟩
      generalize joinL (txts ts) = J at *
      go_wp2_with fail
      go_ret
      exact ⟨ret_bool (by simp), below_two (below_two HBR.out hb24) hb5⟩
end Go.Proofs.YtblpgdfjmkefkaaDoor
