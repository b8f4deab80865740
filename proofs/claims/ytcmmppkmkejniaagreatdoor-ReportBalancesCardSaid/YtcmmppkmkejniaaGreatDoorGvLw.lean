/-
  The law StatementGroup.
-/
import Derived.Test.YtcmmppkmkejniaaGreatDoorGvRw
import Derived.Test.YtcmmppkmkejniaaGreatDoorSgSm
namespace Go.Proofs.YtcmmppkmkejniaaGreatDoor
open Go.RowKit
set_option linter.unusedVariables false
set_option linter.unusedSimpArgs false
theorem posRows_len (ch : List SAcc) : (posRows ch).length ≤ 3 * (ch.length + 1) := by
  unfold posRows
  rw [List.length_append, List.length_append]
  have a := secRows_len ch nmAssets 1 false
  have b := secRows_len ch nmLiab 2 true
  have c := secRows_len ch nmEquity 3 true
  omega
theorem incRows_len (ch : List SAcc) : (incRows ch).length ≤ 2 * (ch.length + 1) := by
  unfold incRows
  rw [List.length_append]
  have a := secRows_len ch nmIncome 4 true
  have b := secRows_len ch nmExpenses 5 false
  omega
theorem reads_nil (w : World) (B size : Nat) (A : Option Addr) : Reads w B size A 0 [] := ⟨by simp, fun h => absurd h (by omega)⟩
set_option maxRecDepth 100000 in
set_option maxHeartbeats 16000000 in
theorem lawGroup (g : SGrp) (B : Nat) (w : World) (hE : Env w) (hg : GrpIn w B g) (hB : B ≤ w.heap.size) :
    Calls Tryz.prog 3 #[grpV g] w fun e w' => e = .returned (.bool true) ∧ Below w.heap.size w w' := by
  have HAW : Hid (∀ W : World, Below w.heap.size w W → Calls Tryz.prog 6 #[] W fun e w' => e = .returned (.bool true) ∧ Below W.heap.size W w') := fun W hW => awake_true W (hE.after hW)
  have HFW : Hid (∀ W : World, Below w.heap.size w W → Calls Tryz.prog 7 #[grpV g] W (FewSays g W)) := fun W hW => gfew_any g B W (hg.low hB (Nat.le_refl _) hW) (by have := hW.size; omega)
  have HSM : Hid (∀ (W : World) (rs : List SRow) (A A' : Option Addr) (n c c' : Nat), Reads W W.heap.size 5 A n (rowsCells rs) → Reads W W.heap.size 5 A' n (rowsCells rs) → n ≤ 9223372036854775807 → Calls Tryz.prog 12 #[.slice A n c, .slice A' n c'] W fun e w' => e = .returned (.bool true) ∧ Below W.heap.size W w') := fun W rs A A' n c c' h1 h2 hn => same_any rs A A' n c c' W.heap.size W.heap.size W h1 h2 (Nat.le_refl _) (Nat.le_refl _) hn
  have HYES : Hid (g.nc ≤ 1000 → (∀ x ∈ g.ents, x.nc ≤ 1000) → g.ne ≤ 1000 → grpR g.p = true → (∀ W : World, Below w.heap.size w W → Calls Tryz.prog 8 #[grpV g] W fun e w' => ∃ v, e = .returned (.tuple #[v, .int .i64 0]) ∧ w'.ownsRow W.heap.size 39 5 v (posRows g.chart).length (rowsCells (posRows g.chart)) ∧ Below W.heap.size W w') ∧ (∀ W : World, Below w.heap.size w W → Calls Tryz.prog 9 #[grpV g] W fun e w' => ∃ v, e = .returned (.tuple #[v, .int .i64 0]) ∧ w'.ownsRow W.heap.size 39 5 v (posRows g.chart).length (rowsCells (posRows g.chart)) ∧ Below W.heap.size W w') ∧ (∀ W : World, Below w.heap.size w W → Calls Tryz.prog 10 #[grpV g] W fun e w' => ∃ v, e = .returned (.tuple #[v, .int .i64 0]) ∧ w'.ownsRow W.heap.size 39 5 v (incRows g.chart).length (rowsCells (incRows g.chart)) ∧ Below W.heap.size W w') ∧ (∀ W : World, Below w.heap.size w W → Calls Tryz.prog 11 #[grpV g] W fun e w' => ∃ v, e = .returned (.tuple #[v, .int .i64 0]) ∧ w'.ownsRow W.heap.size 39 5 v (incRows g.chart).length (rowsCells (incRows g.chart)) ∧ Below W.heap.size W w')) := by
    intro h1 h2 h3 h4
    have h5 : grpP g.p = true := by rw [grp_same]; exact h4
    have h6 : ∀ x ∈ g.chart, 0 ≤ x.code ∧ x.code ≤ 99999 := fun x hx => by have := (grpR_codes h4).1 x hx; omega
    exact ⟨fun W hW => ppos_yes g B W (hE.after hW) (hg.low hB (Nat.le_refl _) hW) (by have := hW.size; omega) h1 h2 h6 h5,
      fun W hW => rpos_yes g B W (hg.low hB (Nat.le_refl _) hW) (by have := hW.size; omega) h1 h2 h3 h4,
      fun W hW => pinc_yes g B W (hE.after hW) (hg.low hB (Nat.le_refl _) hW) (by have := hW.size; omega) h1 h2 h6 h5,
      fun W hW => rinc_yes g B W (hg.low hB (Nat.le_refl _) hW) (by have := hW.size; omega) h1 h2 h3 h4⟩
  have HNO : Hid (g.nc ≤ 1000 → (∀ x ∈ g.ents, x.nc ≤ 1000) → g.ne ≤ 1000 → grpR g.p = false → (∀ W : World, Below w.heap.size w W → Calls Tryz.prog 8 #[grpV g] W fun e w' => e = .returned (.tuple #[.slice none 0 0, .int .i64 1]) ∧ Below W.heap.size W w') ∧ (∀ W : World, Below w.heap.size w W → Calls Tryz.prog 9 #[grpV g] W fun e w' => e = .returned (.tuple #[.slice none 0 0, .int .i64 1]) ∧ Below W.heap.size W w') ∧ (∀ W : World, Below w.heap.size w W → Calls Tryz.prog 10 #[grpV g] W fun e w' => e = .returned (.tuple #[.slice none 0 0, .int .i64 1]) ∧ Below W.heap.size W w') ∧ (∀ W : World, Below w.heap.size w W → Calls Tryz.prog 11 #[grpV g] W fun e w' => e = .returned (.tuple #[.slice none 0 0, .int .i64 1]) ∧ Below W.heap.size W w')) := by
    intro h1 h2 h3 h4
    have h5 : grpP g.p = false := by rw [grp_same]; exact h4
    exact ⟨fun W hW => ppos_no g B W (hg.low hB (Nat.le_refl _) hW) (by have := hW.size; omega) h1 h2 h5,
      fun W hW => rpos_no g B W (hg.low hB (Nat.le_refl _) hW) (by have := hW.size; omega) h1 h2 h3 h4,
      fun W hW => pinc_no g B W (hg.low hB (Nat.le_refl _) hW) (by have := hW.size; omega) h1 h2 h5,
      fun W hW => rinc_no g B W (hg.low hB (Nat.le_refl _) hW) (by have := hW.size; omega) h1 h2 h3 h4⟩
  have HLC := Lib.hid hg.ch.len
  clear hg hE
  cases hgr : grpR g.p
  · have HQ := HNO.out
    clear HYES HNO
    obtain ⟨cu, yr, mo, pe, Ac, nc, cc, ch, ro, Ae, ne, ce, es⟩ := g
    unfold FewSays at HFW
    unfold grpV at HFW HQ ⊢
    simp only [] at HFW HQ HLC ⊢
    have HBX := Lib.hid ((Below.refl w.heap.size w).alloc (Nat.le_refl _) (.cells #[.string ⟨cu.toArray⟩, .int .i64 yr, .int .i64 mo, .int .i64 pe, .slice Ac nc cc, .int .i64 ro.c0, .int .i64 ro.c1, .int .i64 ro.c2, .int .i64 ro.c3, .int .i64 ro.c4, .int .i64 ro.c5, .int .i64 ro.c6, .int .i64 ro.c7, .int .i64 ro.c8, .int .i64 ro.c9, .int .i64 ro.c10, .int .i64 ro.c11, .int .i64 ro.c12, .int .i64 ro.c13, .int .i64 ro.c14, .slice Ae ne ce] 29))
    have HE := Lib.hid (Blk.new w 29 #[.string ⟨cu.toArray⟩, .int .i64 yr, .int .i64 mo, .int .i64 pe, .slice Ac nc cc, .int .i64 ro.c0, .int .i64 ro.c1, .int .i64 ro.c2, .int .i64 ro.c3, .int .i64 ro.c4, .int .i64 ro.c5, .int .i64 ro.c6, .int .i64 ro.c7, .int .i64 ro.c8, .int .i64 ro.c9, .int .i64 ro.c10, .int .i64 ro.c11, .int .i64 ro.c12, .int .i64 ro.c13, .int .i64 ro.c14, .slice Ae ne ce])
    go_enter Tryz.func3, Tryz.ntmps3
    go_wp2_with fail
    refine (HAW.out _ HBX.out).mono ?_
    rintro e w1 ⟨rfl, hb1⟩
    have HB1 := Lib.hid (below_two HBX.out hb1)
    have HE1 := Lib.hid (HE.out.below hb1 (by simp))
    have hs1 : w.heap.size < w1.heap.size := by have := hb1.size; simp only [World.size_alloc] at this; omega
    clear hb1
    go_wp2_with (refine wpList_load_grp (by first | rfl | simp [Region.wanted, yielded]) _ rfl _ rfl _ rfl HE1.out ?_)
    refine (HFW.out _ HB1.out).mono ?_
    rintro e w2 ⟨b, rfl, hfb, hb2⟩
    have HB2 := Lib.hid (below_two HB1.out hb2)
    have HE2 := Lib.hid (HE1.out.below hb2 hs1)
    have hs2 : w1.heap.size ≤ w2.heap.size := hb2.size
    clear hb2
    cases b
    · go_wp2_with fail
      refine (HAW.out _ HB2.out).mono ?_
      rintro e w3 ⟨rfl, hb3⟩
      have HB3 := Lib.hid (below_two HB2.out hb3)
      clear hb3
      go_wp2_with fail
      go_ret
      exact ⟨rfl, HB3.out⟩
    · obtain ⟨f1, f2, f3⟩ := hfb rfl
      obtain ⟨Q1, Q2, Q3, Q4⟩ := HQ (by omega) (fun x hx => by have := f3 x hx; omega) (by omega) hgr
      replace Q1 := Lib.hid Q1
      replace Q2 := Lib.hid Q2
      replace Q3 := Lib.hid Q3
      replace Q4 := Lib.hid Q4
      clear hfb HQ f3 HAW HFW
      go_wp2_with (refine wpList_load_grp (by first | rfl | simp [Region.wanted, yielded]) _ rfl _ rfl _ rfl HE2.out ?_)
      refine (Q1.out _ HB2.out).mono ?_
      rintro e w3 ⟨rfl, hb⟩
      have HB3 := Lib.hid (below_two HB2.out hb)
      have HE3 := Lib.hid (HE2.out.below hb (by omega))
      have hs3 : w2.heap.size ≤ w3.heap.size := hb.size
      clear hb
      go_wp2_with (refine wpList_load_grp (by first | rfl | simp [Region.wanted, yielded]) _ rfl _ rfl _ rfl HE3.out ?_)
      refine (Q2.out _ HB3.out).mono ?_
      rintro e w4 ⟨rfl, hb⟩
      have HB4 := Lib.hid (below_two HB3.out hb)
      have HE4 := Lib.hid (HE3.out.below hb (by omega))
      have hs4 : w3.heap.size ≤ w4.heap.size := hb.size
      clear hb
      go_wp2_with (refine wpList_load_grp (by first | rfl | simp [Region.wanted, yielded]) _ rfl _ rfl _ rfl HE4.out ?_)
      refine (Q3.out _ HB4.out).mono ?_
      rintro e w5 ⟨rfl, hb⟩
      have HB5 := Lib.hid (below_two HB4.out hb)
      have HE5 := Lib.hid (HE4.out.below hb (by omega))
      have hs5 : w4.heap.size ≤ w5.heap.size := hb.size
      clear hb
      go_wp2_with (refine wpList_load_grp (by first | rfl | simp [Region.wanted, yielded]) _ rfl _ rfl _ rfl HE5.out ?_)
      refine (Q4.out _ HB5.out).mono ?_
      rintro e w6 ⟨rfl, hb⟩
      have HB6 := Lib.hid (below_two HB5.out hb)
      have HE6 := Lib.hid (HE5.out.below hb (by omega))
      have hs6 : w5.heap.size ≤ w6.heap.size := hb.size
      clear hb
      go_wp2_with fail
      refine (HSM.out _ [] none none 0 0 0 (reads_nil _ _ _ _) (reads_nil _ _ _ _) (by omega)).mono ?_
      rintro e w7 ⟨rfl, hb⟩
      have HB7 := Lib.hid (below_two HB6.out hb)
      clear hb
      go_wp2_with fail
      refine (HSM.out _ [] none none 0 0 0 (reads_nil _ _ _ _) (reads_nil _ _ _ _) (by omega)).mono ?_
      rintro e w8 ⟨rfl, hb⟩
      have HB8 := Lib.hid (below_two HB7.out hb)
      clear hb
      go_wp2_with fail
      go_ret
      exact ⟨rfl, HB8.out⟩
  · have HQ := HYES.out
    clear HYES HNO
    obtain ⟨cu, yr, mo, pe, Ac, nc, cc, ch, ro, Ae, ne, ce, es⟩ := g
    unfold FewSays at HFW
    unfold grpV at HFW HQ ⊢
    simp only [] at HFW HQ HLC ⊢
    have HBX := Lib.hid ((Below.refl w.heap.size w).alloc (Nat.le_refl _) (.cells #[.string ⟨cu.toArray⟩, .int .i64 yr, .int .i64 mo, .int .i64 pe, .slice Ac nc cc, .int .i64 ro.c0, .int .i64 ro.c1, .int .i64 ro.c2, .int .i64 ro.c3, .int .i64 ro.c4, .int .i64 ro.c5, .int .i64 ro.c6, .int .i64 ro.c7, .int .i64 ro.c8, .int .i64 ro.c9, .int .i64 ro.c10, .int .i64 ro.c11, .int .i64 ro.c12, .int .i64 ro.c13, .int .i64 ro.c14, .slice Ae ne ce] 29))
    have HE := Lib.hid (Blk.new w 29 #[.string ⟨cu.toArray⟩, .int .i64 yr, .int .i64 mo, .int .i64 pe, .slice Ac nc cc, .int .i64 ro.c0, .int .i64 ro.c1, .int .i64 ro.c2, .int .i64 ro.c3, .int .i64 ro.c4, .int .i64 ro.c5, .int .i64 ro.c6, .int .i64 ro.c7, .int .i64 ro.c8, .int .i64 ro.c9, .int .i64 ro.c10, .int .i64 ro.c11, .int .i64 ro.c12, .int .i64 ro.c13, .int .i64 ro.c14, .slice Ae ne ce])
    go_enter Tryz.func3, Tryz.ntmps3
    go_wp2_with fail
    refine (HAW.out _ HBX.out).mono ?_
    rintro e w1 ⟨rfl, hb1⟩
    have HB1 := Lib.hid (below_two HBX.out hb1)
    have HE1 := Lib.hid (HE.out.below hb1 (by simp))
    have hs1 : w.heap.size < w1.heap.size := by have := hb1.size; simp only [World.size_alloc] at this; omega
    clear hb1
    go_wp2_with (refine wpList_load_grp (by first | rfl | simp [Region.wanted, yielded]) _ rfl _ rfl _ rfl HE1.out ?_)
    refine (HFW.out _ HB1.out).mono ?_
    rintro e w2 ⟨b, rfl, hfb, hb2⟩
    have HB2 := Lib.hid (below_two HB1.out hb2)
    have HE2 := Lib.hid (HE1.out.below hb2 hs1)
    have hs2 : w1.heap.size ≤ w2.heap.size := hb2.size
    clear hb2
    cases b
    · go_wp2_with fail
      refine (HAW.out _ HB2.out).mono ?_
      rintro e w3 ⟨rfl, hb3⟩
      have HB3 := Lib.hid (below_two HB2.out hb3)
      clear hb3
      go_wp2_with fail
      go_ret
      exact ⟨rfl, HB3.out⟩
    · obtain ⟨f1, f2, f3⟩ := hfb rfl
      obtain ⟨Q1, Q2, Q3, Q4⟩ := HQ (by omega) (fun x hx => by have := f3 x hx; omega) (by omega) hgr
      replace Q1 := Lib.hid Q1
      replace Q2 := Lib.hid Q2
      replace Q3 := Lib.hid Q3
      replace Q4 := Lib.hid Q4
      clear hfb HQ f3 HAW HFW
      have HL1 := Lib.hid (show (posRows ch).length ≤ 9223372036854775807 by have := posRows_len ch; have := HLC.out; omega)
      have HL2 := Lib.hid (show (incRows ch).length ≤ 9223372036854775807 by have := incRows_len ch; have := HLC.out; omega)
      generalize posRows ch = r1 at *
      generalize incRows ch = r2 at *
      have el1 : (r1.length != r1.length) = false := by simp
      go_wp2_with (refine wpList_load_grp (by first | rfl | simp [Region.wanted, yielded]) _ rfl _ rfl _ rfl HE2.out ?_)
      refine (Q1.out _ HB2.out).mono ?_
      rintro e w3 ⟨v1, rfl, ho, hb⟩
      obtain ⟨A1, c1, rfl⟩ := own_slice ho
      have HO1 := Lib.hid ho
      have HB3 := Lib.hid (below_two HB2.out hb)
      have HE3 := Lib.hid (HE2.out.below hb (by omega))
      have hs3 : w2.heap.size ≤ w3.heap.size := hb.size
      clear ho hb
      go_wp2_with (refine wpList_load_grp (by first | rfl | simp [Region.wanted, yielded]) _ rfl _ rfl _ rfl HE3.out ?_)
      refine (Q2.out _ HB3.out).mono ?_
      rintro e w4 ⟨v2, rfl, ho, hb⟩
      obtain ⟨A2, c2, rfl⟩ := own_slice ho
      have HO2 := Lib.hid ho
      have HB4 := Lib.hid (below_two HB3.out hb)
      have HE4 := Lib.hid (HE3.out.below hb (by omega))
      have hs4 : w3.heap.size ≤ w4.heap.size := hb.size
      replace HO1 := Lib.hid (own_below HO1.out hb)
      clear ho hb
      go_wp2_with (refine wpList_load_grp (by first | rfl | simp [Region.wanted, yielded]) _ rfl _ rfl _ rfl HE4.out ?_)
      refine (Q3.out _ HB4.out).mono ?_
      rintro e w5 ⟨v3, rfl, ho, hb⟩
      obtain ⟨A3, c3, rfl⟩ := own_slice ho
      have HO3 := Lib.hid ho
      have HB5 := Lib.hid (below_two HB4.out hb)
      have HE5 := Lib.hid (HE4.out.below hb (by omega))
      have hs5 : w4.heap.size ≤ w5.heap.size := hb.size
      replace HO1 := Lib.hid (own_below HO1.out hb)
      replace HO2 := Lib.hid (own_below HO2.out hb)
      clear ho hb
      go_wp2_with (refine wpList_load_grp (by first | rfl | simp [Region.wanted, yielded]) _ rfl _ rfl _ rfl HE5.out ?_)
      refine (Q4.out _ HB5.out).mono ?_
      rintro e w6 ⟨v4, rfl, ho, hb⟩
      obtain ⟨A4, c4, rfl⟩ := own_slice ho
      have HO4 := Lib.hid ho
      have HB6 := Lib.hid (below_two HB5.out hb)
      have HE6 := Lib.hid (HE5.out.below hb (by omega))
      have hs6 : w5.heap.size ≤ w6.heap.size := hb.size
      replace HO1 := Lib.hid (own_below HO1.out hb)
      replace HO2 := Lib.hid (own_below HO2.out hb)
      replace HO3 := Lib.hid (own_below HO3.out hb)
      clear ho hb
      go_wp2_with fail
      refine (HSM.out _ r1 _ _ _ _ _ (Reads.of_own HO1.out) (Reads.of_own HO2.out) HL1.out).mono ?_
      rintro e w7 ⟨rfl, hb⟩
      have HB7 := Lib.hid (below_two HB6.out hb)
      replace HO3 := Lib.hid (own_below HO3.out hb)
      replace HO4 := Lib.hid (own_below HO4.out hb)
      clear hb
      go_wp2_with fail
      refine (HSM.out _ r2 _ _ _ _ _ (Reads.of_own HO3.out) (Reads.of_own HO4.out) HL2.out).mono ?_
      rintro e w8 ⟨rfl, hb⟩
      have HB8 := Lib.hid (below_two HB7.out hb)
      clear hb
      go_wp2_with fail
      go_ret
      exact ⟨rfl, HB8.out⟩
end Go.Proofs.YtcmmppkmkejniaaGreatDoor
