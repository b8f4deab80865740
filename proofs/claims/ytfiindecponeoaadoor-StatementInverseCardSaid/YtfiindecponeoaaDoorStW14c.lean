/-
  The program's read: the ways of a row with numbers.
-/
import Derived.Test.YtfiindecponeoaaDoorStW14
namespace Go.Proofs.YtfiindecponeoaaDoor
open Go.RowKit
set_option linter.unusedVariables false
set_option maxRecDepth 100000 in
set_option maxHeartbeats 30000000 in
theorem read_rowt (l : List UInt8) (w : World) (hE : Env w) (hEE : EnvE w) (hl : l.length ≤ 2000) (h : (Lib.cut (Lib.cut l [32, 34]).2.1 [34]).2.2 = true) (v : Int) (hv : Lib.atoiAll (Lib.cut l [32, 34]).1 = .ok v) (hR : (Lib.cut (Lib.cut l [32, 34]).2.1 [34]).2.1 ≠ []) (fv tv : Int) (hff : Lib.atoiAll (Lib.cut (Lib.trimPrefix (Lib.trimSuffix (Lib.cut (Lib.cut l [32, 34]).2.1 [34]).2.1 [32, 45]) [32]) [46, 46]).1 = .ok fv) (hft : Lib.atoiAll (Lib.cut (Lib.trimPrefix (Lib.trimSuffix (Lib.cut (Lib.cut l [32, 34]).2.1 [34]).2.1 [32, 45]) [32]) [46, 46]).2.1 = .ok tv) (hqv : (lineL ⟨(Lib.cut (Lib.cut l [32, 34]).2.1 [34]).1, v, fv, tv, Lib.hasSuffix (Lib.cut (Lib.cut l [32, 34]).2.1 [34]).2.1 [32, 45]⟩ == l) = true) :
    Calls Tryd.prog 26 #[.string ⟨l.toArray⟩] w (ReadSays l w) := by
  have F : Hid (∀ b r0, okRow b r0 = true → lineL r0 = l → (⟨(Lib.cut (Lib.cut l [32, 34]).2.1 [34]).1, v, fv, tv, Lib.hasSuffix (Lib.cut (Lib.cut l [32, 34]).2.1 [34]).2.1 [32, 45]⟩ : SRow) = r0) := by
    show ∀ _, _
    intro b r0 h1 h2
    obtain ⟨p1, p2, p3⟩ := pr_line h1
    rw [h2] at p1
    have q1 : (Lib.cut l [32, 34]).1 = Lib.itoa r0.level := by rw [p1]
    have q2 : (Lib.cut l [32, 34]).2.1 = r0.name ++ 34 :: tailL r0 := by rw [p1]
    have q3 : (Lib.cut (Lib.cut l [32, 34]).2.1 [34]).1 = r0.name := by rw [q2, p2]
    have q4 : (Lib.cut (Lib.cut l [32, 34]).2.1 [34]).2.1 = tailL r0 := by rw [q2, p2]
    have ht : isTitle r0 = false := by
      cases ht : isTitle r0
      · rfl
      · exact absurd (q4.trans (title_tail ht)) hR
    obtain ⟨u1, u2, u3, u4, u5⟩ := pr_tail h1 ht
    rw [← q4] at u2 u3
    have u6 : (Lib.cut (Lib.trimPrefix (Lib.trimSuffix (Lib.cut (Lib.cut l [32, 34]).2.1 [34]).2.1 [32, 45]) [32]) [46, 46]).1 = Lib.itoa r0.from_ := by rw [u3]
    have u7 : (Lib.cut (Lib.trimPrefix (Lib.trimSuffix (Lib.cut (Lib.cut l [32, 34]).2.1 [34]).2.1 [32, 45]) [32]) [46, 46]).2.1 = Lib.itoa r0.to_ := by rw [u3]
    have e1 : v = r0.level := by rw [q1, p3] at hv; injection hv with hv; exact hv.symm
    have e2 : fv = r0.from_ := by rw [u6, u4] at hff; injection hff with hff; exact hff.symm
    have e3 : tv = r0.to_ := by rw [u7, u5] at hft; injection hft with hft; exact hft.symm
    exact row_ext q3 e1 e2 e3 u2
  obtain ⟨f1, f2⟩ := Lib.atoiAll_bounds hff
  obtain ⟨t1, t2⟩ := Lib.atoiAll_bounds hft
  have HQV := Lib.hid hqv
  clear hqv
  have HV := Lib.hid hv
  obtain ⟨v1, v2⟩ := Lib.atoiAll_bounds hv
  have hRb : ((Lib.cut (Lib.cut l [32, 34]).2.1 [34]).2.1 == []) = false := by rw [beq_eq_false_iff_ne]; exact hR
  have hln := cut_sub (Lib.trimPrefix (Lib.trimSuffix (Lib.cut (Lib.cut l [32, 34]).2.1 [34]).2.1 [32, 45]) [32]) [46, 46]
  have hl0 : (Lib.trimPrefix (Lib.trimSuffix (Lib.cut (Lib.cut l [32, 34]).2.1 [34]).2.1 [32, 45]) [32]).length ≤ (Lib.cut (Lib.cut l [32, 34]).2.1 [34]).2.1.length := trim_len _ _ _
  have HFF := Lib.hid hff
  have HFT := Lib.hid hft
  clear hv hR hff hft
  have hz := (Below.refl w.heap.size w).alloc (Nat.le_refl _) (.cells #[.string ⟨#[]⟩, .int .i64 0, .int .i64 0, .int .i64 0, .bool false] 40)
  have HBK := Lib.hid (Blk.new w 40 #[.string ⟨#[]⟩, .int .i64 0, .int .i64 0, .int .i64 0, .bool false])
  have HZ := Lib.hid hz
  have HE := Lib.hid (hE.after hz)
  have HES := Lib.hid hE.size
  have hc1 := cut_sub l [32, 34]
  have hc2 := cut_sub (Lib.cut l [32, 34]).2.1 [34]
  have HF := Lib.hid h
  clear hz h
  go_enter Tryd.func26, Tryd.ntmps26
  go_wp2_with fail
  have HC := Lib.hid (cut_any l [32, 34] _ HE.out (by omega))
  refine HC.out.mono ?_
  rintro e w1 ⟨rfl, hb1⟩
  have HC2 := Lib.hid (cut_any (Lib.cut l [32, 34]).2.1 [34] w1 (HE.out.after hb1) (by omega))
  clear HC
  go_wp2_with fail
  refine HC2.out.mono ?_
  rintro e w2 ⟨rfl, hb2⟩
  have hb12 := HZ.out.trans ((below_two hb1 hb2).mono (by simp))
  have HK2 := Lib.hid (HBK.out.below (below_two hb1 hb2) (by simp))
  clear HC2
  rw [HF.out]
  have HB12 := Lib.hid hb12
  clear hb1 hb2 hb12
  generalize (Lib.cut l [32, 34]).1 = a1 at *
  generalize (Lib.cut l [32, 34]).2.1 = A2 at *
  generalize (Lib.cut l [32, 34]).2.2 = bb at *
  generalize (Lib.cut A2 [34]).1 = nm at *
  generalize (Lib.cut A2 [34]).2.1 = R at *
  go_wp2_with fail
  refine (atoi_yes a1 v _ HV.out (by omega)).mono ?_
  rintro e w3 ⟨rfl, hb3⟩
  have hb13 := below_two HB12.out hb3
  have HK3 := Lib.hid (HK2.out.below hb3 (by have := HK2.out.lt; omega))
  have HB3 := Lib.hid hb13
  have hgw : w.heap.size ≤ w3.heap.size := hb13.size
  clear hb3 hb13
  go_wp2_with fail
  refine (cutSuffix_mk R [32, 45] _ (by omega)).mono ?_
  rintro e wx ⟨rfl, rfl⟩
  have hl3 : (Lib.trimPrefix (Lib.trimSuffix R [32, 45]) [32]).length ≤ 2000 := by omega
  have hl1 : (Lib.cut (Lib.trimPrefix (Lib.trimSuffix R [32, 45]) [32]) [46, 46]).1.length ≤ 3000 := by omega
  have hl2 : (Lib.cut (Lib.trimPrefix (Lib.trimSuffix R [32, 45]) [32]) [46, 46]).2.1.length ≤ 3000 := by omega
  generalize Lib.hasSuffix R [32, 45] = hs at *
  generalize Lib.trimSuffix R [32, 45] = R2 at *
  go_wp2_with fail
  refine (trimPrefix_mk R2 [32] _).mono ?_
  rintro e wx ⟨rfl, rfl⟩
  generalize Lib.trimPrefix R2 [32] = R3 at *
  have hba := HB3.out.alloc HB3.out.size (.cells #[.string ⟨nm.toArray⟩, .int .i64 v, .int .i64 1, .int .i64 0, .bool hs] 40)
  have HG := Lib.hid (Blk.new w3 40 #[.string ⟨nm.toArray⟩, .int .i64 v, .int .i64 1, .int .i64 0, .bool hs])
  have HKA := Lib.hid (HK3.out.alloc (.cells #[.string ⟨nm.toArray⟩, .int .i64 v, .int .i64 1, .int .i64 0, .bool hs] 40))
  have HC3 := Lib.hid (cut_any R3 [46, 46] (w3.alloc (.cells #[.string ⟨nm.toArray⟩, .int .i64 v, .int .i64 1, .int .i64 0, .bool hs] 40)) (hE.after hba) (by omega))
  have HBA := Lib.hid hba
  clear hba
  go_wp2_with fail
  refine HC3.out.mono ?_
  rintro e w4 ⟨rfl, hb4⟩
  generalize (Lib.cut R3 [46, 46]).1 = F1 at *
  generalize (Lib.cut R3 [46, 46]).2.1 = T1 at *
  generalize (Lib.cut R3 [46, 46]).2.2 = bc at *
  have HB4 := Lib.hid (below_two HBA.out hb4)
  have HG4 := Lib.hid (HG.out.below hb4 (by simp))
  have HK4 := Lib.hid (HKA.out.below hb4 (by simp; omega))
  clear hb4 HC3
  generalize hgg : w3.heap.size = g at *
  have HNE : Hid (w.heap.size ≠ g) := by
    show _ ≠ _
    have := HK3.out.lt
    omega
  clear hgg
  go_wp2_with fail
  refine (atoi_yes F1 fv w4 HFF.out hl1).mono ?_
  rintro e w5 ⟨rfl, hb5⟩
  have hb45 := below_two HB4.out hb5
  have HG5 := Lib.hid (HG4.out.below hb5 HG4.out.lt)
  have HK5 := Lib.hid (HK4.out.below hb5 HK4.out.lt)
  clear hb5
  have HBS : Hid (Below w.heap.size w (w5.setCell ⟨g, 2, none⟩ (.int .i64 fv))) := hb45.setCell (p := ⟨g, 2, none⟩) hgw _
  have HGS : Hid (Blk (w5.setCell ⟨g, 2, none⟩ (.int .i64 fv)) g 40 #[.string ⟨nm.toArray⟩, .int .i64 v, .int .i64 fv, .int .i64 0, .bool hs]) := by
    have := HG5.out.set_ 2 (.int .i64 fv)
    show Blk _ _ _ _
    simpa using this
  have hne : w.heap.size ≠ g := by
    intro hx
    have h1 := HK5.out
    have h2 := HG5.out
    rw [hx] at h1
    exact absurd hx (HNE.out)
  have HKS : Hid (Blk (w5.setCell ⟨g, 2, none⟩ (.int .i64 fv)) w.heap.size 40 #[.string ⟨#[]⟩, .int .i64 0, .int .i64 0, .int .i64 0, .bool false]) := HK5.out.far (p := ⟨g, 2, none⟩) hne _
  obtain ⟨_, _, g2, _, _⟩ := row_cells HG5.out
  have gf := HG5.out.frozen
  go_wp2_with fail
  clear g2 gf
  refine (atoi_yes T1 tv _ HFT.out hl2).mono ?_
  rintro e w6 ⟨rfl, hb6⟩
  have hb46 := below_two HBS.out hb6
  have HG6 := Lib.hid (HGS.out.below hb6 HGS.out.lt)
  have HK6 := Lib.hid (HKS.out.below hb6 HKS.out.lt)
  clear hb6
  obtain ⟨_, _, _, g3, _⟩ := row_cells HG6.out
  have gf := HG6.out.frozen
  have HB7 : Hid (Below w.heap.size w (w6.setCell ⟨g, 3, none⟩ (.int .i64 tv))) := hb46.setCell (p := ⟨g, 3, none⟩) hgw _
  have HG7 : Hid (Blk (w6.setCell ⟨g, 3, none⟩ (.int .i64 tv)) g 40 #[.string ⟨nm.toArray⟩, .int .i64 v, .int .i64 fv, .int .i64 tv, .bool hs]) := by
    have := HG6.out.set_ 3 (.int .i64 tv)
    show Blk _ _ _ _
    simpa using this
  have HK7 : Hid (Blk (w6.setCell ⟨g, 3, none⟩ (.int .i64 tv)) w.heap.size 40 #[.string ⟨#[]⟩, .int .i64 0, .int .i64 0, .int .i64 0, .bool false]) := HK6.out.far (p := ⟨g, 3, none⟩) hne _
  clear hb45 hb46
  go_wp2_with fail
  clear g3 gf
  generalize w6.setCell ⟨g, 3, none⟩ (.int .i64 tv) = wz at *
  obtain ⟨z0, z1, z2, z3, z4⟩ := row_cells HG7.out
  obtain ⟨c0, c1, c2, c3, c4⟩ := row_cells HK7.out
  have fz := HK7.out.frozen
  have HP : Hid (∀ w', w'.heap = wz.heap → Below w.heap.size w w' → Calls Tryd.prog 20 #[.agg #[.string ⟨nm.toArray⟩, .int .i64 v, .int .i64 fv, .int .i64 tv, .bool hs]] w' fun e w'' => e = .returned (.string ⟨(lineL ⟨nm, v, fv, tv, hs⟩).toArray⟩) ∧ Below w.heap.size w w'' ∧ Blk w'' g 40 #[.string ⟨nm.toArray⟩, .int .i64 v, .int .i64 fv, .int .i64 tv, .bool hs] ∧ Blk w'' w.heap.size 40 #[.string ⟨#[]⟩, .int .i64 0, .int .i64 0, .int .i64 0, .bool false]) := by
    show ∀ _, _
    intro w' hh hb
    refine (line_any ⟨nm, v, fv, tv, hs⟩ w' (hE.after hb) v1 v2 f1 f2 t1 t2 (by simp only []; omega)).mono ?_
    rintro e w'' ⟨rfl, h9⟩
    have k1 : Blk w' g 40 #[.string ⟨nm.toArray⟩, .int .i64 v, .int .i64 fv, .int .i64 tv, .bool hs] := by unfold Blk; rw [hh]; exact HG7.out
    have k2 : Blk w' w.heap.size 40 #[.string ⟨#[]⟩, .int .i64 0, .int .i64 0, .int .i64 0, .bool false] := by unfold Blk; rw [hh]; exact HK7.out
    exact ⟨rfl, below_two hb h9, k1.below h9 k1.lt, k2.below h9 k2.lt⟩
  generalize hL : lineL ⟨nm, v, fv, tv, hs⟩ = L at *
  have HLL := Lib.hid hL
  clear hL
  have hq : (L == l) = true := HQV.out
  have HQ := Lib.hid hq
  go_region_with (go_at_call 20; refine (HP.out _ (by rfl) (by exact below_same HB7.out rfl rfl rfl rfl)).mono ?_; rintro e w8 ⟨rfl, hb8, kg, kz⟩; obtain ⟨y0, y1, y2, y3, y4⟩ := row_cells kg; obtain ⟨x0, x1, x2, x3, x4⟩ := row_cells kz; have fy := kz.frozen)
  all_goals
      go_wp2_with fail
      refine bodyPost_ret (read_result (set_row (by assumption)) rfl rfl) rfl (says_eq (by rw [HLL.out]; exact HQ.out) F.out (by simp only []; omega) (set_row_below (by assumption) (Nat.le_refl _)))
end Go.Proofs.YtfiindecponeoaaDoor
