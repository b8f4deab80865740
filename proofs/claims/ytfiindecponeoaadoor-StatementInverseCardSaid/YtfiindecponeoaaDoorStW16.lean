/-
  The reference's Parse.
-/
import Derived.Test.YtfiindecponeoaaDoorStW15
import Derived.Test.YtfiindecponeoaaDoorStW13
namespace Go.Proofs.YtfiindecponeoaaDoor
open Go.RowKit
set_option linter.unusedVariables false
theorem idx_first {b : Int} {t rest : List UInt8} {r : SRow} (h : okRow b r = true) (e : t = lineL r ++ 10 :: rest) : idxL t 10 = (lineL r).length ∧ t.take (idxL t 10) = lineL r := by
  have h1 : idxL t 10 = (lineL r).length := by rw [e]; exact idxL_at (line_no10 h)
  exact ⟨h1, by rw [h1, e]; simp⟩
theorem rrd_name {l : List UInt8} (h : l.length ≤ 2000) : (rrd l).name.length ≤ 2000 := by
  unfold rrd
  split
  · simp
  · unfold rrd1
    split
    · simp only [List.length_take, List.length_drop]; omega
    · unfold rrd2
      split <;> (unfold rrd3; simp only [List.length_take, List.length_drop]; omega)
set_option maxRecDepth 100000 in
set_option maxHeartbeats 8000000 in
theorem refParse_any (s : List UInt8) (w : World) (hs2 : s.length ≤ 2000) :
    Calls Tryd.prog 17 #[.string ⟨s.toArray⟩] w (ParseSays s w) := by
  obtain ⟨i0, hi0, hz0, hz1, hz2⟩ := info_parts info_row
  go_enter Tryd.func17, Tryd.ntmps17
  go_wp2_with fail
  go_loopw [0, 5, 6] (fun z v bf wr => ∃ (acc : List SRow) (t : List UInt8), z = .string ⟨t.toArray⟩ ∧ bf = .int .i64 (lvE acc) ∧ t.length ≤ 2000 ∧ acc.length ≤ 300 ∧ validF (-1) acc = true ∧ (∀ o i e, PzR acc t o i e → PzR [] s o i e) ∧ wr.ownsRow w.heap.size 40 5 v acc.length (rowsCells acc) ∧ Below w.heap.size w wr) (fun z _ _ _ => strLen z)
  case atStart => exact ⟨[], s, rfl, rfl, hs2, by simp, rfl, fun o i e h => h, World.ownsRow_nil _ _ _ _, Below.refl _ _⟩
  case round =>
    obtain ⟨acc, t, rfl, rfl, htl, hal, hv, hG, hown, hbr⟩ := hrel
    obtain ⟨wo, rfl⟩ : ∃ wo : World, wo = wr := ⟨_, rfl⟩
    have HV := Lib.hid hv
    have HG := Lib.hid hG
    obtain ⟨A, c, rfl⟩ := own_slice hown
    have HO := Lib.hid hown
    have HBR := Lib.hid hbr
    have hlb := lvl_bd (rs := acc) (Nat.le_refl _) (by rwa [List.take_length])
    have l1 : -1 ≤ lvE acc := hlb.2.1
    have l2 : lvE acc ≤ 9 := hlb.2.2
    clear hv hG hown hbr hlb
    by_cases htn : t = []
    · have d0 : decide ((0 : Int) < (t.length : Int)) = false := by rw [decide_eq_false_iff_not, htn]; simp
      have d0' : decide (0 < t.length) = false := by rw [decide_eq_false_iff_not, htn]; simp
      have F : Hid (PzR [] s acc 0 0) := HG.out _ _ _ (by rw [htn]; exact .done acc)
      clear htn
      generalize lvE acc = bl at *
      go_wp2_with fail
      go_ret3
      exact ⟨_, acc, 0, 0, rfl, F.out, HO.out, HBR.out⟩
    · have htp : 0 < t.length := by cases t with
        | nil => exact absurd rfl htn
        | cons a r => simp
      have d0 : decide ((0 : Int) < (t.length : Int)) = true := by rw [decide_eq_true_eq]; omega
      have d0' : decide (0 < t.length) = true := by rw [decide_eq_true_eq]; omega
      have HTN := Lib.hid htn
      clear htn
      by_cases h300 : acc.length = 300
      · have F : Hid (PzR [] s [] 300 6) := HG.out _ _ _ (.full HTN.out h300)
        have h3b : ((acc.length : Int) == 300) = true := by rw [beq_iff_eq]; omega
        have H3 := Lib.hid h300
        clear h300
        generalize lvE acc = bl at *
        go_wp2_with fail
        go_ret3
        exact parse_nil F.out HBR.out
      have h3b : ((acc.length : Int) == 300) = false := by rw [beq_eq_false_iff_ne]; omega
      have H3 := Lib.hid h300
      clear h300
      have hkle := idxL_le t 10
      have hsp := @idxL_split t 10
      have HSP := Lib.hid hsp
      have HIF : Hid (∀ b r rest, okRow b r = true → t = lineL r ++ 10 :: rest → idxL t 10 = (lineL r).length ∧ t.take (idxL t 10) = lineL r) := fun b r rest h e => idx_first h e
      have HLT : Hid (∀ b r rest, okRow b r = true → t = lineL r ++ 10 :: rest → idxL t 10 < t.length) := fun b r rest h e => by rw [(idx_first h e).1, e]; simp
      have HIX := Lib.hid (index_any t 10 10 rfl wo htl)
      clear hsp
      generalize hbl : lvE acc = bl at *
      have HBL := Lib.hid hbl
      clear hbl
      generalize idxL t 10 = k at *
      have x1 : (⟨t.toArray⟩ : ByteArray).extract 0 k = ⟨(t.take k).toArray⟩ := by rw [ex_mk]; simp
      have x2 : ∀ a n, a = k + 1 → n = t.length → (⟨t.toArray⟩ : ByteArray).extract a n = ⟨(t.drop (k + 1)).toArray⟩ := by
        intro a n ha hn
        rw [ex_mk, hn, ha, List.take_length]
      have X2 := Lib.hid x2
      clear x2
      have y1 : (k : Int) ≤ (t.length : Int) := by omega
      have hfl : (t.take k).length ≤ 2000 := by rw [List.length_take]; omega
      have HRR : Hid (∀ b r, okRow b r = true → rrd (lineL r) = r) := fun b r h => rrd_line h
      have HNX : Hid ((rrd (t.take k)).name.length ≤ 2000) := by
        show _ ≤ _
        exact rrd_name hfl
      go_wp2_with fail
      refine HIX.out.mono ?_
      rintro e wx ⟨rfl, rfl⟩
      clear HIX
      go_wp2_with fail
      refine (refRead_any (t.take k) _ hfl).mono ?_
      rintro e w2 ⟨rfl, hb2⟩
      have HB2 := Lib.hid (below_two HBR.out hb2)
      have HO2 := Lib.hid (own_below HO.out hb2)
      clear hb2
      have hsz2 : w.heap.size ≤ w2.heap.size := HB2.out.size
      have hcap := own_cap HO2.out
      generalize hx : rrd (t.take k) = x at *
      have HX := Lib.hid hx
      clear hx
      have HBA := Lib.hid (HB2.out.alloc hsz2 (.cells (rowArr x) 40))
      have HOA := Lib.hid (HO2.out.alloc (.cells (rowArr x) 40))
      have HKA := Lib.hid (Blk.new w2 40 (rowArr x))
      have HRO := Lib.hid (row_one x)
      have HSN := Lib.hid (rowsCells_snoc acc x)
      have HLS := Lib.hid (lvE_snoc acc x)
      have HNB : Hid (∀ q, (Value.slice A acc.length c).ownBlock = some q → q < w2.heap.size) := own_lt HO2.out
      generalize hT : t.take k = first at *
      have HT := Lib.hid hT
      clear hT
      by_cases hkl : k < t.length
      · have hq : ((k : Int) == (t.length : Int)) = false := by rw [beq_eq_false_iff_ne]; omega
        cases hok : okRow bl x
        · have F : Hid (PzR [] s [] acc.length 3) := HG.out _ _ _ (.bad HTN.out H3.out (fun r0 rest0 h1 h2 => by
            have h3 := (HIF.out _ _ _ h1 h2).2
            have h4 := HRR.out _ _ h1
            rw [← h3, HX.out] at h4
            subst h4
            rw [HBL.out, hok] at h1
            cases h1))
          have HOK := Lib.hid hok
          clear hok HIF HLT HSP HRR HX HG
          obtain ⟨nm, lv, fr, to_, ng⟩ := x
          unfold rowV rowArr at *
          go_wp2_with fail
          have hgz : w2.heap.size < (w2.alloc (.cells #[.string ⟨nm.toArray⟩, .int .i64 lv, .int .i64 fr, .int .i64 to_, .bool ng] 40)).heap.size := by simp
          generalize w2.alloc (.cells #[.string ⟨nm.toArray⟩, .int .i64 lv, .int .i64 fr, .int .i64 to_, .bool ng] 40) = wz at *
          generalize w2.heap.size = g at *
          obtain ⟨z0, z1, z2, z3, z4⟩ := row_cells HKA.out
          have HP0 : Hid (∀ w', Calls Tryd.prog 24 #[.agg #[.string ⟨nm.toArray⟩, .int .i64 lv, .int .i64 fr, .int .i64 to_, .bool ng], .int .i64 bl] w' fun e w'' => e = .returned (.bool false) ∧ Below w'.heap.size w' w'') := by
            show ∀ _, _
            intro w'
            refine (refProper_any bl ⟨nm, lv, fr, to_, ng⟩ w' l1 l2 (by have := HNX.out; simp only [] at this ⊢; omega)).mono ?_
            rintro e w'' ⟨rfl, h9⟩
            exact ⟨by rw [HOK.out], h9⟩
          first
            | go_region_with (go_at_call 24; refine (HP0.out _).mono ?_; rintro e w3 ⟨rfl, hb3⟩)
            | done
          all_goals
            have hb4 : Below w.heap.size w w3 := by
              refine below_two ?_ hb3
              exact below_same HBA.out rfl rfl rfl rfl
            go_wp2_with fail
            go_ret3
            exact parse_nil F.out (by first | assumption | exact Below.drew (by assumption))
        · have HOK := Lib.hid hok
          have HPS : Hid ((lineL x == first) = false → PzR [] s [] acc.length 3) := fun hne => HG.out _ _ _ (.bad HTN.out H3.out (fun r0 rest0 h1 h2 => by
            have h3 := (HIF.out _ _ _ h1 h2).2
            have h4 := HRR.out _ _ h1
            rw [← h3, HX.out] at h4
            rw [h4, ← h3, beq_eq_false_iff_ne] at hne
            exact hne rfl))
          have HST : Hid ((lineL x == first) = true → ∀ o i e, PzR (acc ++ [x]) (t.drop (k + 1)) o i e → PzR [] s o i e) := fun he o i e h => HG.out _ _ _ (.step H3.out (by rw [HBL.out]; exact HOK.out) (by rw [eq_of_beq he]; exact (HSP.out hkl).1) h)
          have HVS := Lib.hid (validF_snoc HV.out (show okRow (lvE acc) x = true from by rw [HBL.out]; exact hok))
          have hbd := okRow_bds hok
          have HBD := Lib.hid hbd
          clear hok HIF HLT HSP HRR HX HG hbd
          have HPX : ∀ w', Calls Tryd.prog 24 #[rowV x, .int .i64 bl] w' fun e w'' => e = .returned (.bool true) ∧ Below w'.heap.size w' w'' := by
            intro w'
            refine (refProper_any bl x w' l1 l2 (by have := HNX.out; omega)).mono ?_
            rintro e w'' ⟨rfl, h9⟩
            exact ⟨by rw [HOK.out], h9⟩
          have HLX : ∀ w', Calls Tryd.prog 22 #[rowV x] w' fun e w'' => e = .returned (.string ⟨(lineL x).toArray⟩) ∧ Below w'.heap.size w' w'' := by
            intro w'
            have := HBD.out
            exact refLine_any x w' (by omega) (by omega) (by omega) (by omega) (by omega) (by omega) (by omega)
          have HP0 := Lib.hid HPX
          have HL0 := Lib.hid HLX
          clear HPX HLX
          generalize hL : lineL x = L at *
          have HLL := Lib.hid hL
          clear hL
          obtain ⟨nm, lv, fr, to_, ng⟩ := x
          unfold rowV rowArr at *
          go_wp2_with fail
          have hgz : w2.heap.size < (w2.alloc (.cells #[.string ⟨nm.toArray⟩, .int .i64 lv, .int .i64 fr, .int .i64 to_, .bool ng] 40)).heap.size := by simp
          generalize w2.alloc (.cells #[.string ⟨nm.toArray⟩, .int .i64 lv, .int .i64 fr, .int .i64 to_, .bool ng] 40) = wz at *
          generalize w2.heap.size = g at *
          obtain ⟨z0, z1, z2, z3, z4⟩ := row_cells HKA.out
          have HP : Hid (∀ w', w'.heap = wz.heap → Below wz.heap.size wz w' → Calls Tryd.prog 24 #[.agg #[.string ⟨nm.toArray⟩, .int .i64 lv, .int .i64 fr, .int .i64 to_, .bool ng], .int .i64 bl] w' fun e w'' => e = .returned (.bool true) ∧ Below wz.heap.size wz w'' ∧ Blk w'' g 40 #[.string ⟨nm.toArray⟩, .int .i64 lv, .int .i64 fr, .int .i64 to_, .bool ng]) := by
            show ∀ _, _
            intro w' hh hb
            refine (HP0.out w').mono ?_
            rintro e w'' ⟨rfl, h9⟩
            have hz := below_two hb h9
            exact ⟨rfl, hz, HKA.out.below hz hgz⟩
          have HP2 : Hid (∀ w', Below wz.heap.size wz w' → Calls Tryd.prog 22 #[.agg #[.string ⟨nm.toArray⟩, .int .i64 lv, .int .i64 fr, .int .i64 to_, .bool ng]] w' fun e w'' => e = .returned (.string ⟨L.toArray⟩) ∧ Below wz.heap.size wz w'' ∧ Blk w'' g 40 #[.string ⟨nm.toArray⟩, .int .i64 lv, .int .i64 fr, .int .i64 to_, .bool ng]) := by
            show ∀ _, _
            intro w' hb
            refine (HL0.out w').mono ?_
            rintro e w'' ⟨rfl, h9⟩
            have hz := below_two hb h9
            exact ⟨rfl, hz, HKA.out.below hz hgz⟩
          have HWZ : Hid (Below wz.heap.size wz wz) := Below.refl _ _
          cases he : (L == first)
          · have F := Lib.hid (HPS.out he)
            have hne : (L != first) = true := by rw [bne, he]; rfl
            have hnl : ¬ L = first := by rw [beq_eq_false_iff_ne] at he; exact he
            clear HPS HST
            first
            | go_region_with (first
              | (go_at_call 24; refine (HP.out _ (by rfl) (by exact below_same HWZ.out rfl rfl rfl rfl)).mono ?_; rintro e w3 ⟨rfl, hb3, kg⟩; obtain ⟨y0, y1, y2, y3, y4⟩ := row_cells kg)
              | (go_at_call 22; refine (HP2.out _ (by first | exact hb3 | exact below_same hb3 rfl rfl rfl rfl)).mono ?_; rintro e w5 ⟨rfl, hb5, kg5⟩))
            | done
            all_goals
              go_wp2_with fail
              go_ret3
              exact parse_nil F.out (by first | exact HBA.out.trans (Below.mono (by assumption) (by have := HBA.out.size; omega)) | exact HBA.out.trans (Below.mono (Below.drew (by assumption)) (by have := HBA.out.size; omega)))
          · have G := Lib.hid (HST.out he)
            obtain rfl : L = first := eq_of_beq he
            have hne : (L != L) = false := by simp
            clear he HPS HST
            first
            | go_region_with (first
              | (go_at_call 24; refine (HP.out _ (by rfl) (by exact below_same HWZ.out rfl rfl rfl rfl)).mono ?_; rintro e w3 ⟨rfl, hb3, kg⟩; obtain ⟨y0, y1, y2, y3, y4⟩ := row_cells kg)
              | (go_at_call 22; refine (HP2.out _ (by first | exact hb3 | exact below_same hb3 rfl rfl rfl rfl)).mono ?_; rintro e w5 ⟨rfl, hb5, kg5⟩; obtain ⟨v0, v1, v2, v3, v4⟩ := row_cells kg5))
            | done
            all_goals
              have hb6 : Below w.heap.size w w5 := HBA.out.trans (hb5.mono HBA.out.size)
              have HO5 := Lib.hid (own_below HOA.out hb5)
              have hs5 : w.heap.size ≤ w5.heap.size := hb6.size
              go_wp2_with (at_builtin; refine wpList_append_any _ rfl (.tmp 41) (.tmp 43) _ rfl w.heap.size 40 i0 _ 5 48 Tryd.underlying22 hi0 hz0 hz1 hz2 rfl (by omega) _ acc.length (rowsCells acc) rfl (HO5.out.alloc _) (w5.heap.size + 1) (some ⟨w5.heap.size, 0, none⟩) 1 1 (rowCells ⟨nm, lv, fr, to_, ng⟩) rfl (reads_one w5 #[.string ⟨nm.toArray⟩, .int .i64 lv, .int .i64 fr, .int .i64 to_, .bool ng] 40 5 rfl) HRO.out (by simp only [maxLen]; omega) (by omega) (by simp only [World.size_alloc]; omega) ?_; intro v6 w6 hown6 hg6 hat6)
              have hk6 := (kg5.alloc (.cells #[.string ⟨nm.toArray⟩, .int .i64 lv, .int .i64 fr, .int .i64 to_, .bool ng] 40)).grown hg6 (fun e => by have := HNB.out g e.symm; omega)
              have hb7 := (hb6.alloc hs5 (.cells #[.string ⟨nm.toArray⟩, .int .i64 lv, .int .i64 fr, .int .i64 to_, .bool ng] 40)).grown hg6 (by simp only [World.size_alloc]; omega) (own_base HO5.out)
              obtain ⟨q0, q1, q2, q3, q4⟩ := row_cells hk6
              have HO6 := Lib.hid hown6
              have x2 := X2.out
              have r1 : IntKind.i64.wrap ((k : Int) + 1) = (k : Int) + 1 := IntWalk.i64_in _ (by omega)
              have r2 : (0 : Int) ≤ (k : Int) + 1 := by omega
              have r3 : ((k : Int) + 1).toNat = k + 1 := by omega
              have r4 : (k : Int) + 1 ≤ (t.length : Int) := by omega
              have r5 : k + 1 ≤ t.length := by omega
              clear hown6 hk6 z0 z1 z2 z3 z4
              go_wp2_with fail
              go_quiet (fail)
              go_wp2_with fail
              refine ⟨⟨acc ++ [⟨nm, lv, fr, to_, ng⟩], t.drop (k + 1), rfl, by rw [HLS.out], by rw [List.length_drop]; omega, by rw [List.length_append]; simp; have := H3.out; omega, HVS.out, G.out, ?_, below_drewN hb7 _⟩, ?_⟩
              · rw [HSN.out, List.length_append]
                exact own_below HO6.out (below_drewN (Below.refl _ _) _)
              · simp only [strLen_mk, List.length_drop]
                omega
      · have F : Hid (PzR [] s [] acc.length 3) := HG.out _ _ _ (.bad HTN.out H3.out (fun r0 rest0 h1 h2 => hkl (HLT.out _ _ _ h1 h2)))
        have hq : ((k : Int) == (t.length : Int)) = true := by rw [beq_iff_eq]; omega
        clear HIF HLT HSP HRR HX HG hkl
        obtain ⟨nm, lv, fr, to_, ng⟩ := x
        unfold rowV rowArr at *
        go_wp2_with fail
        go_quiet (fail)
        go_wp2_with fail
        go_ret3
        exact parse_nil F.out (below_drewN HBA.out _)
end Go.Proofs.YtfiindecponeoaaDoor
