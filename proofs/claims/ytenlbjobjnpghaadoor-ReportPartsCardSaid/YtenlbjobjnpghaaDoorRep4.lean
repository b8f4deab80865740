/-
  The reference's Make.
-/
import Derived.Test.YtenlbjobjnpghaaDoorRep3
namespace Go.Proofs.YtenlbjobjnpghaaDoor
open Go.RowKit
set_option linter.unusedVariables false
theorem line_cells {w : World} {g : Nat} {T : TypeId} {a b c d e f : Value} (h : Blk w g T #[a, b, c, d, e, f]) :
    w.cell? ⟨g, 0, none⟩ = some a ∧ w.cell? ⟨g, 1, none⟩ = some b ∧ w.cell? ⟨g, 2, none⟩ = some c ∧ w.cell? ⟨g, 3, none⟩ = some d ∧ w.cell? ⟨g, 4, none⟩ = some e ∧ w.cell? ⟨g, 5, none⟩ = some f :=
  ⟨h.cell 0, h.cell 1, h.cell 2, h.cell 3, h.cell 4, h.cell 5⟩
theorem set_line5 {w : World} {g : Nat} {T : TypeId} {a b c d e f f' : Value} (h : Blk w g T #[a, b, c, d, e, f]) : Blk (w.setCell ⟨g, 5, none⟩ f') g T #[a, b, c, d, e, f'] := by
  have := h.set_ 5 f'
  simpa using this
theorem own_setCell {w : World} {base n size : Nat} {e : TypeId} {v : Value} {xs : List Value} (h : w.ownsRow base e size v n xs) {p : Addr} (hne : v.ownBlock ≠ some p.block) (u : Value) : (w.setCell p u).ownsRow base e size v n xs :=
  h.kept (row := some p.block) ⟨rfl, rfl, rfl, by simp [World.setCell], fun k _ hk => Below.heap_setCell _ _ _ _ (fun e => hk (by simp [e]))⟩ (Or.inr hne)
set_option maxRecDepth 100000 in
set_option maxHeartbeats 8000000 in
theorem refMake_any (bs : List SBal) (rs : List SRow) (A A' : Option Addr) (n c n' c' : Nat) (B : Nat) (w : World) (hr : Reads w B 2 A n (balsCells bs)) (hr' : Reads w B 5 A' n' (rowsCells rs)) (hB : B ≤ w.heap.size) (hn : n ≤ 200) (hs : smallB bs) (hn63 : n' ≤ 9223372036854775807) (hnm : ∀ r ∈ rs, r.name.length ≤ 3000) :
    Calls Tryd.prog 12 #[resV A n c, .slice A' n' c'] w (MakeSays bs rs 65 w) := by
  obtain ⟨i0, hi0, hz0, hz1, hz2⟩ := info_parts info_rline
  unfold resV
  have hb1 := (Below.refl w.heap.size w).alloc (Nat.le_refl _) (.cells #[.int .i64 0, .slice none 0 0, .slice none 0 0, .slice A n c] 33)
  have HKR := Lib.hid (Blk.new w 33 #[.int .i64 0, .slice none 0 0, .slice none 0 0, .slice A n c])
  have HL := Lib.hid (rows_len hr')
  have HR := Lib.hid hr
  have HR' := Lib.hid hr'
  have HS := Lib.hid hs
  have hlb : bs.length ≤ 200 := by rw [bals_len hr]; exact hn
  have HV := Lib.hid (refValid_any rs A' n' c' B (w.alloc (.cells #[.int .i64 0, .slice none 0 0, .slice none 0 0, .slice A n c] 33)) (hr'.low hB (Nat.le_refl _) hb1) (by have := hb1.size; omega) hn63 hnm)
  have HB1 := Lib.hid hb1
  clear hr hr' hs hnm hb1
  cases hv : validR rs
  · have F := Lib.hid (mk_bad (bs := bs) hv)
    have HVF := Lib.hid hv
    clear hv
    go_enter Tryd.func12, Tryd.ntmps12
    go_wp2_with fail
    refine HV.out.mono ?_
    rintro e w1 ⟨rfl, hb⟩
    rw [HVF.out]
    go_wp2_with fail
    go_ret2
    exact make_none F.out (below_two HB1.out hb)
  · have hn3 : n' ≤ 300 := by
      have := HL.out
      unfold validR at hv
      rw [Bool.and_eq_true, decide_eq_true_eq] at hv
      omega
    have HVF := Lib.hid hv
    clear hv
    go_enter Tryd.func12, Tryd.ntmps12
    go_wp2_with fail
    refine HV.out.mono ?_
    rintro e w1 ⟨rfl, hb⟩
    rw [HVF.out]
    have HB2 := Lib.hid (below_two HB1.out hb)
    have HK1 := Lib.hid (HKR.out.below hb (by simp))
    have hw1 : w.heap.size < w1.heap.size := by have := hb.size; simp at this; omega
    clear hb
    go_wp2_with fail
    go_loopw [6, 7] (fun v i wr => ∃ k : Nat, k ≤ n' ∧ i = .int .i64 k ∧ mkOk bs (rs.take k) = true ∧ wr.ownsRow w1.heap.size 65 6 v k (linesCells ((rs.take k).map (lnR bs))) ∧ Below w1.heap.size w1 wr) (fun _ i _ => n' - (intOf i).toNat)
    case atStart => exact ⟨0, Nat.zero_le _, rfl, rfl, World.ownsRow_nil _ _ _ _, Below.refl _ _⟩
    case round =>
      obtain ⟨k, hk, rfl, hok, hown, hbr⟩ := hrel
      obtain ⟨wo, rfl⟩ : ∃ wo : World, wo = wr := ⟨_, rfl⟩
      have HOK := Lib.hid hok
      have HO := Lib.hid hown
      clear hok hown
      have hbw := below_two HB2.out hbr
      by_cases hlt : k < n'
      · have k3 : decide ((k : Int) < (n' : Int)) = true := by rw [decide_eq_true_eq]; omega
        have hkl : k < rs.length := by rw [HL.out]; exact hlt
        obtain ⟨ad, rfl, hab, c0, c1, c2, c3, c4⟩ := (HR'.out.low hB (Nat.le_refl _) hbw).row_at hlt
        have hokr := validF_lvl.1 (show validF (-1) rs = true from by have := HVF.out; unfold validR at this; rw [Bool.and_eq_true] at this; exact this.1) k hkl
        have hti : isTitle (rs.getD k default) = true → (rs.getD k default).neg = false := fun h => by
          unfold isTitle at h
          rw [decide_eq_true_eq] at h
          exact ((okRow_iff.1 hokr).2.2.1 h).2.2
        have HTI := Lib.hid hti
        have HMR : Hid (okAmt (amtR bs (rs.getD k default)) = false → mkE bs rs = 2 ∧ mkL bs rs = []) := fun h => mk_range HVF.out hkl h
        have HMS : Hid (okAmt (amtR bs (rs.getD k default)) = true → mkOk bs (rs.take (k + 1)) = true) := fun h => mkOk_step hkl HOK.out h
        have HLS := Lib.hid (lines_step (bs := bs) hkl)
        clear hokr hti
        generalize hrr : rs.getD k default = r at *
        have HRR := Lib.hid hrr
        clear hrr
        have HLO := Lib.hid (line_one (lnR bs r))
        have elr : lnR bs r = ⟨r, amtR bs r⟩ := rfl
        rw [elr] at HLS HLO
        clear elr
        have hfb := figL_all r.from_ r.to_ HS.out hlb
        have har : amtR bs r = if isTitle r then 0 else if r.neg then -(figL bs r.from_ r.to_) else figL bs r.from_ r.to_ := rfl
        obtain ⟨nm, lv, fr, to_, ng⟩ := r
        simp only [] at c0 c1 c2 c3 c4 hfb har HTI
        have hbo := hbr.alloc hbr.size (.cells #[.string ⟨nm.toArray⟩, .int .i64 lv, .int .i64 fr, .int .i64 to_, .bool ng, .int .i64 0] 65)
        have HKW := Lib.hid ((HK1.out.below hbr hw1).alloc (.cells #[.string ⟨nm.toArray⟩, .int .i64 lv, .int .i64 fr, .int .i64 to_, .bool ng, .int .i64 0] 65))
        have HKX := Lib.hid (Blk.new wo 65 #[.string ⟨nm.toArray⟩, .int .i64 lv, .int .i64 fr, .int .i64 to_, .bool ng, .int .i64 0])
        have HOA := Lib.hid (HO.out.alloc (.cells #[.string ⟨nm.toArray⟩, .int .i64 lv, .int .i64 fr, .int .i64 to_, .bool ng, .int .i64 0] 65))
        have HBO := Lib.hid hbo
        have hw0 : w.heap.size < wo.heap.size := by have := hbr.size; omega
        have hg1 : w1.heap.size ≤ wo.heap.size := hbr.size
        obtain ⟨ad3, e3, _, f0, f1, f2, f3, f4⟩ := (HR'.out.low hB (Nat.le_refl _) (below_two HB2.out hbo)).row_at hlt
        injection e3 with e3
        subst e3
        rw [HRR.out] at f0 f1 f2 f3 f4
        simp only [] at f0 f1 f2 f3 f4
        clear hbo hbw
        go_wp2_with fail
        refine (refTitle_any ⟨nm, lv, fr, to_, ng⟩ _).mono ?_
        rintro e w2 ⟨rfl, hb2⟩
        have HB4 := Lib.hid (below_two HBO.out hb2)
        have HB3 := Lib.hid (below_two HB2.out HB4.out)
        have HX := Lib.hid (HKX.out.below hb2 (by simp))
        have HW := Lib.hid (HKW.out.below hb2 (by simp; omega))
        have HO2 := Lib.hid (own_below HOA.out hb2)
        have HNB := Lib.hid (own_lt HO.out)
        have hgz : wo.heap.size < w2.heap.size := by have := hb2.size; simp at this; omega
        obtain ⟨ad2, e2, _, d0, d1, d2, d3, d4⟩ := (HR'.out.low hB (Nat.le_refl _) HB3.out).row_at hlt
        injection e2 with e2
        subst e2
        rw [HRR.out] at d0 d1 d2 d3 d4
        simp only [] at d0 d1 d2 d3 d4
        clear c0 c1 c2 c3 c4 hb2 f0 f1 f2 f3 f4
        generalize wo.heap.size = g at *
        obtain ⟨x0, x1, x2, x3, x4, x5⟩ := line_cells HX.out
        have q3 := HW.out.cell 3
        simp only [List.getElem?_toArray, List.getElem?_cons_zero, List.getElem?_cons_succ] at q3
        cases ht : isTitle ⟨nm, lv, fr, to_, ng⟩
        · rw [ht] at har
          simp only [Bool.false_eq_true, if_false] at har
          cases ng
          · skip
            have F9 : Hid (amtR bs ⟨nm, lv, fr, to_, false⟩ = figL bs fr to_) := by show _ = _; rw [har]; simp
            clear har
            rw [F9.out] at HMR HMS HLS HLO
            have HP : Hid (∀ w', w'.heap = w2.heap → Calls Tryd.prog 29 #[.slice A n c, .int .i64 fr, .int .i64 to_] w' fun e w'' => e = .returned (.int .i64 (figL bs fr to_)) ∧ w' = w'') := by
              show ∀ _, _
              intro w' hh
              exact refFigure_any bs A n c fr to_ B w' ((HR.out.low hB (Nat.le_refl _) HB3.out).of_heap hh) hn HS.out
            generalize figL bs fr to_ = fg at *
            have fz := HX.out.frozen
            have z1 := hfb.1
            have z2 := hfb.2
            have b1 : (k : Int) < (n' : Int) := by omega
            clear hfb
            go_wp2_with fail
            first
              | go_region_with (go_at_call 29; refine (HP.out _ (by rfl)).mono ?_; rintro e wx ⟨rfl, rfl⟩)
              | done
            all_goals
              have HX9 : Hid (Blk (w2.setCell ⟨g, 5, none⟩ (.int .i64 fg)).drew g 65 #[.string ⟨nm.toArray⟩, .int .i64 lv, .int .i64 fr, .int .i64 to_, .bool false, .int .i64 fg]) := set_line5 HX.out
              have HB9 : Hid (Below w1.heap.size w1 (w2.setCell ⟨g, 5, none⟩ (.int .i64 fg)).drew) := (HB4.out.setCell (p := ⟨g, 5, none⟩) hg1 _).drew
              have HO9 : Hid ((w2.setCell ⟨g, 5, none⟩ (.int .i64 fg)).drew.ownsRow w1.heap.size 65 6 _ k (linesCells ((rs.take k).map (lnR bs)))) := own_setCell (p := ⟨g, 5, none⟩) HO2.out (fun e => by have := HNB.out g e; omega) (.int .i64 fg)
              have HB39 := Lib.hid (below_two HB2.out HB9.out)
              obtain ⟨ad5, e5, _, v0, v1, v2, v3, v4⟩ := (HR'.out.low hB (Nat.le_refl _) HB39.out).row_at hlt
              injection e5 with e5
              subst e5
              rw [HRR.out] at v0 v1 v2 v3 v4
              simp only [] at v0 v1 v2 v3 v4
              clear d0 d1 d2 d3 d4 x0 x1 x2 x3 x4 x5 fz q3
              generalize (w2.setCell ⟨g, 5, none⟩ (.int .i64 fg)).drew = w9 at *
              obtain ⟨y0, y1, y2, y3, y4, y5⟩ := line_cells HX9.out
              have HB3 := HB39
              have HB4 := HB9
              have HO2 := HO9
              go_wp2_with fail
              refine (refAmt_any (fg) _).mono ?_
              rintro e wx ⟨rfl, rfl⟩
              cases ha : okAmt (fg)
              · have F := Lib.hid (HMR.out ha)
                clear ha HMR HMS
                go_wp2_with fail
                go_ret2
                exact make_none F.out HB3.out
              · have F := Lib.hid (HMS.out ha)
                clear ha HMR HMS
                go_wp2_with (at_builtin; refine wpList_append_any _ rfl (.tmp 56) (.tmp 58) _ rfl w1.heap.size 65 i0 _ 6 56 Tryd.underlying34 hi0 hz0 hz1 hz2 rfl (by omega) _ k (linesCells ((rs.take k).map (lnR bs))) rfl (HO2.out.alloc _) (w9.heap.size + 1) (some ⟨w9.heap.size, 0, none⟩) 1 1 (lineCells ⟨⟨nm, lv, fr, to_, false⟩, fg⟩) rfl (reads_one w9 #[.string ⟨nm.toArray⟩, .int .i64 lv, .int .i64 fr, .int .i64 to_, .bool false, .int .i64 fg] 65 6 rfl) HLO.out (by simp only [maxLen]; omega) (by omega) (by simp only [World.size_alloc]; have := HB4.out.size; omega) ?_; intro v4 w4 hown4 hg4 hat4)
                go_wp2_with fail
                refine ⟨⟨k + 1, by omega, by go_num, F.out, by rw [HLS.out]; exact hown4, ?_⟩, by simp [intOf]; omega⟩
                exact (HB4.out.alloc HB4.out.size _).grown hg4 (by simp only [World.size_alloc]; have := HB4.out.size; omega) (own_base HO2.out)
          · skip
            have F9 : Hid (amtR bs ⟨nm, lv, fr, to_, true⟩ = -(figL bs fr to_)) := by show _ = _; rw [har]; simp
            clear har
            rw [F9.out] at HMR HMS HLS HLO
            have HP : Hid (∀ w', w'.heap = w2.heap → Calls Tryd.prog 29 #[.slice A n c, .int .i64 fr, .int .i64 to_] w' fun e w'' => e = .returned (.int .i64 (figL bs fr to_)) ∧ w' = w'') := by
              show ∀ _, _
              intro w' hh
              exact refFigure_any bs A n c fr to_ B w' ((HR.out.low hB (Nat.le_refl _) HB3.out).of_heap hh) hn HS.out
            generalize figL bs fr to_ = fg at *
            have fz := HX.out.frozen
            have z1 := hfb.1
            have z2 := hfb.2
            have b1 : (k : Int) < (n' : Int) := by omega
            clear hfb
            go_wp2_with fail
            first
              | go_region_with (go_at_call 29; refine (HP.out _ (by rfl)).mono ?_; rintro e wx ⟨rfl, rfl⟩)
              | done
            all_goals
              have HX9 : Hid (Blk (w2.setCell ⟨g, 5, none⟩ (.int .i64 fg)).drew g 65 #[.string ⟨nm.toArray⟩, .int .i64 lv, .int .i64 fr, .int .i64 to_, .bool true, .int .i64 fg]) := set_line5 HX.out
              have HB9 : Hid (Below w1.heap.size w1 (w2.setCell ⟨g, 5, none⟩ (.int .i64 fg)).drew) := (HB4.out.setCell (p := ⟨g, 5, none⟩) hg1 _).drew
              have HO9 : Hid ((w2.setCell ⟨g, 5, none⟩ (.int .i64 fg)).drew.ownsRow w1.heap.size 65 6 _ k (linesCells ((rs.take k).map (lnR bs)))) := own_setCell (p := ⟨g, 5, none⟩) HO2.out (fun e => by have := HNB.out g e; omega) (.int .i64 fg)
              have HB39 := Lib.hid (below_two HB2.out HB9.out)
              obtain ⟨ad5, e5, _, v0, v1, v2, v3, v4⟩ := (HR'.out.low hB (Nat.le_refl _) HB39.out).row_at hlt
              injection e5 with e5
              subst e5
              rw [HRR.out] at v0 v1 v2 v3 v4
              simp only [] at v0 v1 v2 v3 v4
              clear d0 d1 d2 d3 d4 x0 x1 x2 x3 x4 x5 fz q3
              generalize (w2.setCell ⟨g, 5, none⟩ (.int .i64 fg)).drew = w9 at *
              obtain ⟨y0, y1, y2, y3, y4, y5⟩ := line_cells HX9.out
              have fz9 := HX9.out.frozen
              have HX10 : Hid (Blk (w9.setCell ⟨g, 5, none⟩ (.int .i64 (-fg))) g 65 #[.string ⟨nm.toArray⟩, .int .i64 lv, .int .i64 fr, .int .i64 to_, .bool true, .int .i64 (-fg)]) := set_line5 HX9.out
              have HB4 : Hid (Below w1.heap.size w1 (w9.setCell ⟨g, 5, none⟩ (.int .i64 (-fg)))) := HB9.out.setCell (p := ⟨g, 5, none⟩) hg1 _
              have HO2 : Hid ((w9.setCell ⟨g, 5, none⟩ (.int .i64 (-fg))).ownsRow w1.heap.size 65 6 _ k (linesCells ((rs.take k).map (lnR bs)))) := own_setCell (p := ⟨g, 5, none⟩) HO9.out (fun e => by have := HNB.out g e; omega) (.int .i64 (-fg))
              have HB3 := Lib.hid (below_two HB2.out HB4.out)
              go_wp2_with fail
              clear y0 y1 y2 y3 y4 y5 fz9
              generalize w9.setCell ⟨g, 5, none⟩ (.int .i64 (-fg)) = w10 at *
              obtain ⟨y0, y1, y2, y3, y4, y5⟩ := line_cells HX10.out
              refine (refAmt_any ((-fg)) _).mono ?_
              rintro e wx ⟨rfl, rfl⟩
              cases ha : okAmt ((-fg))
              · have F := Lib.hid (HMR.out ha)
                clear ha HMR HMS
                go_wp2_with fail
                go_ret2
                exact make_none F.out HB3.out
              · have F := Lib.hid (HMS.out ha)
                clear ha HMR HMS
                go_wp2_with (at_builtin; refine wpList_append_any _ rfl (.tmp 56) (.tmp 58) _ rfl w1.heap.size 65 i0 _ 6 56 Tryd.underlying34 hi0 hz0 hz1 hz2 rfl (by omega) _ k (linesCells ((rs.take k).map (lnR bs))) rfl (HO2.out.alloc _) (w10.heap.size + 1) (some ⟨w10.heap.size, 0, none⟩) 1 1 (lineCells ⟨⟨nm, lv, fr, to_, true⟩, (-fg)⟩) rfl (reads_one w10 #[.string ⟨nm.toArray⟩, .int .i64 lv, .int .i64 fr, .int .i64 to_, .bool true, .int .i64 (-fg)] 65 6 rfl) HLO.out (by simp only [maxLen]; omega) (by omega) (by simp only [World.size_alloc]; have := HB4.out.size; omega) ?_; intro v4 w4 hown4 hg4 hat4)
                go_wp2_with fail
                refine ⟨⟨k + 1, by omega, by go_num, F.out, by rw [HLS.out]; exact hown4, ?_⟩, by simp [intOf]; omega⟩
                exact (HB4.out.alloc HB4.out.size _).grown hg4 (by simp only [World.size_alloc]; have := HB4.out.size; omega) (own_base HO2.out)
        · rw [ht] at har
          have hng := HTI.out ht
          simp only [if_true] at har
          subst hng
          rw [har] at HMR HMS HLS HLO
          clear har
          go_wp2_with fail
          refine (refAmt_any (0) _).mono ?_
          rintro e wx ⟨rfl, rfl⟩
          cases ha : okAmt (0)
          · have F := Lib.hid (HMR.out ha)
            clear ha HMR HMS
            go_wp2_with fail
            go_ret2
            exact make_none F.out HB3.out
          · have F := Lib.hid (HMS.out ha)
            clear ha HMR HMS
            go_wp2_with (at_builtin; refine wpList_append_any _ rfl (.tmp 56) (.tmp 58) _ rfl w1.heap.size 65 i0 _ 6 56 Tryd.underlying34 hi0 hz0 hz1 hz2 rfl (by omega) _ k (linesCells ((rs.take k).map (lnR bs))) rfl (HO2.out.alloc _) (w2.heap.size + 1) (some ⟨w2.heap.size, 0, none⟩) 1 1 (lineCells ⟨⟨nm, lv, fr, to_, false⟩, 0⟩) rfl (reads_one w2 #[.string ⟨nm.toArray⟩, .int .i64 lv, .int .i64 fr, .int .i64 to_, .bool false, .int .i64 0] 65 6 rfl) HLO.out (by simp only [maxLen]; omega) (by omega) (by simp only [World.size_alloc]; have := HB4.out.size; omega) ?_; intro v4 w4 hown4 hg4 hat4)
            go_wp2_with fail
            refine ⟨⟨k + 1, by omega, by go_num, F.out, by rw [HLS.out]; exact hown4, ?_⟩, by simp [intOf]; omega⟩
            exact (HB4.out.alloc HB4.out.size _).grown hg4 (by simp only [World.size_alloc]; have := HB4.out.size; omega) (own_base HO2.out)
      · have k3 : decide ((k : Int) < (n' : Int)) = false := by rw [decide_eq_false_iff_not]; omega
        have hkn : k = rs.length := by rw [HL.out]; omega
        have hok := HOK.out
        have hown := HO.out
        rw [hkn] at hok hown
        rw [List.take_length] at hown
        have F := Lib.hid (mk_good HVF.out hok)
        have HO1 := Lib.hid hown
        clear hok hown HO HOK hkn
        go_wp2_with fail
        go_ret2
        exact make_some F.out (own_mono HO1.out (by omega)) hbw
end Go.Proofs.YtenlbjobjnpghaaDoor
