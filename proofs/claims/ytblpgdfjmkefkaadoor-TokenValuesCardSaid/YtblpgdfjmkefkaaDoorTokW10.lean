/-
  The reference's Tokens.
-/
import Derived.Test.YtblpgdfjmkefkaaDoorTokW9
namespace Go.Proofs.YtblpgdfjmkefkaaDoor
open Go.RowKit
set_option linter.unusedVariables false
theorem info_rtok : (Tryd.prog.info? 40).map (fun i => (i.zero, i.size, i.bytes)) = some (some (.agg #[.int .i64 0, .string ⟨#[]⟩, .int .i64 0]), 3, 32) := by kernel_rfl
section
variable {L : List UInt8} {acc : List Tok} {f a p n : Nat} {kd : Int} {R : TR}
theorem glue_syn' (h : glue acc (tkE (f + 1) (L.drop a) a) = R) (hs : p = a + skipL false (L.drop a)) (hk : p < L.length) (hn : (nextL (L.drop p)).1 = 0) : R = .error ((p : Nat), 3) := by
  subst hs; exact glue_syn h rfl hk hn
theorem glue_lim' (h : glue acc (tkE (f + 1) (L.drop a) a) = R) (hs : p = a + skipL false (L.drop a)) (hk : p < L.length) (hn : nextL (L.drop p) = (kd, n)) (h0 : kd ≠ 0)
    (hb : badTok kd ((L.drop p).take n) = true) : R = .error ((p : Nat), 6) := by
  subst hs; exact glue_lim h rfl hk hn h0 hb
theorem glue_tok' (h : glue acc (tkE (f + 1) (L.drop a) a) = R) (hs : p = a + skipL false (L.drop a)) (hk : p < L.length) (hn : nextL (L.drop p) = (kd, n)) (h0 : kd ≠ 0)
    (hb : badTok kd ((L.drop p).take n) = false) : glue (acc ++ [⟨kd, (L.drop p).take n, (p : Nat)⟩]) (tkE f (L.drop (p + n)) (p + n)) = R := by
  subst hs; exact glue_tok h rfl hk hn h0 hb
end
set_option maxRecDepth 100000 in
set_option maxHeartbeats 2000000 in
theorem refTokens_any (L : List UInt8) (w : World) (hL : L.length ≤ 9000) :
    Calls Tryd.prog 10 #[.string ⟨L.toArray⟩] w fun e w' => ∃ v, e = .returned (.tuple #[v, .int .i64 (trAt (tokE L)), .int .i64 (trErr (tokE L))]) ∧ w'.ownsRow w.heap.size 40 3 v (trToks (tokE L)).length (tokCells (trToks (tokE L))) ∧ Below w.heap.size w w' := by
  obtain ⟨i0, hi0, hz0, hz1, hz2⟩ := info_parts info_rtok
  generalize hR : tokE L = R
  have HR := Lib.hid hR
  clear hR
  by_cases hbig : 8000 < L.length
  · have F : Hid (R = .error (8000, 6)) := by
      show _ = _
      rw [← HR.out]; unfold tokE; rw [if_pos hbig]
    have hd : decide (8000 < (L.length : Int)) = true := by rw [decide_eq_true_eq]; omega
    go_enter Tryd.func10, Tryd.ntmps10
    go_wp2_with fail
    rw [F.out]
    go_ret3
    exact ⟨_, rfl, World.ownsRow_nil _ _ _ _, Below.refl _ _⟩
  · have hd : decide (8000 < (L.length : Int)) = false := by rw [decide_eq_false_iff_not]; omega
    have hbig' : L.length ≤ 8000 := by omega
    have hS : Hid (glue [] (tkE (L.length + 1) (L.drop 0) 0) = R) := by
      show _ = _
      rw [← HR.out]; unfold tokE; rw [if_neg hbig, glue_nil, List.drop_zero]
    clear hbig
    go_enter Tryd.func10, Tryd.ntmps10
    go_wp2_with fail
    refine (refSkip_any L 0 _ (by omega) (by omega)).mono ?_
    rintro e wx ⟨rfl, rfl⟩
    have hk0 := skipL_le (L.drop 0) false
    rw [List.length_drop] at hk0
    generalize hP : 0 + skipL false (L.drop 0) = P at *
    have HP := Lib.hid hP
    clear hP
    have hP' : P ≤ L.length := by have := HP.out; omega
    go_wp2_with fail
    go_loopw [5, 6] (fun v i wr => ∃ (p a : Nat) (acc : List Tok) (f : Nat), a ≤ p ∧ p ≤ L.length ∧ i = .int .i64 p ∧ p = a + skipL false (L.drop a) ∧ acc.length ≤ a ∧ L.length < a + f ∧ glue acc (tkE f (L.drop a) a) = R ∧ wr.ownsRow w.heap.size 40 3 v acc.length (tokCells acc) ∧ Below w.heap.size w wr) (fun _ i _ => L.length - (intOf i).toNat)
    case atStart => exact ⟨P, 0, [], L.length + 1, by omega, hP', rfl, HP.out.symm, by simp, by omega, hS.out, World.ownsRow_nil _ _ _ _, Below.refl _ _⟩
    case round =>
      clear hP' HP hk0
      obtain ⟨p, a, acc, f, hap, hp, rfl, hpk, hacc, hf, hg, hown, hbr⟩ := hrel
      obtain ⟨wo, rfl⟩ : ∃ wo : World, wo = wr := ⟨_, rfl⟩
      obtain ⟨f, rfl⟩ : ∃ g, f = g + 1 := ⟨f - 1, by omega⟩
      have HO := Lib.hid hown
      clear hown hS HR
      by_cases hend : p = L.length
      · have F := Lib.hid (glue_end hg (by omega) (by rw [← hpk]; exact hend))
        have hnl : ¬ p < L.length := by omega
        clear hend hg hpk
        go_wp2_with fail
        rw [F.out]
        go_ret3
        exact ⟨_, rfl, HO.out, hbr⟩
      · have hlt : p < L.length := by omega
        have HPK := Lib.hid hpk
        have HG := Lib.hid hg
        clear hg hpk hend
        go_wp2_with fail
        refine (refNext_any L p _ hlt (by omega)).mono ?_
        rintro e w2 ⟨rfl, hb2⟩
        have hnl := nextL_le (l := L.drop p)
        have hnp := @nextL_pos (L.drop p)
        have hk3 := nextL_kind (L.drop p)
        obtain ⟨kd, n, hnn⟩ : ∃ kd n, nextL (L.drop p) = (kd, n) := ⟨_, _, rfl⟩
        have hrt : refTok L p = if kd = 0 then ⟨0, [], 0⟩ else ⟨kd, (L.drop p).take n, (p : Nat)⟩ := by unfold refTok; rw [hnn]
        rw [hnn] at hnl hnp hk3
        rw [List.length_drop] at hnl
        simp only at hnl hnp hk3
        have HNN := Lib.hid hnn
        have HK3 := Lib.hid hk3
        clear hnn hk3
        have hb2' := below_two hbr hb2
        have HO2 := Lib.hid (own_below HO.out hb2)
        rw [hrt]
        clear hrt
        cases h0 : (kd == 0)
        · have hkd : kd ≠ 0 := by simpa using h0
          have hn1 := hnp hkd
          rw [if_neg hkd]
          unfold tokV
          have htl : ((L.drop p).take n).length = n := by rw [List.length_take, List.length_drop]; omega
          generalize htt : (L.drop p).take n = t at *
          have HT := Lib.hid htt
          have HTL := Lib.hid htl
          have htle : t.length ≤ 9000 := by omega
          clear htt htl hnp
          simp only
          go_wp2_with fail
          refine (refValue_any kd t p _ htle).mono ?_
          rintro e w3 ⟨rfl, hb3⟩
          have hblk := (Blk.new w2 40 #[.int .i64 kd, .string ⟨t.toArray⟩, .int .i64 p]).below hb3 (by simp)
          have c0 := hblk.cell 0
          have c1 := hblk.cell 1
          have c2 := hblk.cell 2
          simp only [List.getElem?_toArray, List.getElem?_cons_zero, List.getElem?_cons_succ] at c0 c1 c2
          have HBK := Lib.hid hblk
          have HB3 := Lib.hid (below_two (hb2'.alloc hb2'.size (.cells #[.int .i64 kd, .string ⟨t.toArray⟩, .int .i64 p] 40)) hb3)
          have HO3 := Lib.hid (own_below (HO2.out.alloc (.cells #[.int .i64 kd, .string ⟨t.toArray⟩, .int .i64 p] 40)) hb3)
          have hnb := (fun h => absurd (own_lt HO2.out _ h) (Nat.lt_irrefl _) : _ ≠ some w2.heap.size)
          have HNB := Lib.hid hnb
          clear hnb hblk hb3 hb2' hb2 HO2 hbr HO
          have hle : p + t.length ≤ L.length := by have := HTL.out; omega
          have hl1 : 1 ≤ t.length := by have := HTL.out; omega
          rcases HK3.out with rfl | rfl | rfl | rfl
          · exact absurd rfl hkd
          · clear h0 hkd
            rw [show vB 1 t = false from rfl]
            by_cases h16 : 16 < t.length
            · have hd16 : decide (16 < (t.length : Int)) = true := by rw [decide_eq_true_eq]; omega
              have F := Lib.hid (glue_lim' HG.out HPK.out hlt HNN.out (by decide) (by rw [HT.out]; unfold badTok; rw [decide_eq_true h16]; rfl))
              go_wp2_with fail
              rw [F.out]
              go_ret3
              exact ⟨_, rfl, World.ownsRow_nil _ _ _ _, HB3.out⟩
            · have hd16 : decide (16 < (t.length : Int)) = false := by rw [decide_eq_false_iff_not]; omega
              have F := Lib.hid (glue_tok' HG.out HPK.out hlt HNN.out (by decide) (by rw [HT.out]; unfold badTok; rw [decide_eq_false h16]; rfl))
              rw [HT.out] at F
              go_wp2_with (at_builtin; refine wpList_append_any _ rfl (.tmp 50) (.tmp 52) _ rfl w.heap.size 40 i0 _ 3 32 Tryd.underlying27 hi0 hz0 hz1 hz2 rfl (by omega) _ acc.length (tokCells acc) rfl (HO3.out.alloc _) (w3.heap.size + 1) (some ⟨w3.heap.size, 0, none⟩) 1 1 (tokRow ⟨1, t, p⟩) rfl (reads_one w3 #[.int .i64 1, .string ⟨t.toArray⟩, .int .i64 p] 40 3 rfl) (tokRow_one _) (by simp only [maxLen]; omega) (by omega) (by simp only [World.size_alloc]; have := HB3.out.size; omega) ?_; intro v4 w4 hown4 hg4 hat4; have c4 := ((HBK.out.alloc (.cells #[.int .i64 1, .string ⟨t.toArray⟩, .int .i64 p] 40)).grown hg4 (Ne.symm HNB.out)).cell 1; simp only [List.getElem?_toArray, List.getElem?_cons_zero, List.getElem?_cons_succ] at c4)
              refine (refSkip_any L (p + t.length) _ (by omega) (by omega)).mono ?_
              rintro e wx ⟨rfl, rfl⟩
              have hk9 := skipL_le (L.drop (p + t.length)) false
              rw [List.length_drop] at hk9
              have hown4' : w4.ownsRow w.heap.size 40 3 v4 (acc ++ [(⟨1, t, p⟩ : Tok)]).length (tokCells (acc ++ [(⟨1, t, p⟩ : Tok)])) := by
                rw [tokCells_snoc, List.length_append]
                exact hown4
              have hb4 := (HB3.out.alloc HB3.out.size (.cells #[.int .i64 1, .string ⟨t.toArray⟩, .int .i64 p] 40)).grown hg4 (by simp only [World.size_alloc]; have := HB3.out.size; omega) (own_base HO3.out)
              have HO4 := Lib.hid hown4'
              clear hown4 hown4' hg4 c4 c0 c1 c2
              go_wp2_with fail
              refine ⟨⟨p + t.length + skipL false (L.drop (p + t.length)), p + t.length, acc ++ [(⟨1, t, p⟩ : Tok)], f, by omega, by omega, by go_num, rfl, by rw [List.length_append, List.length_singleton]; omega, by omega, by rw [HTL.out]; exact F.out, HO4.out, hb4⟩, by simp [intOf]; omega⟩
          · clear h0 hkd
            cases hv : valOk t
            · rw [show vB 2 t = false from hv]
              have F := Lib.hid (glue_lim' HG.out HPK.out hlt HNN.out (by decide) (by rw [HT.out]; unfold badTok; rw [hv]; rfl))
              clear hv
              go_wp2_with fail
              rw [F.out]
              go_ret3
              exact ⟨_, rfl, World.ownsRow_nil _ _ _ _, HB3.out⟩
            · rw [show vB 2 t = true from hv]
              have F := Lib.hid (glue_tok' HG.out HPK.out hlt HNN.out (by decide) (by rw [HT.out]; unfold badTok; rw [hv]; rfl))
              rw [HT.out] at F
              clear hv
              go_wp2_with (at_builtin; refine wpList_append_any _ rfl (.tmp 50) (.tmp 52) _ rfl w.heap.size 40 i0 _ 3 32 Tryd.underlying27 hi0 hz0 hz1 hz2 rfl (by omega) _ acc.length (tokCells acc) rfl (HO3.out.alloc _) (w3.heap.size + 1) (some ⟨w3.heap.size, 0, none⟩) 1 1 (tokRow ⟨2, t, p⟩) rfl (reads_one w3 #[.int .i64 2, .string ⟨t.toArray⟩, .int .i64 p] 40 3 rfl) (tokRow_one _) (by simp only [maxLen]; omega) (by omega) (by simp only [World.size_alloc]; have := HB3.out.size; omega) ?_; intro v4 w4 hown4 hg4 hat4; have c4 := ((HBK.out.alloc (.cells #[.int .i64 2, .string ⟨t.toArray⟩, .int .i64 p] 40)).grown hg4 (Ne.symm HNB.out)).cell 1; simp only [List.getElem?_toArray, List.getElem?_cons_zero, List.getElem?_cons_succ] at c4)
              refine (refSkip_any L (p + t.length) _ (by omega) (by omega)).mono ?_
              rintro e wx ⟨rfl, rfl⟩
              have hk9 := skipL_le (L.drop (p + t.length)) false
              rw [List.length_drop] at hk9
              have hown4' : w4.ownsRow w.heap.size 40 3 v4 (acc ++ [(⟨2, t, p⟩ : Tok)]).length (tokCells (acc ++ [(⟨2, t, p⟩ : Tok)])) := by
                rw [tokCells_snoc, List.length_append]
                exact hown4
              have hb4 := (HB3.out.alloc HB3.out.size (.cells #[.int .i64 2, .string ⟨t.toArray⟩, .int .i64 p] 40)).grown hg4 (by simp only [World.size_alloc]; have := HB3.out.size; omega) (own_base HO3.out)
              have HO4 := Lib.hid hown4'
              clear hown4 hown4' hg4 c4 c0 c1 c2
              go_wp2_with fail
              refine ⟨⟨p + t.length + skipL false (L.drop (p + t.length)), p + t.length, acc ++ [(⟨2, t, p⟩ : Tok)], f, by omega, by omega, by go_num, rfl, by rw [List.length_append, List.length_singleton]; omega, by omega, by rw [HTL.out]; exact F.out, HO4.out, hb4⟩, by simp [intOf]; omega⟩
          · clear h0 hkd
            rw [show vB 3 t = false from rfl]
            have F := Lib.hid (glue_tok' HG.out HPK.out hlt HNN.out (by decide) (by rw [HT.out]; rfl))
            rw [HT.out] at F
            go_wp2_with (at_builtin; refine wpList_append_any _ rfl (.tmp 50) (.tmp 52) _ rfl w.heap.size 40 i0 _ 3 32 Tryd.underlying27 hi0 hz0 hz1 hz2 rfl (by omega) _ acc.length (tokCells acc) rfl (HO3.out.alloc _) (w3.heap.size + 1) (some ⟨w3.heap.size, 0, none⟩) 1 1 (tokRow ⟨3, t, p⟩) rfl (reads_one w3 #[.int .i64 3, .string ⟨t.toArray⟩, .int .i64 p] 40 3 rfl) (tokRow_one _) (by simp only [maxLen]; omega) (by omega) (by simp only [World.size_alloc]; have := HB3.out.size; omega) ?_; intro v4 w4 hown4 hg4 hat4; have c4 := ((HBK.out.alloc (.cells #[.int .i64 3, .string ⟨t.toArray⟩, .int .i64 p] 40)).grown hg4 (Ne.symm HNB.out)).cell 1; simp only [List.getElem?_toArray, List.getElem?_cons_zero, List.getElem?_cons_succ] at c4)
            refine (refSkip_any L (p + t.length) _ (by omega) (by omega)).mono ?_
            rintro e wx ⟨rfl, rfl⟩
            have hk9 := skipL_le (L.drop (p + t.length)) false
            rw [List.length_drop] at hk9
            have hown4' : w4.ownsRow w.heap.size 40 3 v4 (acc ++ [(⟨3, t, p⟩ : Tok)]).length (tokCells (acc ++ [(⟨3, t, p⟩ : Tok)])) := by
              rw [tokCells_snoc, List.length_append]
              exact hown4
            have hb4 := (HB3.out.alloc HB3.out.size (.cells #[.int .i64 3, .string ⟨t.toArray⟩, .int .i64 p] 40)).grown hg4 (by simp only [World.size_alloc]; have := HB3.out.size; omega) (own_base HO3.out)
            have HO4 := Lib.hid hown4'
            clear hown4 hown4' hg4 c4 c0 c1 c2
            go_wp2_with fail
            refine ⟨⟨p + t.length + skipL false (L.drop (p + t.length)), p + t.length, acc ++ [(⟨3, t, p⟩ : Tok)], f, by omega, by omega, by go_num, rfl, by rw [List.length_append, List.length_singleton]; omega, by omega, by rw [HTL.out]; exact F.out, HO4.out, hb4⟩, by simp [intOf]; omega⟩
        · have hkd : kd = 0 := by simpa using h0
          have F := Lib.hid (glue_syn' HG.out HPK.out hlt (by rw [HNN.out]; exact hkd))
          rw [if_pos hkd]
          unfold tokV
          simp only
          clear hnp hkd h0
          go_wp2_with fail
          rw [F.out]
          go_ret3
          exact ⟨_, rfl, World.ownsRow_nil _ _ _ _, hb2'.alloc hb2'.size _⟩
end Go.Proofs.YtblpgdfjmkefkaaDoor
