/-
  token.Tokens.
-/
import Derived.Test.YtblpgdfjmkefkaaDoorTokW8
import Derived.Test.YtblpgdfjmkefkaaDoorOwn
namespace Go.Proofs.YtblpgdfjmkefkaaDoor
open Go.RowKit
set_option linter.unusedVariables false
def tokRow (t : Tok) : List Value := [.int .i64 t.kind, .string ⟨t.text.toArray⟩, .int .i64 t.from_]
def tokCells (ts : List Tok) : List Value := ts.flatMap tokRow
theorem tokCells_snoc (ts : List Tok) (t : Tok) : tokCells (ts ++ [t]) = tokCells ts ++ tokRow t := by simp [tokCells]
theorem tokCells_len (ts : List Tok) : (tokCells ts).length = ts.length * 3 := by
  induction ts with
  | nil => rfl
  | cons t r ih => simp only [tokCells, List.flatMap_cons, List.length_append, List.length_cons] at ih ⊢; rw [ih]; simp [tokRow]; omega
theorem tokRow_one (t : Tok) : ∀ u ∈ tokRow t, u.oneCell' = true := by
  intro u hu
  simp only [tokRow, List.mem_cons, List.not_mem_nil, or_false] at hu
  rcases hu with rfl | rfl | rfl <;> rfl
theorem info_tok : (Tryd.prog.info? 34).map (fun i => (i.zero, i.size, i.bytes)) = some (some (.agg #[.int .i64 0, .string ⟨#[]⟩, .int .i64 0]), 3, 32) := by kernel_rfl
theorem ex_drop (l : List UInt8) (a : Nat) : (⟨l.toArray⟩ : ByteArray).extract a l.length = ⟨(l.drop a).toArray⟩ := by
  rw [ex_mk, List.take_length]
theorem ex_piece (l : List UInt8) (a n : Nat) : (⟨l.toArray⟩ : ByteArray).extract a (a + n) = ⟨((l.drop a).take n).toArray⟩ := by
  rw [ex_mk, List.drop_take, show a + n - a = n from by omega]
theorem glue_end {L : List UInt8} {acc : List Tok} {f a : Nat} {R : TR} (h : glue acc (tkE (f + 1) (L.drop a) a) = R) (ha : a ≤ L.length) (he : a + skipL false (L.drop a) = L.length) : R = .ok acc := by
  rw [← h, tkE_end (by rw [List.length_drop]; omega)]; simp [glue]
theorem glue_syn {L : List UInt8} {acc : List Tok} {f a k : Nat} {R : TR} (h : glue acc (tkE (f + 1) (L.drop a) a) = R) (hs : skipL false (L.drop a) = k) (hk : a + k < L.length) (hn : (nextL (L.drop (a + k))).1 = 0) : R = .error ((a + k : Nat), 3) := by
  rw [← h, tkE_syn hs (by rw [List.length_drop]; omega) (by rw [List.drop_drop]; exact hn)]; rfl
theorem glue_lim {L : List UInt8} {acc : List Tok} {f a k n : Nat} {kd : Int} {R : TR} (h : glue acc (tkE (f + 1) (L.drop a) a) = R) (hs : skipL false (L.drop a) = k) (hk : a + k < L.length) (hn : nextL (L.drop (a + k)) = (kd, n)) (h0 : kd ≠ 0)
    (hb : badTok kd ((L.drop (a + k)).take n) = true) : R = .error ((a + k : Nat), 6) := by
  rw [← h, tkE_lim hs (by rw [List.length_drop]; omega) (by rw [List.drop_drop]; exact hn) h0 (by rw [List.drop_drop]; exact hb)]; rfl
theorem glue_tok {L : List UInt8} {acc : List Tok} {f a k n : Nat} {kd : Int} {R : TR} (h : glue acc (tkE (f + 1) (L.drop a) a) = R) (hs : skipL false (L.drop a) = k) (hk : a + k < L.length) (hn : nextL (L.drop (a + k)) = (kd, n)) (h0 : kd ≠ 0)
    (hb : badTok kd ((L.drop (a + k)).take n) = false) : glue (acc ++ [⟨kd, (L.drop (a + k)).take n, (a + k : Nat)⟩]) (tkE f (L.drop (a + k + n)) (a + k + n)) = R := by
  rw [← h, tkE_tok hs (by rw [List.length_drop]; omega) (by rw [List.drop_drop]; exact hn) h0 (by rw [List.drop_drop]; exact hb), glue_cons, List.drop_drop, List.drop_drop]
set_option maxRecDepth 100000 in
set_option maxHeartbeats 2000000 in
theorem tokens_any (L : List UInt8) (w : World) (hE : Env w) (hL : L.length ≤ 9000) :
    Calls Tryd.prog 9 #[.string ⟨L.toArray⟩] w fun e w' => ∃ v, e = .returned (.tuple #[v, .int .i64 (trAt (tokE L)), .int .i64 (trErr (tokE L))]) ∧ w'.ownsRow w.heap.size 34 3 v (trToks (tokE L)).length (tokCells (trToks (tokE L))) ∧ Below w.heap.size w w' := by
  obtain ⟨i0, hi0, hz0, hz1, hz2⟩ := info_parts info_tok
  generalize hR : tokE L = R
  have HR := Lib.hid hR
  clear hR
  by_cases hbig : 8000 < L.length
  · have F : Hid (R = .error (8000, 6)) := by
      show _ = _
      rw [← HR.out]; unfold tokE; rw [if_pos hbig]
    have hd : decide (8000 < (L.length : Int)) = true := by rw [decide_eq_true_eq]; omega
    go_enter Tryd.func9, Tryd.ntmps9
    go_wp2_with fail
    rw [F.out]
    go_ret3
    exact ⟨_, rfl, World.ownsRow_nil _ _ _ _, Below.refl _ _⟩
  · have hd : decide (8000 < (L.length : Int)) = false := by rw [decide_eq_false_iff_not]; omega
    have hbig' : L.length ≤ 8000 := by omega
    have hS : Hid (glue [] (tkE (L.length + 1) (L.drop 0) 0) = R) := by
      show _ = _
      rw [← HR.out]; unfold tokE; rw [if_neg hbig, glue_nil, List.drop_zero]
    clear hbig
    go_enter Tryd.func9, Tryd.ntmps9
    go_wp2_with fail
    go_loopw [2, 3] (fun v i wr => ∃ (a : Nat) (acc : List Tok) (f : Nat), a ≤ L.length ∧ i = .int .i64 a ∧ acc.length ≤ a ∧ L.length < a + f ∧ glue acc (tkE f (L.drop a) a) = R ∧ wr.ownsRow w.heap.size 34 3 v acc.length (tokCells acc) ∧ Below w.heap.size w wr) (fun _ i _ => L.length - (intOf i).toNat)
    case atStart => exact ⟨0, [], L.length + 1, by omega, rfl, by simp, by omega, hS.out, World.ownsRow_nil _ _ _ _, Below.refl _ _⟩
    case round =>
      obtain ⟨a, acc, f, ha, rfl, hacc, hf, hg, hown, hbr⟩ := hrel
      obtain ⟨wo, rfl⟩ : ∃ wo : World, wo = wr := ⟨_, rfl⟩
      obtain ⟨f, rfl⟩ : ∃ g, f = g + 1 := ⟨f - 1, by omega⟩
      have HG := Lib.hid hg
      have HO := Lib.hid hown
      clear hg hown hS HR
      go_wp2_with fail
      rw [ex_drop]
      have hk := skipL_le (L.drop a) false
      rw [List.length_drop] at hk
      refine (blank_any (L.drop a) _ (by rw [List.length_drop]; omega)).mono ?_
      rintro e w1 ⟨rfl, hb1⟩
      generalize hks : skipL false (L.drop a) = k at *
      have HK := Lib.hid hks
      clear hks
      have hb1' := below_two hbr hb1
      have HO1 := Lib.hid (own_below HO.out hb1)
      by_cases hend : a + k = L.length
      · have hend' : ((a : Int) + k == L.length) = true := by rw [beq_iff_eq]; omega
        have F := Lib.hid (glue_end HG.out ha (by rw [HK.out]; exact hend))
        clear hend
        go_wp2_with fail
        rw [F.out]
        go_ret3
        exact ⟨_, rfl, HO1.out, hb1'⟩
      · have hend' : ((a : Int) + k == L.length) = false := by rw [beq_eq_false_iff_ne]; omega
        go_wp2_with fail
        rw [ex_drop]
        have h0 : 0 < (L.drop (a + k)).length := by rw [List.length_drop]; omega
        refine (next_any (L.drop (a + k)) _ (hE.after hb1') h0 (by rw [List.length_drop]; omega)).mono ?_
        rintro e w2 ⟨rfl, hb2⟩
        have hnl := nextL_le (l := L.drop (a + k))
        have hnp := @nextL_pos (L.drop (a + k))
        obtain ⟨kd, n, hnn⟩ : ∃ kd n, nextL (L.drop (a + k)) = (kd, n) := ⟨_, _, rfl⟩
        rw [hnn] at hnl hnp ⊢
        rw [List.length_drop] at hnl
        simp only at hnl hnp ⊢
        have HNN := Lib.hid hnn
        clear hnn h0
        have hb2' := below_two hb1' hb2
        have HO2 := Lib.hid (own_below HO1.out hb2)
        cases h0 : (kd == 0)
        · have hkd : kd ≠ 0 := by simpa using h0
          have hn1 := hnp hkd
          have hk3 := nextL_kind (L.drop (a + k))
          rw [HNN.out] at hk3
          simp only at hk3
          have HK3 := Lib.hid hk3
          clear hnp hk3
          go_wp2_with fail
          rw [ex_piece]
          have htl : ((L.drop (a + k)).take n).length = n := by rw [List.length_take, List.length_drop]; omega
          generalize htt : (L.drop (a + k)).take n = t at *
          have HT := Lib.hid htt
          have HTL := Lib.hid htl
          have htle : t.length ≤ 9000 := by omega
          clear htt htl
          refine (value_any kd t ((a : Int) + k) _ htle).mono ?_
          rintro e w3 ⟨rfl, hb3⟩
          have hblk := (Blk.new w2 34 #[.int .i64 kd, .string ⟨t.toArray⟩, .int .i64 ((a : Int) + k)]).below hb3 (by simp)
          have c0 := hblk.cell 0
          have c1 := hblk.cell 1
          have c2 := hblk.cell 2
          simp only [List.getElem?_toArray, List.getElem?_cons_zero, List.getElem?_cons_succ] at c0 c1 c2
          have HB3 := Lib.hid (below_two (hb2'.alloc hb2'.size (.cells #[.int .i64 kd, .string ⟨t.toArray⟩, .int .i64 ((a : Int) + k)] 34)) hb3)
          have HO3 := Lib.hid (own_below (HO2.out.alloc (.cells #[.int .i64 kd, .string ⟨t.toArray⟩, .int .i64 ((a : Int) + k)] 34)) hb3)
          clear hblk hb3 hb2' hb2 HO2 HO1 hb1' hb1 hbr HO
          rcases HK3.out with rfl | rfl | rfl | rfl
          · exact absurd rfl hkd
          · clear h0 hkd
            rw [show vB 1 t = false from rfl]
            by_cases h16 : 16 < n
            · have hd16 : decide (16 < (n : Int)) = true := by rw [decide_eq_true_eq]; omega
              have F := Lib.hid (glue_lim HG.out HK.out (by omega) HNN.out (by decide) (by rw [HT.out]; unfold badTok; rw [HTL.out, decide_eq_true h16]; rfl))
              go_wp2_with fail
              rw [F.out]
              go_ret3
              exact ⟨_, rfl, World.ownsRow_nil _ _ _ _, HB3.out⟩
            · have hd16 : decide (16 < (n : Int)) = false := by rw [decide_eq_false_iff_not]; omega
              have F := Lib.hid (glue_tok HG.out HK.out (by omega) HNN.out (by decide) (by rw [HT.out]; unfold badTok; rw [HTL.out, decide_eq_false h16]; rfl))
              rw [HT.out] at F
              go_wp2_with (at_builtin; refine wpList_append_any _ rfl (.tmp 63) (.tmp 65) _ rfl w.heap.size 34 i0 _ 3 32 Tryd.underlying23 hi0 hz0 hz1 hz2 rfl (by omega) _ acc.length (tokCells acc) rfl (HO3.out.alloc _) (w3.heap.size + 1) (some ⟨w3.heap.size, 0, none⟩) 1 1 (tokRow ⟨1, t, (a : Int) + k⟩) rfl (reads_one w3 #[.int .i64 1, .string ⟨t.toArray⟩, .int .i64 ((a : Int) + k)] 34 3 rfl) (tokRow_one _) (by simp only [maxLen]; omega) (by omega) (by simp only [World.size_alloc]; have := HB3.out.size; omega) ?_; intro v4 w4 hown4 hg4 hat4)
              have hown4' : w4.ownsRow w.heap.size 34 3 v4 (acc ++ [(⟨1, t, ((a + k : Nat) : Int)⟩ : Tok)]).length (tokCells (acc ++ [(⟨1, t, ((a + k : Nat) : Int)⟩ : Tok)])) := by
                rw [tokCells_snoc, List.length_append]
                exact hown4
              refine ⟨⟨a + k + n, acc ++ [(⟨1, t, ((a + k : Nat) : Int)⟩ : Tok)], f, by omega, by go_num, by rw [List.length_append, List.length_singleton]; omega, by omega, F.out, hown4', (HB3.out.alloc HB3.out.size _).grown hg4 (by simp only [World.size_alloc]; have := HB3.out.size; omega) (own_base HO3.out)⟩, by simp [intOf]; omega⟩
          · clear h0 hkd
            cases hv : valOk t
            · rw [show vB 2 t = false from hv]
              have F := Lib.hid (glue_lim HG.out HK.out (by omega) HNN.out (by decide) (by rw [HT.out]; unfold badTok; rw [hv]; rfl))
              clear hv
              go_wp2_with fail
              rw [F.out]
              go_ret3
              exact ⟨_, rfl, World.ownsRow_nil _ _ _ _, HB3.out⟩
            · rw [show vB 2 t = true from hv]
              have F := Lib.hid (glue_tok HG.out HK.out (by omega) HNN.out (by decide) (by rw [HT.out]; unfold badTok; rw [hv]; rfl))
              rw [HT.out] at F
              clear hv
              go_wp2_with (at_builtin; refine wpList_append_any _ rfl (.tmp 63) (.tmp 65) _ rfl w.heap.size 34 i0 _ 3 32 Tryd.underlying23 hi0 hz0 hz1 hz2 rfl (by omega) _ acc.length (tokCells acc) rfl (HO3.out.alloc _) (w3.heap.size + 1) (some ⟨w3.heap.size, 0, none⟩) 1 1 (tokRow ⟨2, t, (a : Int) + k⟩) rfl (reads_one w3 #[.int .i64 2, .string ⟨t.toArray⟩, .int .i64 ((a : Int) + k)] 34 3 rfl) (tokRow_one _) (by simp only [maxLen]; omega) (by omega) (by simp only [World.size_alloc]; have := HB3.out.size; omega) ?_; intro v4 w4 hown4 hg4 hat4)
              have hown4' : w4.ownsRow w.heap.size 34 3 v4 (acc ++ [(⟨2, t, ((a + k : Nat) : Int)⟩ : Tok)]).length (tokCells (acc ++ [(⟨2, t, ((a + k : Nat) : Int)⟩ : Tok)])) := by
                rw [tokCells_snoc, List.length_append]
                exact hown4
              refine ⟨⟨a + k + n, acc ++ [(⟨2, t, ((a + k : Nat) : Int)⟩ : Tok)], f, by omega, by go_num, by rw [List.length_append, List.length_singleton]; omega, by omega, F.out, hown4', (HB3.out.alloc HB3.out.size _).grown hg4 (by simp only [World.size_alloc]; have := HB3.out.size; omega) (own_base HO3.out)⟩, by simp [intOf]; omega⟩
          · clear h0 hkd
            rw [show vB 3 t = false from rfl]
            have F := Lib.hid (glue_tok HG.out HK.out (by omega) HNN.out (by decide) (by rw [HT.out]; rfl))
            rw [HT.out] at F
            go_wp2_with (at_builtin; refine wpList_append_any _ rfl (.tmp 63) (.tmp 65) _ rfl w.heap.size 34 i0 _ 3 32 Tryd.underlying23 hi0 hz0 hz1 hz2 rfl (by omega) _ acc.length (tokCells acc) rfl (HO3.out.alloc _) (w3.heap.size + 1) (some ⟨w3.heap.size, 0, none⟩) 1 1 (tokRow ⟨3, t, (a : Int) + k⟩) rfl (reads_one w3 #[.int .i64 3, .string ⟨t.toArray⟩, .int .i64 ((a : Int) + k)] 34 3 rfl) (tokRow_one _) (by simp only [maxLen]; omega) (by omega) (by simp only [World.size_alloc]; have := HB3.out.size; omega) ?_; intro v4 w4 hown4 hg4 hat4)
            have hown4' : w4.ownsRow w.heap.size 34 3 v4 (acc ++ [(⟨3, t, ((a + k : Nat) : Int)⟩ : Tok)]).length (tokCells (acc ++ [(⟨3, t, ((a + k : Nat) : Int)⟩ : Tok)])) := by
              rw [tokCells_snoc, List.length_append]
              exact hown4
            refine ⟨⟨a + k + n, acc ++ [(⟨3, t, ((a + k : Nat) : Int)⟩ : Tok)], f, by omega, by go_num, by rw [List.length_append, List.length_singleton]; omega, by omega, F.out, hown4', (HB3.out.alloc HB3.out.size _).grown hg4 (by simp only [World.size_alloc]; have := HB3.out.size; omega) (own_base HO3.out)⟩, by simp [intOf]; omega⟩
        · have hkd : kd = 0 := by simpa using h0
          have F := Lib.hid (glue_syn HG.out HK.out (by omega) (by rw [HNN.out]; exact hkd))
          clear hnp hkd
          go_wp2_with fail
          rw [F.out]
          go_ret3
          exact ⟨_, rfl, World.ownsRow_nil _ _ _ _, hb2'⟩
end Go.Proofs.YtblpgdfjmkefkaaDoor
