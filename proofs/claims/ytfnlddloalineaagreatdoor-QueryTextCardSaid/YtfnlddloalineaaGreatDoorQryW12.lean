/-
  The program's reader: by, walked.
-/
import Derived.Test.YtfnlddloalineaaGreatDoorQryW11
import Derived.Maps.AppendAt
namespace Go.Proofs.YtfnlddloalineaaGreatDoor
open Go.RowKit Go.Shelf
attribute [local go_sem] Oper.semAt_some
set_option linter.unusedVariables false
set_option maxRecDepth 100000
theorem six_boxes (w : World) (v0 v1 v2 v3 v4 v5 : Value) (t0 t1 t2 t3 t4 t5 : TypeId) (wx : World)
    (h : wx = (((((w.alloc (.cells #[v0] t0)).alloc (.cells #[v1] t1)).alloc (.cells #[v2] t2)).alloc (.cells #[v3] t3)).alloc (.cells #[v4] t4)).alloc (.cells #[v5] t5)) :
    wx.heap.size = w.heap.size + 6 ∧ Below w.heap.size w wx ∧ Boxed wx w.heap.size t0 v0 ∧ Boxed wx (w.heap.size + 1) t1 v1 ∧ Boxed wx (w.heap.size + 1 + 1) t2 v2 ∧ Boxed wx (w.heap.size + 1 + 1 + 1) t3 v3 ∧ Boxed wx (w.heap.size + 1 + 1 + 1 + 1) t4 v4 ∧ Boxed wx (w.heap.size + 1 + 1 + 1 + 1 + 1) t5 v5 := by
  subst h
  have b0 := Boxed.new w t0 v0
  have b1 := Boxed.new (w.alloc (.cells #[v0] t0)) t1 v1
  have b2 := Boxed.new ((w.alloc (.cells #[v0] t0)).alloc (.cells #[v1] t1)) t2 v2
  have b3 := Boxed.new (((w.alloc (.cells #[v0] t0)).alloc (.cells #[v1] t1)).alloc (.cells #[v2] t2)) t3 v3
  have b4 := Boxed.new ((((w.alloc (.cells #[v0] t0)).alloc (.cells #[v1] t1)).alloc (.cells #[v2] t2)).alloc (.cells #[v3] t3)) t4 v4
  have b5 := Boxed.new (((((w.alloc (.cells #[v0] t0)).alloc (.cells #[v1] t1)).alloc (.cells #[v2] t2)).alloc (.cells #[v3] t3)).alloc (.cells #[v4] t4)) t5 v5
  simp only [World.size_alloc] at b1 b2 b3 b4 b5
  refine ⟨by simp only [World.size_alloc], ?_, ((((b0.alloc _).alloc _).alloc _).alloc _).alloc _, (((b1.alloc _).alloc _).alloc _).alloc _, ((b2.alloc _).alloc _).alloc _, (b3.alloc _).alloc _, b4.alloc _, b5⟩
  have g := Below.refl w.heap.size w
  have g1 := g.alloc g.size (.cells #[v0] t0)
  have g2 := g1.alloc g1.size (.cells #[v1] t1)
  have g3 := g2.alloc g2.size (.cells #[v2] t2)
  have g4 := g3.alloc g3.size (.cells #[v3] t3)
  have g5 := g4.alloc g4.size (.cells #[v4] t4)
  exact g5.alloc g5.size _
set_option maxHeartbeats 4000000 in
theorem by_none (ps : List Int) (len : Int) (B R : Nat) (w : World) (h : Rdr w B R [] ps len) :
    Calls Tryz.prog 72 #[.pointer (some ⟨R, 0, none⟩)] w fun e w' => e = .returned (.tuple #[.slice none 0 0, .int .i64 3]) ∧ Rdr w' B R [] ps len ∧ w.grownBy w' (some R) := by
  have hb : Below w.heap.size w ((w.alloc (.cells #[.slice none 0 0] 23)).alloc (.cells #[.int .i64 0] 27)) := ((Below.refl w.heap.size w).alloc (Nat.le_refl _) _).alloc (by simp) _
  have HM := Lib.hid (more_any [] ps len B R _ (h.below hb))
  rw [show decide (0 < ([] : List (List UInt8)).length) = false from rfl] at HM
  have hb3 : Below w.heap.size w ((w.alloc (.cells #[.slice none 0 0] 23)).alloc (.cells #[.int .i64 3] 27)) := ((Below.refl w.heap.size w).alloc (Nat.le_refl _) _).alloc (by simp) _
  have HE := Lib.hid (h.below hb3)
  have HF := Lib.hid (grown_of_below hb3 (some R))
  have z0 := ((Boxed.new w 23 (.slice none 0 0)).alloc (.cells #[.int .i64 3] 27)).cell
  have z1 := (Boxed.new (w.alloc (.cells #[.slice none 0 0] 23)) 27 (.int .i64 3)).cell
  rw [World.size_alloc] at z1
  clear h hb hb3
  refine (callsIn_wide (n := 5)).1 ?_
  refine callsIn_of_wp_marks Tryz.func72 rfl trivial ?_ rfl
  simp only [Tryz.ntmps72, List.size_toArray, List.length_cons, List.length_nil, Nat.reduceAdd, Nat.reduceSub, Array.replicate_succ, Array.replicate_zero, List.push_toArray, List.append_toArray, List.nil_append, List.cons_append]
  gi_wp2_with fail
  refine ⟨trivial, (callsIn_wide.2 HM.out).mono ?_⟩
  rintro e wx ⟨rfl, rfl⟩
  gi_wp2_with fail
  refine ⟨.tuple #[.slice none 0 0, .int .i64 3], ?_, rfl, HE.out, HF.out⟩
  simp [results, Tryz.results72, go_sem, z0, z1]
set_option maxHeartbeats 4000000 in
theorem by_some (x : List UInt8) (ws : List (List UInt8)) (p : Int) (ps : List Int) (len : Int) (B R : Nat) (w : World) (h : Rdr w B R (x :: ws) (p :: ps) len) (hx : x.length ≤ 2000) :
    Calls Tryz.prog 72 #[.pointer (some ⟨R, 0, none⟩)] w (BySays B R x ws p ps len w) := by
  have hRw : R < w.heap.size ∧ B ≤ w.heap.size := by obtain ⟨_, _, _, _, hk, _, _, _, _, _, _, h7⟩ := h; exact ⟨hk.lt, h7⟩
  obtain ⟨hRw, hBw⟩ := hRw
  have hb2 : Below w.heap.size w ((w.alloc (.cells #[.slice none 0 0] 23)).alloc (.cells #[.int .i64 0] 27)) := ((Below.refl w.heap.size w).alloc (Nat.le_refl _) _).alloc (by simp) _
  have HM := Lib.hid (more_any (x :: ws) (p :: ps) len B R _ (h.below hb2))
  rw [show decide (0 < (x :: ws).length) = true by simp] at HM
  have hb3 := hb2.alloc hb2.size (.cells #[.slice none 0 0] 23)
  have HN := Lib.hid (next_any x ws (p :: ps) len B R _ (h.below hb3))
  have HS := Lib.hid (splitSeq_any ⟨x.toArray⟩ ⟨#[44]⟩ (((w.alloc (.cells #[.slice none 0 0] 23)).alloc (.cells #[.int .i64 0] 27)).alloc (.cells #[.slice none 0 0] 23)))
  simp only [World.size_alloc] at HS
  have HR := Lib.hid h
  clear hb2 hb3 h
  refine (callsIn_wide (n := 5)).1 ?_
  refine callsIn_of_wp_marks Tryz.func72 rfl trivial ?_ rfl
  simp only [Tryz.ntmps72, List.size_toArray, List.length_cons, List.length_nil, Nat.reduceAdd, Nat.reduceSub, Array.replicate_succ, Array.replicate_zero, List.push_toArray, List.append_toArray, List.nil_append, List.cons_append]
  gi_wp2_with fail
  refine ⟨trivial, (callsIn_wide.2 HM.out).mono ?_⟩
  rintro e wx ⟨rfl, rfl⟩
  gi_wp2_with fail
  refine ⟨trivial, (callsIn_wide.2 HN.out).mono ?_⟩
  rintro e wx ⟨rfl, rfl⟩
  gi_wp2_with fail
  refine ⟨trivial, (callsIn_wide.2 HS.out).mono ?_⟩
  rintro e wx ⟨rfl, hwx⟩
  have HW := Lib.hid hwx
  clear hwx
  gi_wp2_with fail
  obtain ⟨hsz, hB, z0, z1, z2, z3, z4, z5⟩ := six_boxes w _ _ _ _ _ _ _ _ _ _ _ _ wx HW.out
  clear HW HM HN HS
  obtain ⟨i0, hi0, hz0, hz1, hz2⟩ := info_parts info_int
  refine wpIn_rangeFunc_box (encs := fun y : List UInt8 => #[.string ⟨y.toArray⟩]) rfl (by omega) (gf := 152) (lb := #[.pointer (some ⟨w.heap.size + 1 + 1 + 1 + 1, 0, none⟩), .pointer (some ⟨w.heap.size + 1 + 1 + 1, 0, none⟩), .pointer (some ⟨w.heap.size + 1 + 1 + 1 + 1 + 1, 0, none⟩)]) rfl trivial (enters_of Tryz.func152 (by kernel_rfl) rfl)
    (splitSeq_box 4 (by omega) (w.heap.size + 1 + 1 + 1) x wx z3 z4 z5 (by omega)) (by omega) (fun _ => rfl)
    (ByI w.heap.size w) (ByIx w.heap.size w) (by rw [hsz]; exact byI_own _ _) (fun c => by rw [hsz]; exact byIx_own _ _ c)
    ⟨⟨by omega, fun y hy => (by cases hy), z0, z1⟩, ⟨_, z2, World.ownsRow_nil _ _ _ _⟩, hB⟩
    (fun y => { tmps := #[.pointer (some ⟨R, 0, none⟩), undef, .pointer (some ⟨w.heap.size, 0, none⟩), .pointer (some ⟨w.heap.size + 1, 0, none⟩), .pointer (some ⟨w.heap.size + 1 + 1, 0, none⟩), .string ⟨y.toArray⟩, undef, undef, undef, .pointer (some ⟨R, 0, none⟩), .bool true, .bool false, .pointer (some ⟨R, 0, none⟩), .string ⟨x.toArray⟩, .func (.func 152) #[] #[.pointer (some ⟨w.heap.size + 1 + 1 + 1 + 1, 0, none⟩), .pointer (some ⟨w.heap.size + 1 + 1 + 1, 0, none⟩), .pointer (some ⟨w.heap.size + 1 + 1 + 1 + 1 + 1, 0, none⟩)], .string ⟨y.toArray⟩, undef, undef, undef, undef, undef, undef, undef, undef, undef, undef, undef, undef, undef, undef, undef, undef, undef, undef, undef, undef, undef, undef, undef, undef, undef], defers := [] }) ?assign ?body ?done ?stop
  case assign =>
    intro l y W K hK
    gi_wp2_with fail
    exact hK
  case body =>
    rintro l pre y W ⟨⟨hszW, hk, b0, b1⟩, ⟨v, bl, hrow⟩, hBW⟩ hpre
    have hL := Blk.new W 9 (fdL.map strV).toArray
    have HI := Lib.hid (index_any fdL y W.heap.size 5 5 (W.alloc (.cells (fdL.map strV).toArray 9)) (fun j hj => word_cell hL hj) (by decide) (by decide))
    rw [show fdL.take 5 = fdL from rfl] at HI
    have HF := Lib.hid (fd_any W)
    have HK := Lib.hid hk
    have HROW := Lib.hid (hrow.alloc (.cells (fdL.map strV).toArray 9))
    have HBW := Lib.hid (hBW.alloc (by omega) (.cells (fdL.map strV).toArray 9))
    have HKO := Lib.hid (KeepsOthers.alloc W (.cells (fdL.map strV).toArray 9))
    have hs2 : w.heap.size + 6 ≤ (W.alloc (.cells (fdL.map strV).toArray 9)).heap.size := by simp only [World.size_alloc]; omega
    have HKP := Lib.hid (kp_grown (Bs := w.heap.size + 1 + 1 + 1) (World.grownBy_alloc W (.cells (fdL.map strV).toArray 9) none) (by omega) (fun r e => (by cases e)))
    have hpl : pre.length ≤ 2001 := by
      have h1 := hpre.length_le
      have h2 := plSum_len (piecesL 44 x)
      have h3 := pieces_sum 44 x
      simp only [List.length_append, List.length_singleton] at h1
      omega
    have g0 := b0.alloc (.cells (fdL.map strV).toArray 9)
    have g1 := b1.alloc (.cells (fdL.map strV).toArray 9)
    have gl := bl.alloc (.cells (fdL.map strV).toArray 9)
    clear hL hk hrow hBW hpre HR z0 z1 z2 z3 z4 z5 hB
    obtain ⟨iy, hiy⟩ : ∃ iy, idxW fdL y = iy := ⟨_, rfl⟩
    have HIY := Lib.hid hiy
    rw [hiy] at HI
    clear hiy b0 b1 bl
    have c0 := g0.cell
    have c1 := g1.cell
    have f0 := g0.frozen
    have f1 := g1.frozen
    have cl := gl.cell
    by_cases hi : iy < 0
    · have HX := Lib.hid hi
      have k1 : decide (iy < 0) = true := by rw [decide_eq_true_eq]; exact hi
      clear hi
      gi_wp2_with fail
      refine ⟨trivial, (callsIn_wide.2 HF.out).mono ?_⟩
      rintro e w1 ⟨rfl, hw1⟩
      rw [← hw1] at HI c0 c1 f0 f1 g0 g1 gl HROW HBW HKO hs2
      clear hw1
      gi_wp2_with fail
      refine ⟨trivial, (callsIn_wide.2 HI.out).mono ?_⟩
      rintro e w2 ⟨rfl, rfl⟩
      gi_wp2_with fail
      refine ⟨((HKO.out.trans (KeepsOthers.setCell _ _ _)).trans (KeepsOthers.setCell _ _ _)).from _, rfl, ?_, ⟨y, by simp, by rw [HIY.out]; exact HX.out⟩, ?_, ?_, ?_⟩
      · rw [World.size_setCell, World.size_setCell]; exact hs2
      · exact (g0.set _).kept (grownBy_setCell' _ _ _) (by intro e; injection e; omega)
      · exact (g1.kept (grownBy_setCell' _ _ _) (by intro e; injection e; omega)).set _
      · exact (HBW.out.setCell (p := ⟨w.heap.size, 0, none⟩) (Nat.le_refl _) _).setCell (p := ⟨w.heap.size + 1, 0, none⟩) (by simp only []; omega) _
    · have HX := Lib.hid hi
      have k1 : decide (iy < 0) = false := by rw [decide_eq_false_iff_not]; exact hi
      clear hi
      gi_wp2_with fail
      refine ⟨trivial, (callsIn_wide.2 HF.out).mono ?_⟩
      rintro e w1 ⟨rfl, hw1⟩
      rw [← hw1] at HI c0 c1 f0 f1 g0 g1 gl HROW HBW HKO hs2 cl HKP
      clear hw1
      gi_wp2_with fail
      refine ⟨trivial, (callsIn_wide.2 HI.out).mono ?_⟩
      rintro e w2 ⟨rfl, rfl⟩
      gi_wp2_with (gi_at_builtin; refine wpListIn_append_own _ rfl _ _ 23 rfl (w.heap.size + 6) 3 i0 (.int .i64 0) 1 8 Tryz.underlying23 hi0 hz0 hz1 hz2 rfl (by decide) _ _ _ rfl (HROW.out.alloc _) ⟨w2.heap.size, 0, none⟩ 1 1 [.int .i64 iy] rfl rfl (cell_one_new _ _ _) (by simp [Value.oneCell']) (by simp only [maxLen]; omega) (by omega) (by simp only [World.size_alloc]; omega) ?_; intro v' w3 hown' hgrow _; obtain ⟨g', cap', rfl⟩ := ownsRow_succ hown'; obtain ⟨hv1, hv2, hr2, hk2, hb2⟩ := boxed_app (n₀ := w.heap.size) gl (by decide) HROW.out (by omega) (by omega) (by omega) hown' hgrow; have hc1 := hv1.cell; have hf1 := hv1.frozen)
      have hgr : (w2.alloc (.cells #[.int .i64 iy] 3)).grownBy w3 v.ownBlock := hgrow
      have hne : ∀ k, k < w.heap.size + 6 → some k ≠ v.ownBlock := fun k hk e => by have := own_base HROW.out k e.symm; omega
      have hs3 : w.heap.size + 6 ≤ w3.heap.size := by have := hgr.size; simp only [World.size_alloc] at this; omega
      refine ⟨(HKO.out.trans hk2).from _, ?_, ⟨⟨?_, ?_, ?_, ?_⟩, ⟨_, hv2, ?_⟩, HBW.out.trans hb2⟩⟩
      · refine ((HKP.out.trans (kp_grown (World.grownBy_alloc w2 (.cells #[.int .i64 iy] 3) none) (by omega) (fun r e => (by cases e)))).trans (kp_grown hgr (by simp only [World.size_alloc]; omega) (fun r e => .inr ?_))).trans (kp_grown (grownBy_setCell' w3 _ _) (by omega) (fun r e => .inl (by injection e; omega)))
        have := own_base HROW.out r e
        omega
      · rw [World.size_setCell]; exact hs3
      · intro z hz
        rw [List.mem_append, List.mem_singleton] at hz
        rcases hz with hz | rfl
        · exact HK.out z hz
        · rw [HIY.out]; have := HX.out; omega
      · exact ((g0.alloc _).kept hgr (hne _ (by omega))).kept (grownBy_setCell' _ _ _) (by intro e; injection e; omega)
      · exact ((g1.alloc _).kept hgr (hne _ (by omega))).kept (grownBy_setCell' _ _ _) (by intro e; injection e; omega)
      · have e1 : (List.map (idxW fdL) (pre ++ [y])).map intV = List.map intV (List.map (idxW fdL) pre) ++ [.int .i64 iy] := by
          rw [List.map_append, List.map_append, ← HIY.out]; rfl
        rw [e1, List.length_append]
        exact hr2
  case done =>
    rintro D W hD ⟨⟨hs, hk, b0, b1⟩, ⟨v, bl, hrow⟩, hBW⟩ hK
    have hR := HR.out.below hBW
    have hBR : byR x = if dupB (byN x) = true then .error 9 else .ok (byN x) := byR_known (fun y hy => by have := hk y hy; omega)
    have hpos : 0 < (piecesL 44 x).length := by
      rcases Nat.eq_zero_or_pos (piecesL 44 x).length with h | h
      · exact absurd (List.eq_nil_of_length_eq_zero h) (piecesL_ne 44 x)
      · exact h
    have hlen : (piecesL 44 x).length ≤ 2001 := by
      have h2 := plSum_len (piecesL 44 x)
      have h3 := pieces_sum 44 x
      omega
    obtain ⟨g, cap, hv, hgb, hglt⟩ := hrow.form hpos
    subst hv
    have hLn : (byN x).length = (piecesL 44 x).length := by unfold byN; rw [List.length_map]
    change W.ownsRow (w.heap.size + 6) _ 1 _ _ ((byN x).map intV) at hrow
    rw [← hLn] at hrow hpos hlen
    rw [← hLn] at bl
    clear hk hLn z0 z1 z2 z3 z4 z5 hB
    generalize byN x = L at *
    have hcs : ∀ j, j < L.length → W.cell? ⟨g, 0 + j, none⟩ = some (.int .i64 (L.getD j 0)) := fun j hj => by
      have := hrow.cells (g := g) rfl j (intV (L.getD j 0)) (by rw [List.getElem?_map, List.getElem?_eq_getElem hj]; simp [List.getD, hj])
      have e : (⟨g, 0, none⟩ : Addr).add j = ⟨g, 0 + j, none⟩ := by unfold Addr.add; split <;> simp_all
      rwa [e] at this
    have HCS := Lib.hid hcs
    have HBR := Lib.hid hBR
    have HK := Lib.hid hK
    have HRW := Lib.hid hR
    have HROW := Lib.hid hrow
    have HBW := Lib.hid hBW
    clear hcs hBR hK hR hrow hBW
    have cl := bl.cell
    gi_wp2_with fail
    gi_loopw [27] (fun i wr => wr = W ∧ ∃ k : Nat, k ≤ L.length ∧ i = .int .i64 (k : Int) ∧ ∀ j, j < k → (L.take j).contains (L.getD j 0) = false) (fun i _ => L.length - (intOf i).toNat)
    case atStart => exact ⟨rfl, 0, Nat.zero_le _, rfl, fun j h => by omega⟩
    case round =>
      obtain ⟨rfl, k, hkl, rfl, hd⟩ := hrel
      have HD := Lib.hid hd
      clear hd
      by_cases hlt : k < L.length
      · have k1 : decide ((k : Int) < (L.length : Int)) = true := by rw [decide_eq_true_eq]; omega
        have k2 : decide (k < L.length) = true := by rw [decide_eq_true_eq]; omega
        have b2 : (k : Int) < (L.length : Int) := by omega
        have hck := HCS.out k hlt
        rw [Nat.zero_add] at hck
        have hcap : L.length ≤ cap := by
          rcases HROW.out.2 with ⟨e, _⟩ | ⟨g2, cap2, cur, e, _, _, h3, _⟩
          · cases e
          · injection e with _ _ e; subst e; exact h3
        have HC := Lib.hid (Tryz.slices_Contains_int g 0 k cap L (L.getD k 0) wr (by omega) (by omega) HCS.out)
        have HD1 : Hid ((L.take k).contains (L.getD k 0) = false → ∀ j, j < k + 1 → (L.take j).contains (L.getD j 0) = false) := fun h j hj => by
          by_cases e : j = k
          · rw [e]; exact h
          · exact HD.out j (by omega)
        have HD2 : Hid ((L.take k).contains (L.getD k 0) = true → dupB L = true) := fun h => dupB_yes hlt h
        generalize (L.take k).contains (L.getD k 0) = bq at *
        generalize L.getD k 0 = z at *
        cases bq with
        | false =>
          have HD3 := Lib.hid (HD1.out rfl)
          clear HD1 HD2 HD
          gi_wp2_with fail
          refine ⟨trivial, (callsIn_wide.2 HC.out).mono ?_⟩
          rintro e w2 ⟨rfl, hw2⟩
          have HW2 := Lib.hid hw2
          clear hw2
          gi_wp2_with fail
          go_roundw
          case rel => exact ⟨HW2.out, k + 1, by omega, by go_num, HD3.out⟩
          case measure => simp [intOf]; omega
        | true =>
          have HD3 := Lib.hid (HD2.out rfl)
          clear HD1 HD2 HD
          have c0 := b0.cell
          have f0 := b0.frozen
          have c1 := b1.cell
          have f1 := b1.frozen
          have g0 := ((b0.set (.slice none 0 0)).kept (grownBy_setCell' _ (w.heap.size + 1) (.int .i64 9)) (by intro e; injection e; omega)).kept (grownBy_putObj' _ D (.deferred none)) (by intro e; injection e; omega)
          have g1 := ((b1.kept (grownBy_setCell' _ w.heap.size (.slice none 0 0)) (by intro e; injection e; omega)).set (.int .i64 9)).kept (grownBy_putObj' _ D (.deferred none)) (by intro e; injection e; omega)
          have hb := ((HBW.out.setCell (p := ⟨w.heap.size, 0, none⟩) (Nat.le_refl _) (.slice none 0 0)).setCell (p := ⟨w.heap.size + 1, 0, none⟩) (by simp only []; omega) (.int .i64 9))
          have hsz2 : ((wr.setCell ⟨w.heap.size, 0, none⟩ (.slice none 0 0)).setCell ⟨w.heap.size + 1, 0, none⟩ (.int .i64 9)).heap.size = wr.heap.size := by rw [World.size_setCell, World.size_setCell]
          have hK2 : ((wr.setCell ⟨w.heap.size, 0, none⟩ (.slice none 0 0)).setCell ⟨w.heap.size + 1, 0, none⟩ (.int .i64 9)).heap[D]? = some (.deferred (some [])) :=
            (Below.heap_setCell _ _ _ D (by simp only []; omega)).trans ((Below.heap_setCell wr _ _ D (by simp only []; omega)).trans HK.out)
          have HK2 := Lib.hid hK2
          have HRF := Lib.hid ((HR.out.below hb).low (below_put (B := B) (D := D) (by omega) (by omega) (.deferred none)))
          have HGF := Lib.hid (grown_put (grown_of_below hb (some R)) (D := D) (by omega) (.deferred none))
          have z0 := g0.cell
          have z1 := g1.cell
          clear hb hK2 g0 g1 hsz2
          gi_wp2_with fail
          refine ⟨trivial, (callsIn_wide.2 HC.out).mono ?_⟩
          rintro e w2 ⟨rfl, rfl⟩
          gi_wp2_with fail
          refine ⟨by simp, .inl ⟨_, _, rfl, run_takeDeferred HK2.out, ?_⟩⟩
          refine ⟨.tuple #[.slice none 0 0, .int .i64 9], ?_, ?_⟩
          · simp [results, Tryz.results72, go_sem, z0, z1]
          · unfold BySays
            rw [HBR.out, if_pos HD3.out]
            exact ⟨rfl, HRF.out, HGF.out⟩
      · have k1 : decide ((k : Int) < (L.length : Int)) = false := by rw [decide_eq_false_iff_not]; omega
        have k2 : decide (k < L.length) = false := by rw [decide_eq_false_iff_not]; omega
        obtain rfl : k = L.length := by omega
        have HDU := Lib.hid (dupB_no HD.out)
        have HT := Lib.hid (take_any x ws p ps len B R wr HRW.out)
        clear HD
        gi_wp2_with fail
        refine ⟨trivial, (callsIn_wide.2 HT.out).mono ?_⟩
        rintro e w4 ⟨⟨u, rfl⟩, hr4, hg4⟩
        have b04 := b0.kept hg4 (by intro e; injection e; omega)
        have b14 := b1.kept hg4 (by intro e; injection e; omega)
        have bl4 := bl.kept hg4 (by intro e; injection e; omega)
        have hrow4 := HROW.out.kept hg4 (.inr (by intro e; simp only [Value.ownBlock] at e; injection e; omega))
        have hDl : D < wr.heap.size := (Array.getElem?_eq_some_iff.1 HK.out).1
        have hK4 := (hg4.block D hDl (by intro e; injection e; omega)).trans HK.out
        have hs4 : w.heap.size + 6 ≤ w4.heap.size := Nat.le_trans hs hg4.size
        have hgw4 := World.grownBy.trans (grown_of_below HBW.out (some R)) hg4
        have c0 := b04.cell
        have f0 := b04.frozen
        have c1 := b14.cell
        have f1 := b14.frozen
        have cl4 := bl4.cell
        obtain ⟨vl, hvl⟩ : ∃ vl, Value.slice (some ⟨g, 0, none⟩) L.length cap = vl := ⟨_, rfl⟩
        have HVL := Lib.hid hvl
        have g0 := ((b04.set (.slice (some ⟨g, 0, none⟩) L.length cap)).kept (grownBy_setCell' _ (w.heap.size + 1) (.int .i64 0)) (by intro e; injection e; omega)).kept (grownBy_putObj' _ D (.deferred none)) (by intro e; injection e; omega)
        have g1 := ((b14.kept (grownBy_setCell' _ w.heap.size (.slice (some ⟨g, 0, none⟩) L.length cap)) (by intro e; injection e; omega)).set (.int .i64 0)).kept (grownBy_putObj' _ D (.deferred none)) (by intro e; injection e; omega)
        have hK5 : ((w4.setCell ⟨w.heap.size, 0, none⟩ (.slice (some ⟨g, 0, none⟩) L.length cap)).setCell ⟨w.heap.size + 1, 0, none⟩ (.int .i64 0)).heap[D]? = some (.deferred (some [])) :=
          (Below.heap_setCell _ _ _ D (by simp only []; omega)).trans ((Below.heap_setCell w4 _ _ D (by simp only []; omega)).trans hK4)
        have HK5 := Lib.hid hK5
        have hr5 := (hr4.low (((Below.refl B w4).setCell (p := ⟨w.heap.size, 0, none⟩) hBw (.slice (some ⟨g, 0, none⟩) L.length cap)).setCell (p := ⟨w.heap.size + 1, 0, none⟩) (by simp only []; omega) (.int .i64 0)))
        have HRF := Lib.hid (hr5.low (below_put (B := B) (D := D) (by omega) (by rw [World.size_setCell, World.size_setCell]; omega) (.deferred none)))
        have HGF := Lib.hid (grown_put (grown_new (grown_new hgw4 (g := w.heap.size) (Nat.le_refl _) 0 (.slice (some ⟨g, 0, none⟩) L.length cap)) (g := w.heap.size + 1) (by omega) 0 (.int .i64 0)) (D := D) (by omega) (.deferred none))
        have hrow5 := ((hrow4.kept (grownBy_setCell' w4 w.heap.size (.slice (some ⟨g, 0, none⟩) L.length cap)) (.inr (by intro e; simp only [Value.ownBlock] at e; injection e; omega))).kept (grownBy_setCell' _ (w.heap.size + 1) (.int .i64 0)) (.inr (by intro e; simp only [Value.ownBlock] at e; injection e; omega)))
        have HO := Lib.hid (own_low (ownsRow_putObj hrow5 (.deferred none) hK5 rfl) (b' := w.heap.size) (by omega))
        have z0 := g0.cell
        have z1 := g1.cell
        clear hr5 hrow5 hK5 g0 g1 hr4 hg4 b04 b14 bl4 hrow4 hK4 hgw4 HVL hvl
        gi_wp2_with fail
        refine ⟨by simp, .inl ⟨_, _, rfl, run_takeDeferred HK5.out, ?_⟩⟩
        refine ⟨.tuple #[.slice (some ⟨g, 0, none⟩) L.length cap, .int .i64 0], ?_, ?_⟩
        · simp [results, Tryz.results72, go_sem, z0, z1]
        · unfold BySays
          rw [HBR.out, if_neg (by rw [HDU.out]; simp)]
          exact ⟨_, rfl, HO.out, HRF.out, HGF.out⟩
  case stop =>
    rintro D c pre W hD hpre ⟨rfl, hs, ⟨y, hy, hyn⟩, b0, b1, hBW⟩ hK
    have hBR : byR x = .error 17 := byR_unknown ⟨y, hpre.subset hy, hyn⟩
    have hR := HR.out.below hBW
    have c0 := (b0.kept (grownBy_putObj' W D (.deferred none)) (by intro e; injection e; omega)).cell
    have c1 := (b1.kept (grownBy_putObj' W D (.deferred none)) (by intro e; injection e; omega)).cell
    have HRF := Lib.hid (hR.low (below_put (B := B) (D := D) (by omega) (by omega) (.deferred none)))
    have HGF := Lib.hid (grown_put (grown_of_below hBW (some R)) (D := D) (by omega) (.deferred none))
    have HBR := Lib.hid hBR
    have HK := Lib.hid hK
    clear hBR hR hBW hK hy hyn
    gi_wp2_with fail
    refine ⟨by simp, .inl ⟨_, _, rfl, run_takeDeferred HK.out, ?_⟩⟩
    refine ⟨.tuple #[.slice none 0 0, .int .i64 17], ?_, ?_⟩
    · simp [results, Tryz.results72, go_sem, c0, c1]
    · unfold BySays
      rw [HBR.out]
      exact ⟨rfl, HRF.out, HGF.out⟩
end Go.Proofs.YtfnlddloalineaaGreatDoor
