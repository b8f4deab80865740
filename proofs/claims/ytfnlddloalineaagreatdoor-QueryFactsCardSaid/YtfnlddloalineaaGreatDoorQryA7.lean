/-
  The reference's cond: the second half.
  The reference's by.   The reference's Parse: plain laws and the frame.   The reference's Parse.
-/
import Derived.Test.YtfnlddloalineaaGreatDoorQryA6
import Derived.Deep.CutBlock
namespace Go.Proofs.YtfnlddloalineaaGreatDoor
open Go.RowKit
set_option linter.unusedVariables false
set_option maxRecDepth 100000
theorem Gr2.then {x y z : World} {R : Nat} {v : Value} (h : Gr2 x y R v) (hg : y.grownBy z (some R)) : Gr2 x z R v :=
  ⟨hg.os.trans h.os, hg.tape.trans h.tape, hg.output.trans h.output, Nat.le_trans h.size hg.size, fun k hk h1 h2 => (hg.block k (Nat.lt_of_lt_of_le hk h.size) (fun e => h1 (by injection e))).trans (h.block k hk h1 h2)⟩
/-- the names of a list in memory, a block ahead of it or behind it -/
theorem lst_1 (w : World) (L : List Wd) : ∀ j, j < L.length → (w.alloc (.cells (L.map strV).toArray 9)).cell? ⟨w.heap.size, j, none⟩ = some (.string ⟨(L.getD j []).toArray⟩) := fun j hj => word_cell (Blk.new w 9 (L.map strV).toArray) hj
theorem lst_2 (w : World) (L : List Wd) (o : Obj) : ∀ j, j < L.length → ((w.alloc (.cells (L.map strV).toArray 9)).alloc o).cell? ⟨w.heap.size, j, none⟩ = some (.string ⟨(L.getD j []).toArray⟩) := fun j hj => word_cell ((Blk.new w 9 (L.map strV).toArray).alloc o) hj
theorem lst_3 (w : World) (L : List Wd) (o : Obj) : ∀ j, j < L.length → ((w.alloc o).alloc (.cells (L.map strV).toArray 9)).cell? ⟨w.heap.size + 1, j, none⟩ = some (.string ⟨(L.getD j []).toArray⟩) := fun j hj => by
  have h := Blk.new (w.alloc o) 9 (L.map strV).toArray
  rw [World.size_alloc] at h
  exact word_cell h hj
set_option maxHeartbeats 8000000 in
theorem rc_more {n0 : Nat} {w0 : World} {R : Nat} {W r : List Wd} {v : Wd} {len : Nat} {verb : Int} {byl : List Int} {byv : Value} {whl : List SCond} {whv : Value} {p : Int × Int} (x : World) (h : RSt n0 w0 R W (v :: r) len verb byl byv whl whv p x) (hp : p.2 = 0) (hf : whl.length < 20) (hl : ∀ z, z ∈ r → z.length ≤ 2000) :
    Calls Tryz.prog 42 #[.pointer (some ⟨R, 0, none⟩)] x (RcSays n0 w0 R W (v :: r) len verb byl byv whl whv p x) := by
  have HN := Lib.hid (rnext_some x h)
  have HP := Lib.hid hp
  have HL := Lib.hid hl
  obtain ⟨Aw, cw, rfl⟩ := own_slice h.who
  have HX := Lib.hid h
  generalize hb : bOf W (v :: r) = b at *
  have HB := Lib.hid hb
  have k20 : ((whl.length : Int) == 20) = false := by rw [beq_eq_false_iff_ne]; omega
  have k21 : (whl.length == 20) = false := by rw [beq_eq_false_iff_ne]; omega
  clear h hp hb hl
  go_enter Tryz.func42, Tryz.ntmps42
  go_wp2_with fail
  refine HN.out.mono ?_
  rintro e y ⟨rfl, hr, hg⟩
  have hr2 := hr.same ((Below.refl y.heap.size y).alloc (Nat.le_refl _) (.cells (#[.int .i64 (b : Int), .string ⟨v.toArray⟩] : Array Value) 89))
  have HG := Lib.hid (World.grownBy.trans hg (World.grownBy_alloc y (.cells (#[.int .i64 (b : Int), .string ⟨v.toArray⟩] : Array Value) 89) (some R)))
  have hw2 := Blk.new y 89 #[.int .i64 (b : Int), .string ⟨v.toArray⟩]
  obtain ⟨e6, e4, _, _⟩ := rst_cell hr2
  rw [HP.out] at e6
  obtain ⟨wz, hwz⟩ : ∃ wz, y.alloc (.cells (#[.int .i64 (b : Int), .string ⟨v.toArray⟩] : Array Value) 89) = wz := ⟨_, rfl⟩
  have hsz : y.heap.size < wz.heap.size := by rw [← hwz]; simp
  have hxy : x.heap.size ≤ y.heap.size := hg.size
  rw [hwz] at hr2 HG hw2 e6 e4
  obtain ⟨w0', w1'⟩ := wd_cells hw2
  have HW2 := Lib.hid hw2
  have HR2 := Lib.hid hr2
  clear hr hg hr2 hw2 HN
  have HIX : Hid (∀ (w' : World) (G : Nat), (∀ j, j < fdL.length → w'.cell? ⟨G, j, none⟩ = some (.string ⟨(fdL.getD j []).toArray⟩)) → Calls Tryz.prog 37 #[.slice (some ⟨G, 0, none⟩) 5 5, .string ⟨v.toArray⟩] w' fun e w'' => e = .returned (.int .i64 (idxW fdL v)) ∧ w' = w'') := fun w' G hc => refIndex_any fdL v G 5 5 w' hc rfl (by decide)
  obtain ⟨fi, hfi⟩ : ∃ fi, idxW fdL v = fi := ⟨_, rfl⟩
  rw [hfi] at HIX
  have HFI := Lib.hid hfi
  clear hfi
  go_upto_region 4 with fail
  go_cut [3] from 21 (fun s3 x' => ∃ G3, s3 = .pointer (some ⟨G3, 0, none⟩) ∧ wz.heap.size ≤ G3 ∧ Blk x' G3 72 #[.int .i64 fi, .int .i64 0, .int .i64 0] ∧ Below wz.heap.size wz x')
  case first =>
    have K1 := Lib.hid (lst_1 wz fdL)
    have K2 := Lib.hid (lst_2 wz fdL (.cells (#[.int .i64 0, .int .i64 0, .int .i64 0] : Array Value) 72))
    have K3 := Lib.hid (lst_3 wz fdL (.cells (#[.int .i64 0, .int .i64 0, .int .i64 0] : Array Value) 72))
    have E1 : Hid (wz.heap.size ≤ wz.heap.size + 1 ∧ Blk (((wz.alloc (.cells (fdL.map strV).toArray 9)).alloc (.cells (#[.int .i64 fi, .int .i64 0, .int .i64 0] : Array Value) 72)).drew) (wz.heap.size + 1) 72 #[.int .i64 fi, .int .i64 0, .int .i64 0] ∧ Below wz.heap.size wz (((wz.alloc (.cells (fdL.map strV).toArray 9)).alloc (.cells (#[.int .i64 fi, .int .i64 0, .int .i64 0] : Array Value) 72)).drew)) := by
      refine ⟨by omega, ?_, (((Below.refl wz.heap.size wz).alloc (Nat.le_refl _) _).alloc (by simp) _).drew⟩
      have := Blk.new (wz.alloc (.cells (fdL.map strV).toArray 9)) 72 #[.int .i64 fi, .int .i64 0, .int .i64 0]
      rw [World.size_alloc] at this
      exact this.drew
    have E2 : Hid (wz.heap.size ≤ wz.heap.size ∧ Blk (((wz.alloc (.cells (#[.int .i64 fi, .int .i64 0, .int .i64 0] : Array Value) 72)).alloc (.cells (fdL.map strV).toArray 9)).drew) wz.heap.size 72 #[.int .i64 fi, .int .i64 0, .int .i64 0] ∧ Below wz.heap.size wz (((wz.alloc (.cells (#[.int .i64 fi, .int .i64 0, .int .i64 0] : Array Value) 72)).alloc (.cells (fdL.map strV).toArray 9)).drew)) :=
      ⟨Nat.le_refl _, ((Blk.new wz _ _).alloc _).drew, (((Below.refl wz.heap.size wz).alloc (Nat.le_refl _) _).alloc (by simp) _).drew⟩
    go_region_with (first
      | (go_at_call 48; refine (ref_fd_any _).mono ?_; rintro e wx ⟨rfl, rfl⟩)
      | (go_at_call 37; (with_reducible refine (HIX.out _ _ ?_).mono ?_); (first | exact K1.out | exact K2.out | exact K3.out); (rintro e wx ⟨rfl, rfl⟩)))
    all_goals
      go_wp2_with fail
      go_meet
      case rel => first | exact ⟨_, rfl, E1.out⟩ | exact ⟨_, rfl, E2.out⟩
  case rest =>
    obtain ⟨G3, rfl, hG3, hk3, hb3⟩ := hcut
    have hw3 := HW2.out.below hb3 hsz
    have HG3 := Lib.hid (World.grownBy.trans HG.out (grown_of_below hb3 (some R)))
    have HR3 := Lib.hid (HR2.out.same hb3)
    obtain ⟨c0, c1, c2⟩ := rd_cells hk3
    obtain ⟨t0, t1⟩ := wd_cells hw3
    have hszc : wz.heap.size ≤ wc.heap.size := hb3.size
    have hG3c : G3 < wc.heap.size := hk3.lt
    have HK3 := Lib.hid hk3
    have HW3 := Lib.hid hw3
    clear hb3 hk3 hw3 HIX HR2 HG HW2 hwz e6 e4 w0' w1'
    by_cases hi : fi < 0
    · have k1 : decide (fi < 0) = true := by rw [decide_eq_true_eq]; exact hi
      have HFL := Lib.hid (rfail_any (b : Int) 17 v _ HR3.out)
      have HC : Hid (cndR (v :: r) = .error (v :: r, 17)) := cndR_unk (by rw [HFI.out]; exact hi)
      clear hi
      go_wp2_with fail
      refine HFL.out.mono ?_
      rintro e y3 ⟨⟨u, rfl⟩, hr4, hg4⟩
      have HR4 := Lib.hid hr4
      have HG4 := Lib.hid (World.grownBy.trans HG3.out hg4)
      clear hr4 hg4
      go_wp2_with fail
      refine bodyPost_ret (results_none rfl _ _ _) rfl ?_
      refine ⟨⟨_, rfl⟩, Gr2.of_grown _ HG4.out, r, whl, _, _, HR4.out, .inr ⟨fun h => by omega, ?_⟩⟩
      rw [HC.out]
      simp only []
      rw [plcR_cons, HB.out]
      exact if_pos HP.out
    · have k1 : decide (fi < 0) = false := by rw [decide_eq_false_iff_not]; exact hi
      have HI := Lib.hid hi
      obtain ⟨tx2, b2, r2, p2, HN2, HFP, HCS⟩ : ∃ (tx2 : Wd) (b2 : Nat) (r2 : List Wd) (p2 : Int × Int), Hid (Calls Tryz.prog 36 #[.pointer (some ⟨R, 0, none⟩)] wc (NxtSays n0 w0 R W len verb byl byv whl (.slice Aw whl.length cw) (b2 : Int) tx2 r2 p2 wc)) ∧ Hid (flR p2 (b2 : Int) 3 = ((plcR W r len : Int), 3)) ∧ Hid ((r = [] ∧ tx2 = []) ∨ (r = tx2 :: r2 ∧ p2 = p)) := by
        cases r with
        | nil =>
          refine ⟨[], len, [], flR p (len : Int) 3, rnext_none wc HR3.out, ?_, .inl ⟨rfl, rfl⟩⟩
          show _ = _
          rw [plcR_nil, show flR p (len : Int) 3 = ((len : Int), 3) from if_pos HP.out]
          exact if_neg (show ¬ (3 : Int) = 0 by decide)
        | cons o vs =>
          refine ⟨o, bOf W (o :: vs), vs, p, rnext_some wc HR3.out, ?_, .inr ⟨rfl, rfl⟩⟩
          show _ = _
          rw [plcR_cons]
          exact if_pos HP.out
      clear hi
      go_wp2_with fail
      refine HN2.out.mono ?_
      rintro e y3 ⟨rfl, hr4, hg4⟩
      have hk4 := HK3.out.grown hg4 (by intro e; injection e with e; obtain ⟨_, _, _, hk, _⟩ := HR3.out.blk; exact Blk.ne_ HK3.out hk (by decide) e)
      have hw4 := HW3.out.grown hg4 (by intro e; injection e with e; obtain ⟨_, _, _, hk, _⟩ := HR3.out.blk; exact Blk.ne_ HW3.out hk (by decide) e)
      have hyR : y.heap.size ≠ R := fun e => by obtain ⟨_, _, _, hk, _⟩ := HR3.out.blk; exact Blk.ne_ HW3.out hk (by decide) e
      have HR4 := Lib.hid hr4
      have HG4 := Lib.hid (World.grownBy.trans HG3.out hg4)
      have HK4 := Lib.hid hk4
      have HW4 := Lib.hid hw4
      clear c0 c1 c2 t0 t1
      obtain ⟨c0, c1, c2⟩ := rd_cells hk4
      obtain ⟨t0, t1⟩ := wd_cells hw4
      have ft := hw4.frozen
      have hsy4 : wc.heap.size ≤ y3.heap.size := hg4.size
      clear hk4 hw4 hr4 hg4 HN2 HK3 HW3 HR3 HG3
      obtain ⟨w4, hw4⟩ : ∃ w4, (y3.setCell ⟨y.heap.size, 0, none⟩ (.int .i64 (b2 : Int))).setCell ⟨y.heap.size, 1, none⟩ (.string ⟨tx2.toArray⟩) = w4 := ⟨_, rfl⟩
      have hs4 : w4.heap.size = y3.heap.size := by rw [← hw4, World.size_setCell, World.size_setCell]
      have HR5 : Hid (RSt n0 w0 R W r2 len verb byl byv whl (.slice Aw whl.length cw) p2 w4) := by
        show RSt _ _ _ _ _ _ _ _ _ _ _ _ _
        rw [← hw4]; exact RSt.far HX.out (RSt.far HX.out HR4.out hxy 0 _) hxy 1 _
      have HG5 : Hid (x.grownBy w4 (some R)) := by
        show World.grownBy _ _ _
        rw [← hw4]; exact grown_new (grown_new HG4.out hxy 0 _) hxy 1 _
      have HK5 : Hid (Blk w4 G3 72 #[.int .i64 fi, .int .i64 0, .int .i64 0]) := by
        show Blk _ _ _ _
        rw [← hw4]; exact (HK4.out.far (p := ⟨y.heap.size, 0, none⟩) (by simp only []; omega) _).far (p := ⟨y.heap.size, 1, none⟩) (by simp only []; omega) _
      have HW5 : Hid (Blk w4 y.heap.size 89 #[.int .i64 (b2 : Int), .string ⟨tx2.toArray⟩]) := by
        show Blk _ _ _ _
        rw [← hw4]
        have := (HW4.out.set_ 0 (.int .i64 (b2 : Int))).set_ 1 (.string ⟨tx2.toArray⟩)
        simpa using this
      go_upto_region 8 with fail
      clear hw4 c0 c1 c2 t0 t1 ft HR4 HG4 HK4 HW4
      have hIX2 : Hid (∀ w' : World, (∀ j, j < opL.length → w'.cell? ⟨w4.heap.size, j, none⟩ = some (.string ⟨(opL.getD j []).toArray⟩)) → Calls Tryz.prog 37 #[.slice (some ⟨w4.heap.size, 0, none⟩) 6 6, .string ⟨tx2.toArray⟩] w' fun e w'' => e = .returned (.int .i64 (idxW opL tx2)) ∧ w' = w'') := fun w' hc => refIndex_any opL tx2 w4.heap.size 6 6 w' hc rfl (by decide)
      obtain ⟨io, hio⟩ : ∃ io, idxW opL tx2 = io := ⟨_, rfl⟩
      rw [hio] at hIX2
      have HIO := Lib.hid hio
      have hszy : y.heap.size < w4.heap.size := by omega
      have hszg : G3 < w4.heap.size := by omega
      have hszc4 : wc.heap.size ≤ w4.heap.size := by omega
      clear hio hs4
      go_cut [3] from 34 (fun s3 x' => s3 = .pointer (some ⟨G3, 0, none⟩) ∧ Blk x' G3 72 #[.int .i64 fi, .int .i64 io, .int .i64 0] ∧ Blk x' y.heap.size 89 #[.int .i64 (b2 : Int), .string ⟨tx2.toArray⟩] ∧ RSt n0 w0 R W r2 len verb byl byv whl (.slice Aw whl.length cw) p2 x' ∧ x.grownBy x' (some R))
      case first =>
        have K1 := Lib.hid (lst_1 w4 opL)
        have hbk : Below w4.heap.size w4 (w4.alloc (.cells (opL.map strV).toArray 9)) := (Below.refl w4.heap.size w4).alloc (Nat.le_refl _) _
        have hk6 := HK5.out.below hbk hszg
        have hw6 := HW5.out.below hbk hszy
        have HREL : Hid (Blk (((w4.setCell ⟨G3, 1, none⟩ (.int .i64 io)).alloc (.cells (opL.map strV).toArray 9)).drew) G3 72 #[.int .i64 fi, .int .i64 io, .int .i64 0] ∧ Blk (((w4.setCell ⟨G3, 1, none⟩ (.int .i64 io)).alloc (.cells (opL.map strV).toArray 9)).drew) y.heap.size 89 #[.int .i64 (b2 : Int), .string ⟨tx2.toArray⟩] ∧ RSt n0 w0 R W r2 len verb byl byv whl (.slice Aw whl.length cw) p2 (((w4.setCell ⟨G3, 1, none⟩ (.int .i64 io)).alloc (.cells (opL.map strV).toArray 9)).drew) ∧ x.grownBy (((w4.setCell ⟨G3, 1, none⟩ (.int .i64 io)).alloc (.cells (opL.map strV).toArray 9)).drew) (some R)) := by
          refine ⟨?_, ?_, ?_, ?_⟩
          · have := ((HK5.out.set_ 1 (.int .i64 io)).alloc (.cells (opL.map strV).toArray 9)).drew
            simpa using this
          · exact ((HW5.out.far (p := ⟨G3, 1, none⟩) (by simp only []; omega) _).alloc _).drew
          · exact (RSt.far HX.out HR5.out (k := G3) (by omega) 1 _).same (((Below.refl _ _).alloc (Nat.le_refl _) _).drew)
          · exact grown_drew (World.grownBy.trans (grown_new HG5.out (g := G3) (by omega) 1 _) (World.grownBy_alloc _ _ _))
        obtain ⟨c0, c1, c2⟩ := rd_cells HK5.out
        obtain ⟨t0, t1⟩ := wd_cells HW5.out
        obtain ⟨d0, d1, d2⟩ := rd_cells hk6
        obtain ⟨u0, u1⟩ := wd_cells hw6
        have fk6 := hk6.frozen
        clear hk6 hw6 hbk
        go_region_with (first
          | (go_at_call 49; refine (ref_op_any _).mono ?_; rintro e wx ⟨rfl, rfl⟩)
          | (go_at_call 37; (with_reducible refine (hIX2.out _ ?_).mono ?_); (exact K1.out); (rintro e wx ⟨rfl, rfl⟩)))
        all_goals
          go_wp2_with fail
          go_meet
          case rel => exact ⟨rfl, HREL.out⟩
      case rest =>
        obtain ⟨rfl, hk7, hw7, hr7, hg7⟩ := hcut
        have HK7 := Lib.hid hk7
        have HW7 := Lib.hid hw7
        have HR7 := Lib.hid hr7
        have HG7 := Lib.hid hg7
        obtain ⟨c0, c1, c2⟩ := rd_cells hk7
        obtain ⟨t0, t1⟩ := wd_cells hw7
        have fk7 := hk7.frozen
        clear hk7 hw7 hr7 hg7 HK5 HW5 HR5 HG5 hIX2
        have HOT : Hid (idxW (opL.take (opN fi)) tx2 = if fi = 3 then (if 0 ≤ io ∧ io < 2 then io else -1) else io) := by
          show _ = _
          unfold opN
          split
          · rw [idxW_take, HIO.out]; rfl
          · rw [← HIO.out]; rfl
        by_cases ho : io < 0
        · have z1 : decide (io < 0) = true := by rw [decide_eq_true_eq]; exact ho
          have HBAD : Hid (idxW (opL.take (opN (idxW fdL v))) tx2 < 0) := by
            show _ < _
            rw [HFI.out, HOT.out]
            split
            · rw [if_neg (by omega)]; omega
            · exact ho
          clear ho HOT
          have HFL := Lib.hid (rfail_any (b2 : Int) 3 tx2 _ HR7.out)
          go_wp2_with fail
          refine HFL.out.mono ?_
          rintro e y8 ⟨⟨u, rfl⟩, hr8, hg8⟩
          have HR8 := Lib.hid hr8
          have HG8 := Lib.hid (World.grownBy.trans HG7.out hg8)
          clear hr8 hg8
          go_wp2_with fail
          refine bodyPost_ret (results_none rfl _ _ _) rfl ?_
          refine ⟨⟨_, rfl⟩, Gr2.of_grown _ HG8.out, r2, whl, _, _, HR8.out, .inr ⟨fun h => by omega, ?_⟩⟩
          have hcr : cndR (v :: r) = .error (r, 3) := by
            have hx : ¬ idxW fdL v < 0 := by rw [HFI.out]; have := HI.out; omega
            rcases HCS.out with ⟨h1, h2⟩ | ⟨h1, h2⟩
            · rw [h1]; exact cndR_one hx
            · rw [h1]; exact cndR_op hx (HBAD.out)
          rw [hcr]
          exact HFP.out
        · have z1 : decide (io < 0) = false := by rw [decide_eq_false_iff_not]; exact ho
          have hcs2 : r = tx2 :: r2 ∧ p2 = p := by
            rcases HCS.out with ⟨h1, h2⟩ | h
            · rw [h2] at HIO
              have := HIO.out
              rw [show idxW opL [] = -1 from rfl] at this
              omega
            · exact h
          obtain ⟨hr2, hp2⟩ := hcs2
          by_cases h3 : fi = 3
          · by_cases h1 : 1 < io
            · have z2 : (fi == 3) = true := by rw [beq_iff_eq]; exact h3
              have z3 : decide (1 < io) = true := by rw [decide_eq_true_eq]; exact h1
              have HBAD : Hid (idxW (opL.take (opN (idxW fdL v))) tx2 < 0) := by
                show _ < _
                rw [HFI.out, HOT.out, if_pos h3, if_neg (by omega)]; omega
              clear ho h3 h1 hr2 hp2 HOT
              have HFL := Lib.hid (rfail_any (b2 : Int) 3 tx2 _ HR7.out)
              go_wp2_with fail
              refine HFL.out.mono ?_
              rintro e y8 ⟨⟨u, rfl⟩, hr8, hg8⟩
              have HR8 := Lib.hid hr8
              have HG8 := Lib.hid (World.grownBy.trans HG7.out hg8)
              clear hr8 hg8
              go_wp2_with fail
              refine bodyPost_ret (results_none rfl _ _ _) rfl ?_
              refine ⟨⟨_, rfl⟩, Gr2.of_grown _ HG8.out, r2, whl, _, _, HR8.out, .inr ⟨fun h => by omega, ?_⟩⟩
              have hcr : cndR (v :: r) = .error (r, 3) := by
                have hx : ¬ idxW fdL v < 0 := by rw [HFI.out]; have := HI.out; omega
                rcases HCS.out with ⟨h1, h2⟩ | ⟨h1, h2⟩
                · rw [h1]; exact cndR_one hx
                · rw [h1]; exact cndR_op hx (HBAD.out)
              rw [hcr]
              exact HFP.out
            · have z2 : (fi == 3) = true := by rw [beq_iff_eq]; exact h3
              have z3 : decide (1 < io) = false := by rw [decide_eq_false_iff_not]; exact h1
              have HGD : Hid (idxW (opL.take (opN (idxW fdL v))) tx2 = io) := by
                show _ = _
                rw [HFI.out, HOT.out, if_pos h3, if_pos (by omega)]
              have HO := Lib.hid ho
              clear ho h3 h1 HOT
              have HOS : Hid (Calls Tryz.prog 75 #[.pointer (some ⟨R, 0, none⟩), .agg #[.int .i64 fi, .int .i64 io, .int .i64 0]] wc fun e y8 => ∃ n r3 p3, e = .returned (.int .i64 n) ∧ RSt n0 w0 R W r3 len verb byl byv whl (.slice Aw whl.length cw) p3 y8 ∧ wc.grownBy y8 (some R) ∧ CndOut W (v :: r) len whl p r3 (whl ++ [⟨fi, io, n⟩]) p3) := by
                show Calls _ _ _ _ _
                have hx : ¬ idxW fdL v < 0 := by rw [HFI.out]; have := HI.out; omega
                have hg : ¬ idxW (opL.take (opN (idxW fdL v))) tx2 < 0 := by rw [HGD.out]; exact HO.out
                refine (rop_any fi io 0 _ HR7.out (by rw [hp2]; exact HP.out) (fun z hz => HL.out z (by rw [hr2]; simp [hz]))).mono fun e y8 hh => ?_
                cases r2 with
                | nil =>
                  unfold OpSays at hh
                  simp only [] at hh
                  refine ⟨0, [], _, hh.1, hh.2.1, hh.2.2, .inr ⟨fun h => by omega, ?_⟩⟩
                  rw [hr2, cndR_two hx hg]
                  simp only []
                  rw [plcR_nil]
                | cons z vs =>
                  unfold OpSays at hh
                  simp only [] at hh
                  by_cases hv : (valO fi z).2 = 0
                  · rw [if_pos hv] at hh
                    refine ⟨(valO fi z).1, vs, p2, hh.1, hh.2.1, hh.2.2, .inr ⟨fun h => by omega, ?_⟩⟩
                    rw [hr2, cndR_ok hx hg (by rw [HFI.out]; exact hv), HGD.out, HFI.out]
                    exact ⟨rfl, rfl, hp2⟩
                  · rw [if_neg hv] at hh
                    obtain ⟨⟨n, h1⟩, h2, h3⟩ := hh
                    refine ⟨n, vs, _, h1, h2, h3, .inr ⟨fun h => by omega, ?_⟩⟩
                    rw [hr2, cndR_bad hx hg (by rw [HFI.out]; exact hv), HFI.out]
                    simp only []
                    rw [plcR_cons]
              go_wp2_with fail
              refine HOS.out.mono ?_
              rintro e y8 ⟨n, r3, p3, rfl, hr8, hg8, hco⟩
              have HCO := Lib.hid hco
              have hG3R : G3 ≠ R := by have := HX.out.size; omega
              have hk8 := HK7.out.grown hg8 (by intro e; injection e with e; exact hG3R e)
              have hs8 : wc.heap.size ≤ y8.heap.size := hg8.size
              have HR9 := Lib.hid (RSt.far HX.out hr8 (k := G3) (by omega) 2 (.int .i64 n))
              have HG9 := Lib.hid (grown_new (World.grownBy.trans HG7.out hg8) (g := G3) (by omega) 2 (.int .i64 n))
              have HK9 : Hid (Blk (y8.setCell ⟨G3, 2, none⟩ (.int .i64 n)) G3 72 #[.int .i64 fi, .int .i64 io, .int .i64 n]) := by
                show Blk _ _ _ _
                have := hk8.set_ 2 (.int .i64 n)
                simpa using this
              clear c0 c1 c2 t0 t1 fk7
              obtain ⟨c0, c1, c2⟩ := rd_cells hk8
              have fk8 := hk8.frozen
              clear hr8 hg8 hk8 hco HOS HR7 HG7 HK7 HW7
              obtain ⟨w9, hw9⟩ : ∃ w9, y8.setCell ⟨G3, 2, none⟩ (.int .i64 n) = w9 := ⟨_, rfl⟩
              rw [hw9] at HR9 HG9 HK9
              go_upto_region 12 with fail
              clear hw9 c0 c1 c2 fk8
              obtain ⟨c0, c1, c2⟩ := rd_cells HK9.out
              obtain ⟨e6, e4, e3, fR⟩ := rst_cell HR9.out
              obtain ⟨i0, hi0, hz0, hz1, hz2⟩ := info_parts info_rcond
              have hsR : R < w9.heap.size := HR9.out.size
              have hsg : G3 < w9.heap.size := HK9.out.lt
              go_region_law (refine step_append_any _ rfl (.tmp 64) (.tmp 66) _ rfl n0 72 i0 _ 3 24 Tryz.underlying30 hi0 hz0 hz1 hz2 rfl (by omega) _ whl.length (cndC whl) (by simp [Act.eval]) (HR9.out.who.alloc _) (w9.heap.size + 1) (some ⟨w9.heap.size, 0, none⟩) 1 1 [.int .i64 fi, .int .i64 io, .int .i64 n] (by simp [Act.eval]) (reads_one w9 #[.int .i64 fi, .int .i64 io, .int .i64 n] 72 3 rfl) (cond_one _ _ _) (by simp only [maxLen]; omega) (by omega) (by simp only [World.size_drew, World.size_alloc]; have := HR9.out.low; omega) ?_; intro v4 w4 hown4 hg4 hat4; obtain ⟨A4, c4, rfl⟩ := own_slice hown4; obtain ⟨hb4, hf4⟩ := rst_app HR9.out (grown_undrew hg4))
              all_goals
                have hF := RSt.push HR9.out (grown_undrew hg4) hown4
                have hG := Gr2.app (u := .slice A4 (whl.length + 1) c4) HG9.out (grown_undrew hg4) 4
                go_end0
                exact ⟨⟨_, rfl⟩, hG, r3, _, _, p3, hF, HCO.out⟩
          · have z2 : (fi == 3) = false := by rw [beq_eq_false_iff_ne]; exact h3
            have HGD : Hid (idxW (opL.take (opN (idxW fdL v))) tx2 = io) := by
              show _ = _
              rw [HFI.out, HOT.out, if_neg h3]
            have HO := Lib.hid ho
            clear ho h3 HOT
            have HOS : Hid (Calls Tryz.prog 75 #[.pointer (some ⟨R, 0, none⟩), .agg #[.int .i64 fi, .int .i64 io, .int .i64 0]] wc fun e y8 => ∃ n r3 p3, e = .returned (.int .i64 n) ∧ RSt n0 w0 R W r3 len verb byl byv whl (.slice Aw whl.length cw) p3 y8 ∧ wc.grownBy y8 (some R) ∧ CndOut W (v :: r) len whl p r3 (whl ++ [⟨fi, io, n⟩]) p3) := by
              show Calls _ _ _ _ _
              have hx : ¬ idxW fdL v < 0 := by rw [HFI.out]; have := HI.out; omega
              have hg : ¬ idxW (opL.take (opN (idxW fdL v))) tx2 < 0 := by rw [HGD.out]; exact HO.out
              refine (rop_any fi io 0 _ HR7.out (by rw [hp2]; exact HP.out) (fun z hz => HL.out z (by rw [hr2]; simp [hz]))).mono fun e y8 hh => ?_
              cases r2 with
              | nil =>
                unfold OpSays at hh
                simp only [] at hh
                refine ⟨0, [], _, hh.1, hh.2.1, hh.2.2, .inr ⟨fun h => by omega, ?_⟩⟩
                rw [hr2, cndR_two hx hg]
                simp only []
                rw [plcR_nil]
              | cons z vs =>
                unfold OpSays at hh
                simp only [] at hh
                by_cases hv : (valO fi z).2 = 0
                · rw [if_pos hv] at hh
                  refine ⟨(valO fi z).1, vs, p2, hh.1, hh.2.1, hh.2.2, .inr ⟨fun h => by omega, ?_⟩⟩
                  rw [hr2, cndR_ok hx hg (by rw [HFI.out]; exact hv), HGD.out, HFI.out]
                  exact ⟨rfl, rfl, hp2⟩
                · rw [if_neg hv] at hh
                  obtain ⟨⟨n, h1⟩, h2, h3⟩ := hh
                  refine ⟨n, vs, _, h1, h2, h3, .inr ⟨fun h => by omega, ?_⟩⟩
                  rw [hr2, cndR_bad hx hg (by rw [HFI.out]; exact hv), HFI.out]
                  simp only []
                  rw [plcR_cons]
            go_wp2_with fail
            refine HOS.out.mono ?_
            rintro e y8 ⟨n, r3, p3, rfl, hr8, hg8, hco⟩
            have HCO := Lib.hid hco
            have hG3R : G3 ≠ R := by have := HX.out.size; omega
            have hk8 := HK7.out.grown hg8 (by intro e; injection e with e; exact hG3R e)
            have hs8 : wc.heap.size ≤ y8.heap.size := hg8.size
            have HR9 := Lib.hid (RSt.far HX.out hr8 (k := G3) (by omega) 2 (.int .i64 n))
            have HG9 := Lib.hid (grown_new (World.grownBy.trans HG7.out hg8) (g := G3) (by omega) 2 (.int .i64 n))
            have HK9 : Hid (Blk (y8.setCell ⟨G3, 2, none⟩ (.int .i64 n)) G3 72 #[.int .i64 fi, .int .i64 io, .int .i64 n]) := by
              show Blk _ _ _ _
              have := hk8.set_ 2 (.int .i64 n)
              simpa using this
            clear c0 c1 c2 t0 t1 fk7
            obtain ⟨c0, c1, c2⟩ := rd_cells hk8
            have fk8 := hk8.frozen
            clear hr8 hg8 hk8 hco HOS HR7 HG7 HK7 HW7
            obtain ⟨w9, hw9⟩ : ∃ w9, y8.setCell ⟨G3, 2, none⟩ (.int .i64 n) = w9 := ⟨_, rfl⟩
            rw [hw9] at HR9 HG9 HK9
            go_upto_region 12 with fail
            clear hw9 c0 c1 c2 fk8
            obtain ⟨c0, c1, c2⟩ := rd_cells HK9.out
            obtain ⟨e6, e4, e3, fR⟩ := rst_cell HR9.out
            obtain ⟨i0, hi0, hz0, hz1, hz2⟩ := info_parts info_rcond
            have hsR : R < w9.heap.size := HR9.out.size
            have hsg : G3 < w9.heap.size := HK9.out.lt
            go_region_law (refine step_append_any _ rfl (.tmp 64) (.tmp 66) _ rfl n0 72 i0 _ 3 24 Tryz.underlying30 hi0 hz0 hz1 hz2 rfl (by omega) _ whl.length (cndC whl) (by simp [Act.eval]) (HR9.out.who.alloc _) (w9.heap.size + 1) (some ⟨w9.heap.size, 0, none⟩) 1 1 [.int .i64 fi, .int .i64 io, .int .i64 n] (by simp [Act.eval]) (reads_one w9 #[.int .i64 fi, .int .i64 io, .int .i64 n] 72 3 rfl) (cond_one _ _ _) (by simp only [maxLen]; omega) (by omega) (by simp only [World.size_drew, World.size_alloc]; have := HR9.out.low; omega) ?_; intro v4 w4 hown4 hg4 hat4; obtain ⟨A4, c4, rfl⟩ := own_slice hown4; obtain ⟨hb4, hf4⟩ := rst_app HR9.out (grown_undrew hg4))
            all_goals
              have hF := RSt.push HR9.out (grown_undrew hg4) hown4
              have hG := Gr2.app (u := .slice A4 (whl.length + 1) c4) HG9.out (grown_undrew hg4) 4
              go_end0
              exact ⟨⟨_, rfl⟩, hG, r3, _, _, p3, hF, HCO.out⟩
end Go.Proofs.YtfnlddloalineaaGreatDoor
namespace Go.Proofs.YtfnlddloalineaaGreatDoor
open Go.RowKit
set_option linter.unusedVariables false
set_option maxRecDepth 100000
/-- is one of the first k fields there twice? -/
def dupK (L : List Int) (k : Nat) : Bool := (List.range k).any fun i => (L.take i).contains (L.getD i 0)
theorem dupK_all (L : List Int) : dupK L L.length = dupB L := rfl
theorem dupK_succ (L : List Int) (k : Nat) : dupK L (k + 1) = (dupK L k || (L.take k).contains (L.getD k 0)) := by
  unfold dupK
  rw [List.range_succ, List.any_append]
  simp
/-- how by ends -/
def RbOut (W ws : List Wd) (len : Nat) (p : Int × Int) (ws' : List Wd) (byl' : List Int) (p' : Int × Int) : Prop := match ws with
  | [] => p' = ((len : Int), 3)
  | w :: r => ws' = r ∧ match byR w with
    | .error E => p' = ((bOf W (w :: r) : Int), E)
    | .ok l => byl' = l ∧ p' = p
def RbSays (n0 : Nat) (w0 : World) (R : Nat) (W ws : List Wd) (len : Nat) (verb : Int) (whl : List SCond) (whv : Value) (p : Int × Int) (x : World) (e : Ending) (y : World) : Prop :=
  (∃ v, e = .returned v) ∧ x.grownBy y (some R) ∧ ∃ ws' byl' byv' p', RSt n0 w0 R W ws' len verb byl' byv' whl whv p' y ∧ RbOut W ws len p ws' byl' p'
set_option maxHeartbeats 2000000 in
theorem rb_none {n0 : Nat} {w0 : World} {R : Nat} {W : List Wd} {len : Nat} {verb : Int} {byl : List Int} {byv : Value} {whl : List SCond} {whv : Value} {p : Int × Int} (x : World) (h : RSt n0 w0 R W [] len verb byl byv whl whv p x) (hp : p.2 = 0) :
    Calls Tryz.prog 41 #[.pointer (some ⟨R, 0, none⟩)] x (RbSays n0 w0 R W [] len verb whl whv p x) := by
  have HN := Lib.hid (rnext_none x h)
  rw [show flR p (len : Int) 3 = ((len : Int), 3) from if_pos hp] at HN
  clear h
  go_enter Tryz.func41, Tryz.ntmps41
  go_wp2_with fail
  refine HN.out.mono ?_
  rintro e y ⟨rfl, hr, hg⟩
  have hr2 := hr.same ((Below.refl y.heap.size y).alloc (Nat.le_refl _) (.cells (#[.int .i64 (len : Int), .string ⟨#[]⟩] : Array Value) 89))
  have HG := Lib.hid (World.grownBy.trans hg (World.grownBy_alloc y (.cells (#[.int .i64 (len : Int), .string ⟨#[]⟩] : Array Value) 89) (some R)))
  obtain ⟨e6, _, _, _⟩ := rst_cell hr2
  simp only [] at e6
  have HR2 := Lib.hid hr2
  clear hr hg hr2
  go_wp2_with fail
  refine bodyPost_ret (results_none rfl _ _ _) rfl ?_
  exact ⟨⟨_, rfl⟩, HG.out, [], _, _, _, HR2.out, rfl⟩
/-- a field is appended -/
theorem RSt.pushBy {n0 : Nat} {w0 : World} {R : Nat} {W ws : List Wd} {len : Nat} {verb : Int} {byl : List Int} {byv v' : Value} {whl : List SCond} {whv : Value} {p : Int × Int} {x y : World} {o : Obj} {f : Int} (h : RSt n0 w0 R W ws len verb byl byv whl whv p x) (hg : (x.alloc o).grownBy y byv.ownBlock)
    (hown : y.ownsRow n0 3 1 v' (byl.length + 1) (byl.map intV ++ [.int .i64 f])) :
    y.cell? ⟨R, 3, none⟩ = some byv ∧ y.frozen? ⟨R, 3, none⟩ = false ∧ RSt n0 w0 R W ws len verb (byl ++ [f]) v' whl whv p (y.setCell ⟨R, 3, none⟩ v') := by
  have h1 := h.same ((Below.refl x.heap.size x).alloc (Nat.le_refl _) o)
  obtain ⟨A, cp, hc, hk, hw⟩ := h1.blk
  have hk2 := hk.grown hg (fun e => own_blk_ne h1.byo hk (by decide) e.symm)
  have hwh : y.ownsRow n0 72 3 whv whl.length (cndC whl) := h1.who.kept hg (own_own_ne h1.who h1.byo (by decide))
  have hlow := h1.low
  have hsz := h1.size
  refine ⟨hk2.cell 3, hk2.frozen 3, ⟨A, cp, hc, by have := hk2.set_ 3 v'; simpa using this, fun hn => ?_⟩, h1.suf, ?_, ?_, ?_, h1.low⟩
  · obtain ⟨g, o', cs, e, hgR, hgk, hcs⟩ := hw hn
    exact ⟨g, o', cs, e, hgR, (hgk.grown hg (fun e => own_blk_ne h1.byo hgk (by decide) e.symm)).far (p := ⟨R, 3, none⟩) (by simp only []; omega) _, hcs⟩
  · have := ownsRow_setCell_other hown (a := ⟨R, 3, none⟩) (own_blk_ne hown hk2 (by decide)) v'
    rw [List.length_append, List.map_append]
    exact this
  · exact ownsRow_setCell_other hwh (a := ⟨R, 3, none⟩) (own_blk_ne hwh hk2 (by decide)) _
  · exact (h1.below.grown hg (by omega) (fun r e => own_base h1.byo r e)).setCell (p := ⟨R, 3, none⟩) (by simp only []; omega) _
theorem row_blk {w : World} {b : Nat} {e : TypeId} {size n : Nat} {v : Value} {xs : List Value} (h : w.ownsRow b e size v n xs) (hn : 0 < n) : ∃ (g cap : Nat) (cs : Array Value), v = .slice (some ⟨g, 0, none⟩) n cap ∧ Blk w g e cs ∧ n ≤ cap ∧ b ≤ g ∧ ∀ (j : Nat) (u : Value), xs[j]? = some u → cs[j]? = some u := by
  rcases h.2 with ⟨_, h0⟩ | ⟨g, cap, cur, rfl, hb, hh, h1, _⟩
  · omega
  · have hk : Blk w g e cur := hh
    refine ⟨g, cap, cur, rfl, hk, h1, hb, fun j u hu => ?_⟩
    have := h.cells (g := g) rfl j u hu
    have e : (⟨g, 0, none⟩ : Addr).add j = ⟨g, j, none⟩ := by unfold Addr.add; split <;> simp_all
    rw [e, hk.cell j] at this
    exact this
theorem wcells_at : ∀ (ws : List Wd) (b i : Nat), i < ws.length → (wcells b ws)[i * 2 + 1]? = some (.string ⟨(ws.getD i []).toArray⟩) := by
  intro ws
  induction ws with
  | nil => intro b i h; simp at h
  | cons x r ih =>
    intro b i h
    cases i with
    | zero => rfl
    | succ i =>
      have := ih (b + (x.length + 1)) i (by simpa using h)
      rw [show (i + 1) * 2 + 1 = (i * 2 + 1) + 2 by omega]
      exact this
theorem byN_at (v : Wd) {k : Nat} (hk : k < (piecesL 44 v).length) : (byN v).getD k 0 = idxW fdL ((piecesL 44 v).getD k []) := by
  unfold byN
  rw [List.getD_eq_getElem?_getD, List.getElem?_map, List.getD_eq_getElem?_getD, List.getElem?_eq_getElem hk]
  rfl
set_option maxHeartbeats 8000000 in
theorem rb_some {n0 : Nat} {w0 : World} {R : Nat} {W r : List Wd} {v : Wd} {len : Nat} {verb : Int} {whl : List SCond} {whv : Value} {p : Int × Int} (x : World) (h : RSt n0 w0 R W (v :: r) len verb [] (.slice none 0 0) whl whv p x) (hp : p.2 = 0) (hl : v.length ≤ 1000) :
    Calls Tryz.prog 41 #[.pointer (some ⟨R, 0, none⟩)] x (RbSays n0 w0 R W (v :: r) len verb whl whv p x) := by
  have HN := Lib.hid (rnext_some x h)
  have HP := Lib.hid hp
  have HX := Lib.hid h
  have hRx := h.size
  generalize hb : bOf W (v :: r) = b at *
  have HB := Lib.hid hb
  clear h hp hb
  go_enter Tryz.func41, Tryz.ntmps41
  go_wp2_with fail
  refine HN.out.mono ?_
  rintro e y ⟨rfl, hr, hg⟩
  have hr2 := hr.same ((Below.refl y.heap.size y).alloc (Nat.le_refl _) (.cells (#[.int .i64 (b : Int), .string ⟨v.toArray⟩] : Array Value) 89))
  have hg2 := World.grownBy.trans hg (World.grownBy_alloc y (.cells (#[.int .i64 (b : Int), .string ⟨v.toArray⟩] : Array Value) 89) (some R))
  have hw2 := Blk.new y 89 #[.int .i64 (b : Int), .string ⟨v.toArray⟩]
  obtain ⟨e6, _, _, _⟩ := rst_cell hr2
  rw [HP.out] at e6
  obtain ⟨wz, hwz⟩ : ∃ wz, y.alloc (.cells (#[.int .i64 (b : Int), .string ⟨v.toArray⟩] : Array Value) 89) = wz := ⟨_, rfl⟩
  have hsz : y.heap.size < wz.heap.size := by rw [← hwz]; simp
  have hxy : x.heap.size ≤ y.heap.size := hg.size
  rw [hwz] at hr2 hg2 hw2 e6
  obtain ⟨t0, t1⟩ := wd_cells hw2
  have HW2 := Lib.hid hw2
  have HR2 := Lib.hid hr2
  have HG2 := Lib.hid hg2
  have HSP := Lib.hid (refSplit_any 44 v wz hl)
  clear hr hg hr2 hw2 hg2 HN
  go_wp2_with fail
  refine HSP.out.mono ?_
  rintro e w3 ⟨pv, rfl, hpo, hb3⟩
  clear HSP hwz
  have hw3 := HW2.out.below hb3 hsz
  have HW3 := Lib.hid hw3
  have HR3 := Lib.hid (HR2.out.same hb3)
  have HG3 := Lib.hid (World.grownBy.trans HG2.out (grown_of_below hb3 (some R)))
  have hpos : 0 < (piecesL 44 v).length := by
    rcases Nat.eq_zero_or_pos (piecesL 44 v).length with h | h
    · exact absurd (List.eq_nil_of_length_eq_zero h) (piecesL_ne 44 v)
    · exact h
  have hpl : (piecesL 44 v).length ≤ 1001 := by
    have h2 := plSum_len (piecesL 44 v)
    have h3 := pieces_sum 44 v
    omega
  obtain ⟨g, cap, cs, rfl, hgk, hcap, hgb, hcs⟩ := row_blk hpo hpos
  have HGK := Lib.hid hgk
  have HCS : Hid (∀ k, k < (piecesL 44 v).length → cs[k * 2 + 1]? = some (.string ⟨((piecesL 44 v).getD k []).toArray⟩)) := fun k hk => hcs _ _ (wcells_at _ 0 k hk)
  have HLN : Hid ((byN v).length = (piecesL 44 v).length) := by show _ = _; unfold byN; rw [List.length_map]
  have HAT : Hid (∀ k, k < (piecesL 44 v).length → (byN v).getD k 0 = idxW fdL ((piecesL 44 v).getD k [])) := fun k hk => byN_at v hk
  have HMEM : Hid (∀ k, k < (piecesL 44 v).length → (piecesL 44 v).getD k [] ∈ piecesL 44 v) := fun k hk => by
    rw [List.getD_eq_getElem?_getD, List.getElem?_eq_getElem hk]; exact List.getElem_mem hk
  have HPCS := Lib.hid (rfl : piecesL 44 v = piecesL 44 v)
  clear hpo hgk hcs hb3 hw3 HR2 HG2 HW2 t0 t1 e6
  obtain ⟨n, hn⟩ : ∃ n, (piecesL 44 v).length = n := ⟨_, rfl⟩
  rw [hn] at HCS HLN HAT HMEM hpos hpl hcap ⊢
  clear hn
  obtain ⟨i0, hi0, hz0, hz1, hz2⟩ := info_parts info_int
  go_wp2_with fail
  go_loopw [4, 5] (fun tw i wr => ∃ (k : Nat) (bv : Value), k ≤ n ∧ (∀ q, bv.ownBlock = some q → x.heap.size ≤ q) ∧ i = .int .i64 (k : Int) ∧ tw = .bool (dupK (byN v) k) ∧ (∀ j, j < k → 0 ≤ (byN v).getD j 0) ∧ RSt n0 w0 R W r len verb ((byN v).take k) bv whl whv p wr ∧ Blk wr y.heap.size 89 #[.int .i64 (b : Int), .string ⟨v.toArray⟩] ∧ Blk wr g 89 cs ∧ x.grownBy wr (some R)) (fun _ i _ => n - (intOf i).toNat)
  case atStart => exact ⟨0, .slice none 0 0, Nat.zero_le _, fun q e => (by cases e), rfl, rfl, fun j h => by omega, HR3.out, HW3.out, HGK.out, HG3.out⟩
  case round =>
    clear HR3 HW3 HGK HG3
    obtain ⟨k, bv, hk, hob, rfl, rfl, hd, hr, hw, hg, hgr⟩ := hrel
    have HOB := Lib.hid hob
    have HD := Lib.hid hd
    have HR := Lib.hid hr
    have HW := Lib.hid hw
    have HGK := Lib.hid hg
    have HGR := Lib.hid hgr
    clear hd hr hw hg hgr hob
    by_cases hlt : k < n
    · have k1 : decide ((k : Int) < (n : Int)) = true := by rw [decide_eq_true_eq]; omega
      have k2 : decide (k < n) = true := by rw [decide_eq_true_eq]; omega
      have b1 : (k : Int) < (n : Int) := by omega
      have HTX := HCS.out k hlt
      have HAK := Lib.hid (HAT.out k hlt)
      have HMK := Lib.hid (HMEM.out k hlt)
      have HDK := Lib.hid (dupK_succ (byN v) k)
      generalize (piecesL 44 v).getD k [] = tx at *
      have dt : wr.cell? ⟨g, k * 2 + 1, none⟩ = some (.string ⟨tx.toArray⟩) := (HGK.out.cell (k * 2 + 1)).trans HTX
      have hgw : g < wr.heap.size := HGK.out.lt
      have hyw : y.heap.size < wr.heap.size := HW.out.lt
      have HIX : Hid (∀ w' : World, (∀ j, j < fdL.length → w'.cell? ⟨wr.heap.size, j, none⟩ = some (.string ⟨(fdL.getD j []).toArray⟩)) → Calls Tryz.prog 37 #[.slice (some ⟨wr.heap.size, 0, none⟩) 5 5, .string ⟨tx.toArray⟩] w' fun e w'' => e = .returned (.int .i64 (idxW fdL tx)) ∧ w' = w'') := fun w' hc => refIndex_any fdL tx wr.heap.size 5 5 w' hc rfl (by decide)
      clear HTX
      obtain ⟨ik, hik⟩ : ∃ ik, idxW fdL tx = ik := ⟨_, rfl⟩
      rw [hik] at HIX
      have HIK := Lib.hid hik
      clear hik
      go_upto_region 7 with fail
      go_cut [6] from 17 to 56 (fun s6 x' => s6 = .int .i64 ik ∧ Below wr.heap.size wr x')
      case first =>
        have K1 := Lib.hid (lst_1 wr fdL)
        have hbk : Below wr.heap.size wr (wr.alloc (.cells (fdL.map strV).toArray 9)) := (Below.refl wr.heap.size wr).alloc (Nat.le_refl _) _
        have HBK := Lib.hid hbk.drew
        have dt2 : (wr.alloc (.cells (fdL.map strV).toArray 9)).cell? ⟨g, k * 2 + 1, none⟩ = some (.string ⟨tx.toArray⟩) := (hbk.cell (p := ⟨g, k * 2 + 1, none⟩) hgw).trans dt
        clear hbk
        go_region_with (first
          | (go_at_call 48; refine (ref_fd_any _).mono ?_; rintro e wx ⟨rfl, rfl⟩)
          | (go_at_call 37; (with_reducible refine (HIX.out _ ?_).mono ?_); (exact K1.out); (rintro e wx ⟨rfl, rfl⟩)))
        all_goals
          go_wp2_with fail
          go_meet
          case rel => exact ⟨rfl, HBK.out⟩
      case rest =>
        obtain ⟨rfl, hbc⟩ := hcut
        have HR2 := Lib.hid (HR.out.same hbc)
        have HW2 := Lib.hid (HW.out.below hbc hyw)
        have HGK2 := Lib.hid (HGK.out.below hbc hgw)
        have HGR2 := Lib.hid (World.grownBy.trans HGR.out (grown_of_below hbc (some R)))
        have hsc : wr.heap.size ≤ wc.heap.size := hbc.size
        have hxR : R < x.heap.size := hRx
        have hxg : x.heap.size ≤ g := by have := hxy; omega
        clear hbc HR HW HGK HGR HIX dt
        by_cases hik0 : ik < 0
        · have k3 : decide (ik < 0) = true := by rw [decide_eq_true_eq]; exact hik0
          obtain ⟨t0, t1⟩ := wd_cells HW2.out
          have HFL := Lib.hid (rfail_any (b : Int) 17 v _ HR2.out)
          have HBR : Hid (byR v = .error 17) := byR_unknown ⟨tx, HMK.out, by rw [HIK.out]; exact hik0⟩
          clear hik0
          go_wp2_with fail
          refine HFL.out.mono ?_
          rintro e y3 ⟨⟨u, rfl⟩, hr4, hg4⟩
          have HR4 := Lib.hid hr4
          have HG4 := Lib.hid (World.grownBy.trans HGR2.out hg4)
          clear hr4 hg4
          go_wp2_with fail
          refine bodyPost_ret (results_none rfl _ _ _) rfl ?_
          refine ⟨⟨_, rfl⟩, HG4.out, r, _, _, _, HR4.out, rfl, ?_⟩
          rw [HBR.out]
          simp only []
          rw [HB.out]
          exact if_pos HP.out
        · have k3 : decide (ik < 0) = false := by rw [decide_eq_false_iff_not]; exact hik0
          have HNN := Lib.hid hik0
          obtain ⟨Ab, cb, rfl⟩ := own_slice HR2.out.byo
          obtain ⟨Lk, hLk⟩ : ∃ Lk, (byN v).take k = Lk := ⟨_, rfl⟩
          have HTK : Hid ((byN v).take (k + 1) = Lk ++ [ik]) := by
            show _ = _
            have hkl : k < (byN v).length := by rw [HLN.out]; exact hlt
            rw [List.take_succ_eq_append_getElem hkl, hLk, ← HIK.out, ← HAK.out, List.getD_eq_getElem?_getD, List.getElem?_eq_getElem hkl]
            rfl
          have hLl : Lk.length ≤ 1001 := by rw [← hLk, List.length_take]; omega
          rw [hLk] at HR2 HDK HOB
          clear hik0 hLk
          cases hdk : dupK (byN v) k with
          | true =>
            have HDT := Lib.hid hdk
            clear hdk
            have HMAX : Hid (wc.heap.size = wc.heap.size) := rfl
            obtain ⟨e6, e4, e3, fR⟩ := rst_cell HR2.out
            have hlow : n0 ≤ wc.heap.size := by have := HR2.out.low; have := HR2.out.size; omega
            go_wp2_with (at_builtin; refine wpList_append_any _ rfl (.tmp 50) (.tmp 52) _ rfl n0 3 i0 _ 1 8 Tryz.underlying23 hi0 hz0 hz1 hz2 rfl (by omega) _ Lk.length (Lk.map intV) rfl (HR2.out.byo.alloc _) (wc.heap.size + 1) (some ⟨wc.heap.size, 0, none⟩) 1 1 [.int .i64 ik] rfl (reads_one wc #[.int .i64 ik] 3 1 rfl) (int_one _) (by simp only [maxLen]; omega) (by omega) (by simp only [World.size_alloc]; omega) ?_; intro v4 w4 hown4 hg4 hat4; obtain ⟨A4, c4, rfl⟩ := own_slice hown4; obtain ⟨d3, g3, hst4⟩ := HR2.out.pushBy hg4 hown4; have HST4 := Lib.hid hst4; have HAT4 := Lib.hid hat4; have HG4 := Lib.hid hg4; have HO4 := Lib.hid hown4; clear hst4 hat4 hown4 hg4 e6 e4 e3 fR)
            go_roundw
            case rel =>
              have hrow : ∀ q, (Value.slice Ab Lk.length cb).ownBlock = some q → x.heap.size ≤ q := HOB.out
              have hxc : x.heap.size ≤ wc.heap.size := HGR2.out.size
              have hwF := ((HW2.out.alloc (.cells (#[.int .i64 ik] : Array Value) 3)).grown HG4.out (fun e => own_blk_ne HR2.out.byo HW2.out (by decide) e.symm)).far (p := ⟨R, 3, none⟩) (by simp only []; omega) (.slice A4 (Lk.length + 1) c4)
              have hgF := ((HGK2.out.alloc (.cells (#[.int .i64 ik] : Array Value) 3)).grown HG4.out (fun e => own_blk_ne HR2.out.byo HGK2.out (by decide) e.symm)).far (p := ⟨R, 3, none⟩) (by simp only []; omega) (.slice A4 (Lk.length + 1) c4)
              have hxF := grown_set (grown_row (World.grownBy.trans HGR2.out (World.grownBy_alloc wc (.cells (#[.int .i64 ik] : Array Value) 3) (some R))) HG4.out hrow) 3 (.slice A4 (Lk.length + 1) c4)
              refine ⟨k + 1, .slice A4 (Lk.length + 1) c4, by omega, fun q e => ?_, by go_num, ?_, fun j hj => ?_, ?_, hwF, hgF, hxF⟩
              · rcases HAT4.out with h | h
                · rw [h] at e; exact hrow q e
                · rw [h, World.size_alloc] at e; injection e with e; omega
              · rw [HDK.out, HAK.out, HIK.out]
                rw [HDT.out]; rfl
              · by_cases e : j = k
                · rw [e, HAK.out, HIK.out]; have := HNN.out; omega
                · exact HD.out j (by omega)
              · have := HST4.out
                rw [HTK.out]
                exact this
            case measure => simp [intOf]; omega
          | false =>
            have HDT := Lib.hid hdk
            clear hdk
            have hcells : ∀ j, j < Lk.length → ∃ ad : Addr, Ab = some ad ∧ wc.cell? (ad.add j) = some (.int .i64 (Lk.getD j 0)) := fun j hj => by
              obtain ⟨g2, cap2, hv2, _, _⟩ := HR2.out.byo.form (by omega)
              injection hv2 with hv2
              subst hv2
              refine ⟨_, rfl, ?_⟩
              exact HR2.out.byo.cells (g := g2) rfl j (intV (Lk.getD j 0)) (by rw [List.getElem?_map, List.getElem?_eq_getElem hj]; simp [List.getD, hj])
            have HHS := Lib.hid (has_any Lk ik Ab Lk.length cb wc hcells rfl (by omega))
            clear hcells
            obtain ⟨hb, hhb⟩ : ∃ hb, hasB Lk ik = hb := ⟨_, rfl⟩
            rw [hhb] at HHS
            have HHB := Lib.hid hhb
            clear hhb
            obtain ⟨e6, e4, e3, fR⟩ := rst_cell HR2.out
            go_wp2_with fail
            refine HHS.out.mono ?_
            rintro e wx ⟨rfl, rfl⟩
            clear e6 e4 e3 fR
            have HMAX : Hid (wc.heap.size = wc.heap.size) := rfl
            obtain ⟨e6, e4, e3, fR⟩ := rst_cell HR2.out
            have hlow : n0 ≤ wc.heap.size := by have := HR2.out.low; have := HR2.out.size; omega
            go_wp2_with (at_builtin; refine wpList_append_any _ rfl (.tmp 50) (.tmp 52) _ rfl n0 3 i0 _ 1 8 Tryz.underlying23 hi0 hz0 hz1 hz2 rfl (by omega) _ Lk.length (Lk.map intV) rfl (HR2.out.byo.alloc _) (wc.heap.size + 1) (some ⟨wc.heap.size, 0, none⟩) 1 1 [.int .i64 ik] rfl (reads_one wc #[.int .i64 ik] 3 1 rfl) (int_one _) (by simp only [maxLen]; omega) (by omega) (by simp only [World.size_alloc]; omega) ?_; intro v4 w4 hown4 hg4 hat4; obtain ⟨A4, c4, rfl⟩ := own_slice hown4; obtain ⟨d3, g3, hst4⟩ := HR2.out.pushBy hg4 hown4; have HST4 := Lib.hid hst4; have HAT4 := Lib.hid hat4; have HG4 := Lib.hid hg4; have HO4 := Lib.hid hown4; clear hst4 hat4 hown4 hg4 e6 e4 e3 fR)
            go_roundw
            case rel =>
              have hrow : ∀ q, (Value.slice Ab Lk.length cb).ownBlock = some q → x.heap.size ≤ q := HOB.out
              have hxc : x.heap.size ≤ wc.heap.size := HGR2.out.size
              have hwF := ((HW2.out.alloc (.cells (#[.int .i64 ik] : Array Value) 3)).grown HG4.out (fun e => own_blk_ne HR2.out.byo HW2.out (by decide) e.symm)).far (p := ⟨R, 3, none⟩) (by simp only []; omega) (.slice A4 (Lk.length + 1) c4)
              have hgF := ((HGK2.out.alloc (.cells (#[.int .i64 ik] : Array Value) 3)).grown HG4.out (fun e => own_blk_ne HR2.out.byo HGK2.out (by decide) e.symm)).far (p := ⟨R, 3, none⟩) (by simp only []; omega) (.slice A4 (Lk.length + 1) c4)
              have hxF := grown_set (grown_row (World.grownBy.trans HGR2.out (World.grownBy_alloc wc (.cells (#[.int .i64 ik] : Array Value) 3) (some R))) HG4.out hrow) 3 (.slice A4 (Lk.length + 1) c4)
              refine ⟨k + 1, .slice A4 (Lk.length + 1) c4, by omega, fun q e => ?_, by go_num, ?_, fun j hj => ?_, ?_, hwF, hgF, hxF⟩
              · rcases HAT4.out with h | h
                · rw [h] at e; exact hrow q e
                · rw [h, World.size_alloc] at e; injection e with e; omega
              · rw [HDK.out, HAK.out, HIK.out]
                rw [HDT.out, ← HHB.out]; rfl
              · by_cases e : j = k
                · rw [e, HAK.out, HIK.out]; have := HNN.out; omega
                · exact HD.out j (by omega)
              · have := HST4.out
                rw [HTK.out]
                exact this
            case measure => simp [intOf]; omega
    · have k1 : decide ((k : Int) < (n : Int)) = false := by rw [decide_eq_false_iff_not]; omega
      have k2 : decide (k < n) = false := by rw [decide_eq_false_iff_not]; omega
      obtain rfl : k = n := by omega
      have HKN : Hid (byR v = if dupB (byN v) = true then .error 9 else .ok (byN v)) := byR_known (fun z hz => by
        obtain ⟨j, hj, e⟩ := List.getElem_of_mem hz
        have := HD.out j (by have := HLN.out; unfold byN at this; rw [List.length_map] at this; omega)
        rw [byN_at v hj, List.getD_eq_getElem?_getD, List.getElem?_eq_getElem hj] at this
        simp only [Option.getD_some, e] at this
        omega)
      have HDB : Hid (dupK (byN v) k = dupB (byN v)) := by show _ = _; rw [← HLN.out]; exact dupK_all _
      have HTK : Hid ((byN v).take k = byN v) := by show _ = _; exact List.take_of_length_le (by rw [HLN.out]; exact Nat.le_refl _)
      obtain ⟨t0, t1⟩ := wd_cells HW.out
      have HFL := Lib.hid (rfail_any (b : Int) 9 v _ HR.out)
      cases hdk : dupK (byN v) k with
      | true =>
        have HDT := Lib.hid hdk
        clear hdk
        go_wp2_with fail
        refine HFL.out.mono ?_
        rintro e y3 ⟨⟨u, rfl⟩, hr4, hg4⟩
        have HR4 := Lib.hid hr4
        have HG4 := Lib.hid (World.grownBy.trans HGR.out hg4)
        clear hr4 hg4
        go_wp2_with fail
        go_end0
        refine ⟨⟨_, rfl⟩, HG4.out, r, _, _, _, HR4.out, rfl, ?_⟩
        rw [HKN.out, if_pos (by rw [← HDB.out]; exact HDT.out)]
        simp only []
        rw [HB.out]
        exact if_pos HP.out
      | false =>
        have HDT := Lib.hid hdk
        clear hdk
        go_wp2_with fail
        go_end0
        refine ⟨⟨_, rfl⟩, HGR.out, r, _, _, _, HR.out, rfl, ?_⟩
        rw [HKN.out, if_neg (by rw [← HDB.out, HDT.out]; simp)]
        exact ⟨HTK.out, rfl⟩
end Go.Proofs.YtfnlddloalineaaGreatDoor
namespace Go.Proofs.YtfnlddloalineaaGreatDoor
open Go.RowKit
set_option linter.unusedVariables false
/-- what follows a condition, or where: the next word has to be bg -/
def contR (bg : Wd) (m : Nat) (acc : List SCond) : List Wd → Except (List Wd × Int) (List SCond)
  | [] => .ok acc
  | y :: r => if y = bg then whR m acc r else .error (y :: r, 3)
def mapQ (verb : Int) (byl : List Int) : Except (List Wd × Int) (List SCond) → Except (List Wd × Int) SQry
  | .error p => .error p
  | .ok cs => .ok ⟨verb, byl, cs⟩
theorem contR_bg {bg : Wd} {m : Nat} {acc : List SCond} {r : List Wd} : contR bg m acc (bg :: r) = whR m acc r := if_pos rfl
theorem contR_bad {bg y : Wd} {m : Nat} {acc : List SCond} {r : List Wd} (h : y ≠ bg) : contR bg m acc (y :: r) = .error (y :: r, 3) := if_neg h
theorem tailR_cont (verb : Int) (byl : List Int) (ws : List Wd) : tailR verb byl ws = mapQ verb byl (contR whereW 20 [] ws) := by
  cases ws with
  | nil => rfl
  | cons x r =>
    by_cases hx : x = whereW
    · subst hx
      rw [tailR_where, contR_bg]
      cases whR 20 [] r <;> rfl
    · rw [tailR_bad hx, contR_bad hx]
      rfl
theorem whR_cont {m : Nat} {acc : List SCond} {ws r : List Wd} {c : SCond} (hc : cndR ws = .ok (c, r)) : whR (m + 1) acc ws = contR andW m (acc ++ [c]) r := by
  cases r with
  | nil => rw [whR_end hc]; rfl
  | cons y r =>
    by_cases hy : y = andW
    · subst hy; rw [whR_and hc, contR_bg]
    · rw [whR_bad hc hy, contR_bad hy]
/-- how reading has come on: an error; or the conditions that are read, and what is left -/
def PSem (W : List Wd) (len : Nat) (verb : Int) (byl : List Int) (bg : Wd) (ws : List Wd) (whl : List SCond) (p : Int × Int) : Prop :=
  (p.2 ≠ 0 ∧ ∃ r E, qryR W = .error (r, E) ∧ p = ((plcR W r len : Int), E)) ∨
  (p.2 = 0 ∧ ∃ m, m + whl.length = 20 ∧ qryR W = mapQ verb byl (contR bg m whl ws))
/-- one more condition -/
theorem psem_cond {W : List Wd} {len : Nat} {verb : Int} {byl : List Int} {m : Nat} {r ws' : List Wd} {whl whl' : List SCond} {p p' : Int × Int} (hm : m + whl.length = 20) (hp : p.2 = 0) (hq : qryR W = mapQ verb byl (whR m whl r)) (hc : CndOut W r len whl p ws' whl' p') :
    PSem W len verb byl andW ws' whl' p' ∧ (p'.2 = 0 → ws'.length < r.length) := by
  rcases hc with ⟨h1, h2, h3⟩ | ⟨h1, h2⟩
  · have hm0 : m = 0 := by omega
    subst hm0
    rw [whR_full h1] at hq
    subst h3
    refine ⟨.inl ⟨by simp, r, 6, hq, ?_⟩, fun h => absurd h (by simp)⟩
    cases r with
    | nil => exact absurd rfl h1
    | cons y r => rw [plcR_cons]
  · rcases hcr : cndR r with ⟨r', E⟩ | ⟨c, r'⟩
    · rw [hcr] at h2
      simp only [] at h2
      subst h2
      have hn : 0 < m ∨ r = [] := by
        rcases Nat.eq_zero_or_pos m with h0 | h0
        · refine .inr ?_
          by_cases hr : r = []
          · exact hr
          · exact absurd ⟨hr, by omega⟩ h1
        · exact .inl h0
      rw [whR_err hcr hn] at hq
      exact ⟨.inl ⟨cndR_err hcr, r', E, hq, rfl⟩, fun h => absurd h (cndR_err hcr)⟩
    · rw [hcr] at h2
      obtain ⟨rfl, rfl, rfl⟩ := h2
      obtain ⟨a, ha, hal⟩ := cndR_ok_suf hcr
      have hr : r ≠ [] := by
        intro e
        rw [e] at ha
        have := congrArg List.length ha
        simp only [List.length_nil, List.length_append] at this
        omega
      obtain ⟨k, rfl⟩ : ∃ k, m = k + 1 := by
        rcases Nat.eq_zero_or_pos m with h0 | h0
        · exact absurd ⟨hr, by omega⟩ h1
        · exact ⟨m - 1, by omega⟩
      rw [whR_cont hcr] at hq
      refine ⟨.inr ⟨hp, k, by rw [List.length_append]; simp only [List.length_cons, List.length_nil]; omega, hq⟩, fun _ => ?_⟩
      rw [ha, List.length_append]
      omega
theorem psem_verb {W ws : List Wd} {v : Wd} {len b : Nat} {iv : Int} {byl : List Int} (hW : W = v :: ws) (hi : idxW vbL v = iv) (hn : iv < 0) (hb : (plcR W (v :: ws) len : Int) = (b : Int)) : PSem W len iv byl whereW ws [] ((b : Int), 3) := by
  refine .inl ⟨by simp, v :: ws, 3, ?_, by rw [hb]⟩
  rw [hW]
  exact qryR_verb (by omega)
theorem psem_tail {W ws : List Wd} {v : Wd} {len : Nat} {iv : Int} (hW : W = v :: ws) (hi : idxW vbL v = iv) (hn : 0 ≤ iv) (hb : (ws.head? == some byW) = false) : PSem W len iv [] whereW ws [] (0, 0) := by
  refine .inr ⟨rfl, 20, rfl, ?_⟩
  subst hW
  rw [← tailR_cont]
  subst hi
  cases ws with
  | nil => exact qryR_one (by omega)
  | cons b r =>
    refine qryR_plain (by omega) (fun e => ?_)
    subst e
    simp at hb
theorem psem_by {W r ws' : List Wd} {v : Wd} {len : Nat} {iv : Int} {byl' : List Int} {p' : Int × Int} (hW : W = v :: byW :: r) (hi : idxW vbL v = iv) (hn : 0 ≤ iv) (ho : RbOut W r len (0, 0) ws' byl' p') : PSem W len iv byl' whereW ws' [] p' := by
  have hv : ¬ idxW vbL v < 0 := by omega
  cases r with
  | nil =>
    have ho : p' = ((len : Int), 3) := ho
    subst ho
    exact .inl ⟨by simp, [], 3, by rw [hW]; exact qryR_by0 hv, by rw [plcR_nil]⟩
  | cons f r =>
    obtain ⟨rfl, ho⟩ := ho
    have hq := qryR_by (f := f) (ws := ws') hv
    rw [← hW] at hq
    rcases hf : byR f with E | l
    · rw [hf] at ho hq
      simp only [] at ho
      subst ho
      exact .inl ⟨byR_err hf, f :: ws', E, hq, by rw [plcR_cons]⟩
    · rw [hf] at ho hq
      obtain ⟨rfl, rfl⟩ := ho
      refine .inr ⟨rfl, 20, rfl, ?_⟩
      rw [hq, ← tailR_cont, hi]
theorem RSt.farB {n0 : Nat} {w0 : World} {R : Nat} {W ws : List Wd} {len : Nat} {verb : Int} {byl : List Int} {byv : Value} {whl : List SCond} {whv : Value} {p : Int × Int} {x : World} {k : Nat} {cs : Array Value} (h : RSt n0 w0 R W ws len verb byl byv whl whv p x) (hk : Blk x k 89 cs) (hR : R < k) (j : Nat) (u : Value) : RSt n0 w0 R W ws len verb byl byv whl whv p (x.setCell ⟨k, j, none⟩ u) := by
  obtain ⟨A, c, hc, hb, hw⟩ := h.blk
  have hlow := h.low
  refine ⟨⟨A, c, hc, hb.far (p := ⟨k, j, none⟩) (by simp only []; omega) u, fun hn => ?_⟩, h.suf, ?_, ?_, ?_, h.low⟩
  · obtain ⟨g, o, cs, e, hgR, hg, hcs⟩ := hw hn
    exact ⟨g, o, cs, e, hgR, hg.far (p := ⟨k, j, none⟩) (by simp only []; omega) u, hcs⟩
  · exact ownsRow_setCell_other h.byo (a := ⟨k, j, none⟩) (own_blk_ne h.byo hk (by decide)) u
  · exact ownsRow_setCell_other h.who (a := ⟨k, j, none⟩) (own_blk_ne h.who hk (by decide)) u
  · exact h.below.setCell (p := ⟨k, j, none⟩) (by simp only []; omega) u
/-- how reading has ended -/
def PFin (W : List Wd) (len : Nat) (verb : Int) (byl : List Int) (whl : List SCond) (p : Int × Int) : Prop :=
  (p.2 ≠ 0 ∧ ∃ r E, qryR W = .error (r, E) ∧ p = ((plcR W r len : Int), E)) ∨ (p.2 = 0 ∧ qryR W = .ok ⟨verb, byl, whl⟩)
theorem PSem.fin_err {W : List Wd} {len : Nat} {verb : Int} {byl : List Int} {bg : Wd} {ws : List Wd} {whl : List SCond} {p : Int × Int} (h : PSem W len verb byl bg ws whl p) (hp : p.2 ≠ 0) : PFin W len verb byl whl p := by
  rcases h with h | ⟨h, _⟩
  · exact .inl h
  · exact absurd h hp
theorem PSem.fin_nil {W : List Wd} {len : Nat} {verb : Int} {byl : List Int} {bg : Wd} {whl : List SCond} {p : Int × Int} (h : PSem W len verb byl bg [] whl p) (hp : p.2 = 0) : PFin W len verb byl whl p := by
  rcases h with ⟨h, _⟩ | ⟨h, m, _, hq⟩
  · exact absurd hp h
  · exact .inr ⟨h, hq⟩
theorem PSem.fin_bad {W : List Wd} {len : Nat} {verb : Int} {byl : List Int} {bg z : Wd} {r : List Wd} {whl : List SCond} {p : Int × Int} (h : PSem W len verb byl bg (z :: r) whl p) (hp : p.2 = 0) (hz : (z == bg) = false) : PFin W len verb byl whl ((bOf W (z :: r) : Int), 3) := by
  rcases h with ⟨h, _⟩ | ⟨h, m, _, hq⟩
  · exact absurd hp h
  · have hne : z ≠ bg := by rw [beq_eq_false_iff_ne] at hz; exact hz
    rw [contR_bad hne] at hq
    exact .inl ⟨by simp, z :: r, 3, hq, by rw [plcR_cons]⟩
theorem PSem.more {W : List Wd} {len : Nat} {verb : Int} {byl : List Int} {bg z : Wd} {r : List Wd} {whl : List SCond} {p : Int × Int} (h : PSem W len verb byl bg (z :: r) whl p) (hp : p.2 = 0) (hz : (z == bg) = true) : ∃ m, m + whl.length = 20 ∧ qryR W = mapQ verb byl (whR m whl r) := by
  rcases h with ⟨h, _⟩ | ⟨h, m, hm, hq⟩
  · exact absurd hp h
  · have he : z = bg := by rw [beq_iff_eq] at hz; exact hz
    subst he
    rw [contR_bg] at hq
    exact ⟨m, hm, hq⟩
/-- how the reference's Parse ends -/
def RParSays (s : Wd) (w : World) (e : Ending) (w' : World) : Prop := match qryR (piecesL 32 s) with
  | .error (r, E) => e = .returned (.tuple #[.agg #[.int .i64 0, .slice none 0 0, .slice none 0 0], .int .i64 (plcR (piecesL 32 s) r s.length : Int), .int .i64 E]) ∧ Below w.heap.size w w'
  | .ok q => ∃ vb vw, e = .returned (.tuple #[.agg #[.int .i64 q.verb, vb, vw], .int .i64 0, .int .i64 0]) ∧ w'.ownsRow w.heap.size 3 1 vb q.by_.length (q.by_.map intV) ∧ w'.ownsRow w.heap.size 72 3 vw q.wh.length (cndC q.wh) ∧ Below w.heap.size w w'
theorem RSt.setVerb {n0 : Nat} {w0 : World} {R : Nat} {W ws : List Wd} {len : Nat} {verb : Int} {byl : List Int} {byv : Value} {whl : List SCond} {whv : Value} {p : Int × Int} {x : World} (h : RSt n0 w0 R W ws len verb byl byv whl whv p x) (v' : Int) : RSt n0 w0 R W ws len v' byl byv whl whv p (x.setCell ⟨R, 2, none⟩ (.int .i64 v')) := by
  obtain ⟨A, c, hc, hk, hw⟩ := h.blk
  have hg := grown_set (World.grownBy.refl x (some R)) 2 (.int .i64 v')
  exact h.turn hg ⟨A, c, hc, by have := hk.set_ 2 (.int .i64 v'); simpa using this, hw.grown hk hg⟩ h.suf
/-- the reader's cells -/
theorem rst_all {n0 : Nat} {w0 : World} {R : Nat} {W ws : List Wd} {len : Nat} {verb : Int} {byl : List Int} {byv : Value} {whl : List SCond} {whv : Value} {p : Int × Int} {x : World} (h : RSt n0 w0 R W ws len verb byl byv whl whv p x) : ∃ A c, ws.length ≤ c ∧ x.cell? ⟨R, 0, none⟩ = some (.slice A ws.length c) ∧ x.cell? ⟨R, 2, none⟩ = some (.int .i64 verb) ∧ x.cell? ⟨R, 3, none⟩ = some byv ∧ x.cell? ⟨R, 4, none⟩ = some whv ∧ x.cell? ⟨R, 5, none⟩ = some (.int .i64 p.1) ∧ x.cell? ⟨R, 6, none⟩ = some (.int .i64 p.2) ∧ (∀ i, x.frozen? ⟨R, i, none⟩ = false) ∧ (∀ t r, ws = t :: r → ∃ g o, A = some ⟨g, o, none⟩ ∧ x.cell? ⟨g, o + 1, none⟩ = some (.string ⟨t.toArray⟩)) := by
  obtain ⟨A, c, hc, hk, hw⟩ := h.blk
  refine ⟨A, c, hc, hk.cell 0, hk.cell 2, hk.cell 3, hk.cell 4, hk.cell 5, hk.cell 6, hk.frozen, fun t r e => ?_⟩
  subst e
  obtain ⟨g, o, cs, e, _, hg, hcs⟩ := hw (by simp)
  exact ⟨g, o, e, (hg.cell (o + 1)).trans (hcs 1 _ rfl)⟩
theorem rby_any {n0 : Nat} {w0 : World} {R : Nat} {W ws : List Wd} {len : Nat} {verb : Int} {whl : List SCond} {whv : Value} {p : Int × Int} (x : World) (h : RSt n0 w0 R W ws len verb [] (.slice none 0 0) whl whv p x) (hp : p.2 = 0) (hl : ∀ v, v ∈ ws → v.length ≤ 1000) :
    Calls Tryz.prog 41 #[.pointer (some ⟨R, 0, none⟩)] x (RbSays n0 w0 R W ws len verb whl whv p x) := by
  cases ws with
  | nil => exact rb_none x h hp
  | cons v r => exact rb_some x h hp (hl v (by simp))
theorem rcond_any {n0 : Nat} {w0 : World} {R : Nat} {W ws : List Wd} {len : Nat} {verb : Int} {byl : List Int} {byv : Value} {whl : List SCond} {whv : Value} {p : Int × Int} (x : World) (h : RSt n0 w0 R W ws len verb byl byv whl whv p x) (hp : p.2 = 0) (hf : whl.length ≤ 20) (hl : ∀ z, z ∈ ws → z.length ≤ 2000) :
    Calls Tryz.prog 42 #[.pointer (some ⟨R, 0, none⟩)] x (RcSays n0 w0 R W ws len verb byl byv whl whv p x) := by
  cases ws with
  | nil => exact rc_none x h hp
  | cons v r =>
    by_cases hq : whl.length = 20
    · exact rc_full x h hp hq
    · exact rc_more x h hp (by omega) (fun z hz => hl z (by simp [hz]))
/-- how much is left, none behind an error -/
def rmLen (w : World) (R : Nat) : Nat := match w.cell? ⟨R, 6, none⟩ with
  | some (.int _ e) => if e = 0 then (match w.cell? ⟨R, 0, none⟩ with
    | some (.slice _ n _) => n + 1
    | _ => 0) else 0
  | _ => 0
theorem rmLen_eq {n0 : Nat} {w0 : World} {R : Nat} {W ws : List Wd} {len : Nat} {verb : Int} {byl : List Int} {byv : Value} {whl : List SCond} {whv : Value} {p : Int × Int} {x : World} (h : RSt n0 w0 R W ws len verb byl byv whl whv p x) : rmLen x R = if p.2 = 0 then ws.length + 1 else 0 := by
  obtain ⟨A, c, _, hk, _⟩ := h.blk
  unfold rmLen
  rw [hk.cell 6, hk.cell 0]
  rfl
theorem Gr2.blk {x y : World} {R g b : Nat} {v : Value} {T e : TypeId} {size n : Nat} {cs cs' : Array Value} {T' : TypeId} {xs : List Value} (h : Gr2 x y R v) (hk : Blk x g T cs) (hR : Blk x R T' cs') (hne : T ≠ T') (ho : x.ownsRow b e size v n xs) (hne2 : e ≠ T) : Blk y g T cs :=
  (h.block g hk.lt (fun e => Blk.ne_ hk hR hne e) (fun e => own_blk_ne ho hk hne2 e.symm)).trans hk
end Go.Proofs.YtfnlddloalineaaGreatDoor
namespace Go.Proofs.YtfnlddloalineaaGreatDoor
open Go.RowKit
set_option linter.unusedVariables false
set_option maxRecDepth 100000
theorem rd_cells3 {x : World} {g : Nat} {T : TypeId} {c0 c1 c2 : Value} (hk : Blk x g T #[c0, c1, c2]) (u0 u1 u2 : Value) : let y := (((x.setCell ⟨g, 0, none⟩ u0).setCell ⟨g, 1, none⟩ u1).setCell ⟨g, 2, none⟩ u2); y.cell? ⟨g, 0, none⟩ = some u0 ∧ y.cell? ⟨g, 1, none⟩ = some u1 ∧ y.cell? ⟨g, 2, none⟩ = some u2 := by
  have h : Blk (((x.setCell ⟨g, 0, none⟩ u0).setCell ⟨g, 1, none⟩ u1).setCell ⟨g, 2, none⟩ u2) g T #[u0, u1, u2] := by
    have := ((hk.set_ 0 u0).set_ 1 u1).set_ 2 u2
    simpa using this
  exact ⟨h.cell 0, h.cell 1, h.cell 2⟩
theorem own_set3 {x : World} {g b : Nat} {T e : TypeId} {cs : Array Value} {v : Value} {size n : Nat} {xs : List Value} (h : x.ownsRow b e size v n xs) (hk : Blk x g T cs) (hne : e ≠ T) (u0 u1 u2 : Value) : (((x.setCell ⟨g, 0, none⟩ u0).setCell ⟨g, 1, none⟩ u1).setCell ⟨g, 2, none⟩ u2).ownsRow b e size v n xs := by
  have hn := own_blk_ne h hk hne
  exact ownsRow_setCell_other (ownsRow_setCell_other (ownsRow_setCell_other h (a := ⟨g, 0, none⟩) hn u0) (a := ⟨g, 1, none⟩) hn u1) (a := ⟨g, 2, none⟩) hn u2
theorem below_set3 {w0 x : World} {n g : Nat} (h : Below n w0 x) (hg : n ≤ g) (u0 u1 u2 : Value) : Below n w0 (((x.setCell ⟨g, 0, none⟩ u0).setCell ⟨g, 1, none⟩ u1).setCell ⟨g, 2, none⟩ u2) :=
  ((h.setCell (p := ⟨g, 0, none⟩) hg u0).setCell (p := ⟨g, 1, none⟩) hg u1).setCell (p := ⟨g, 2, none⟩) hg u2
set_option maxHeartbeats 8000000 in
theorem rparse_any (s : Wd) (w : World) (hl : s.length ≤ 1000) : Calls Tryz.prog 13 #[.string ⟨s.toArray⟩] w (RParSays s w) := by
  have hb0 : Below w.heap.size w (w.alloc (.cells #[.int .i64 0, .slice none 0 0, .slice none 0 0] 32)) := (Below.refl w.heap.size w).alloc (Nat.le_refl _) _
  have HQ0 := Lib.hid (Blk.new w 32 #[.int .i64 0, .slice none 0 0, .slice none 0 0])
  have HS := Lib.hid (refSplit_any 32 s (w.alloc (.cells #[.int .i64 0, .slice none 0 0, .slice none 0 0] 32)) hl)
  have HB0 := Lib.hid hb0
  have hpos : 0 < (piecesL 32 s).length := by
    rcases Nat.eq_zero_or_pos (piecesL 32 s).length with h | h
    · exact absurd (List.eq_nil_of_length_eq_zero h) (piecesL_ne 32 s)
    · exact h
  have HML : Hid (∀ x, x ∈ piecesL 32 s → x.length ≤ 1000) := fun x hx => by have := piece_len hx; omega
  have hwl : (piecesL 32 s).length ≤ 1001 := by
    have h2 := plSum_len (piecesL 32 s)
    have h3 := pieces_sum 32 s
    omega
  clear hb0
  go_enter Tryz.func13, Tryz.ntmps13
  go_wp2_with fail
  refine HS.out.mono ?_
  rintro e w1 ⟨pv, rfl, hpo, hb1⟩
  obtain ⟨g, cap, cs, rfl, hgk, hcap, hgb, hcs⟩ := row_blk hpo hpos
  have hq1 := HQ0.out.below hb1 (by rw [World.size_alloc]; omega)
  rw [World.size_alloc] at hgb
  have hbw1 : Below w.heap.size w w1 := HB0.out.trans (hb1.mono (by rw [World.size_alloc]; omega))
  obtain ⟨WS, hWS⟩ : ∃ WS, piecesL 32 s = WS := ⟨_, rfl⟩
  rw [hWS] at hcs hcap hpos hwl HML
  have HWS := Lib.hid hWS
  obtain ⟨v, ws, hvw⟩ : ∃ v ws, WS = v :: ws := by
    cases WS with
    | nil => simp at hpos
    | cons v ws => exact ⟨v, ws, rfl⟩
  have hst : RSt w.heap.size w w1.heap.size WS (v :: ws) s.length 0 [] (.slice none 0 0) [] (.slice none 0 0) (0, 0) (w1.alloc (.cells (#[.slice (some ⟨g, 0, none⟩) WS.length cap, .int .i64 (s.length : Int), .int .i64 0, .slice none 0 0, .slice none 0 0, .int .i64 0, .int .i64 0] : Array Value) 87)) := by
    rw [hvw] at hcs hcap ⊢
    refine ⟨⟨some ⟨g, 0, none⟩, cap, hcap, Blk.new w1 _ _, fun _ => ⟨g, 0, cs, rfl, hgk.lt, hgk.alloc _, fun j u hu => ?_⟩⟩, ⟨[], rfl⟩, World.ownsRow_nil _ _ _ _, World.ownsRow_nil _ _ _ _, hbw1.alloc hbw1.size _, hbw1.size⟩
    rw [Nat.zero_add]
    refine hcs j u ?_
    have e : bOf (v :: ws) (v :: ws) = 0 := by unfold bOf plS; simp [plSum]
    rwa [e] at hu
  have HST := Lib.hid hst
  have HQ1 := Lib.hid (hq1.alloc (.cells (#[.slice (some ⟨g, 0, none⟩) WS.length cap, .int .i64 (s.length : Int), .int .i64 0, .slice none 0 0, .slice none 0 0, .int .i64 0, .int .i64 0] : Array Value) 87))
  have hwR : w.heap.size < w1.heap.size := hq1.lt
  rw [hWS]
  have HVW := Lib.hid hvw
  clear hst hvw hpo hgk hcs hb1 hq1 hbw1 HQ0 HB0 HS hWS
  have HN := Lib.hid (rnext_some _ HST.out)
  go_wp2_with fail
  refine HN.out.mono ?_
  rintro e y ⟨rfl, hr, hg⟩
  obtain ⟨R, hRdef⟩ : ∃ R, w1.heap.size = R := ⟨_, rfl⟩
  rw [hRdef] at hr hg HST hwR
  have hr2 := hr.same ((Below.refl y.heap.size y).alloc (Nat.le_refl _) (.cells (#[.int .i64 (bOf WS (v :: ws) : Int), .string ⟨v.toArray⟩] : Array Value) 89))
  have hq2 := (HQ1.out.grown hg (by intro e; injection e; omega)).alloc (.cells (#[.int .i64 (bOf WS (v :: ws) : Int), .string ⟨v.toArray⟩] : Array Value) 89)
  have hw2 := Blk.new y 89 #[.int .i64 (bOf WS (v :: ws) : Int), .string ⟨v.toArray⟩]
  have HPL : Hid ((plcR WS (v :: ws) s.length : Int) = (bOf WS (v :: ws) : Int)) := by show _ = _; rw [plcR_cons]
  generalize bOf WS (v :: ws) = b at *
  obtain ⟨wz, hwz⟩ : ∃ wz, y.alloc (.cells (#[.int .i64 (b : Int), .string ⟨v.toArray⟩] : Array Value) 89) = wz := ⟨_, rfl⟩
  have hsz : y.heap.size < wz.heap.size := by rw [← hwz]; simp
  have hRy : R < y.heap.size := hr.size
  rw [hwz] at hr2 hq2 hw2
  have HR2 := Lib.hid hr2
  have HQ2 := Lib.hid hq2
  have HW2 := Lib.hid hw2
  have HGX : Hid (w1.heap.size = R) := hRdef
  clear hr hg hr2 hq2 hw2 HN HQ1 HST
  have HIX : Hid (∀ w' : World, (∀ j, j < vbL.length → w'.cell? ⟨wz.heap.size, j, none⟩ = some (.string ⟨(vbL.getD j []).toArray⟩)) → Calls Tryz.prog 37 #[.slice (some ⟨wz.heap.size, 0, none⟩) 2 2, .string ⟨v.toArray⟩] w' fun e w'' => e = .returned (.int .i64 (idxW vbL v)) ∧ w' = w'') := fun w' hc => refIndex_any vbL v wz.heap.size 2 2 w' hc rfl (by decide)
  obtain ⟨iv, hiv⟩ : ∃ iv, idxW vbL v = iv := ⟨_, rfl⟩
  rw [hiv] at HIX
  have HIV := Lib.hid hiv
  clear hiv
  go_upto_region 3 with fail
  go_cut [6] from 16 (fun s6 x' => s6 = .pointer (some ⟨y.heap.size, 0, none⟩) ∧ RSt w.heap.size w R WS ws s.length iv [] (.slice none 0 0) [] (.slice none 0 0) (0, 0) x' ∧ Blk x' w.heap.size 32 #[.int .i64 0, .slice none 0 0, .slice none 0 0] ∧ Blk x' y.heap.size 89 #[.int .i64 (b : Int), .string ⟨v.toArray⟩])
  case first =>
    have K1 := Lib.hid (lst_1 wz vbL)
    have hbk : Below wz.heap.size wz (wz.alloc (.cells (vbL.map strV).toArray 9)) := (Below.refl wz.heap.size wz).alloc (Nat.le_refl _) _
    have HREL : Hid (RSt w.heap.size w R WS ws s.length iv [] (.slice none 0 0) [] (.slice none 0 0) (0, 0) (((wz.setCell ⟨R, 2, none⟩ (.int .i64 iv)).alloc (.cells (vbL.map strV).toArray 9)).drew) ∧ Blk (((wz.setCell ⟨R, 2, none⟩ (.int .i64 iv)).alloc (.cells (vbL.map strV).toArray 9)).drew) w.heap.size 32 #[.int .i64 0, .slice none 0 0, .slice none 0 0] ∧ Blk (((wz.setCell ⟨R, 2, none⟩ (.int .i64 iv)).alloc (.cells (vbL.map strV).toArray 9)).drew) y.heap.size 89 #[.int .i64 (b : Int), .string ⟨v.toArray⟩]) :=
      ⟨(HR2.out.setVerb iv).same (((Below.refl _ _).alloc (Nat.le_refl _) _).drew), ((HQ2.out.far (p := ⟨R, 2, none⟩) (by simp only []; omega) _).alloc _).drew, ((HW2.out.far (p := ⟨R, 2, none⟩) (by simp only []; omega) _).alloc _).drew⟩
    have hRz : R < wz.heap.size := by omega
    obtain ⟨A0, c0, _, a0, a2, a3, a4, a5, a6, fz, _⟩ := rst_all HR2.out
    have hR6 := (HR2.out.same hbk)
    obtain ⟨A1, c1, _, b0, b2, b3, b4, b5, b6, fy, _⟩ := rst_all hR6
    obtain ⟨t0, t1⟩ := wd_cells HW2.out
    obtain ⟨u0, u1⟩ := wd_cells (HW2.out.below hbk hsz)
    clear hbk hR6
    go_region_with (first
      | (go_at_call 38; refine (ref_vb_any _).mono ?_; rintro e wx ⟨rfl, rfl⟩)
      | (go_at_call 37; (with_reducible refine (HIX.out _ ?_).mono ?_); (exact K1.out); (rintro e wx ⟨rfl, rfl⟩)))
    all_goals
      go_wp2_with fail
      go_meet
      case rel => exact ⟨rfl, HREL.out⟩
  case rest =>
    obtain ⟨rfl, hr3, hq3, hw3⟩ := hcut
    have HR3 := Lib.hid hr3
    have HQ3 := Lib.hid hq3
    have HW3 := Lib.hid hw3
    obtain ⟨A0, c0, _, a0, a2, _, _, _, _, _, _⟩ := rst_all hr3
    clear hr3 hq3 hw3 HIX HR2 HQ2 HW2 hwz hRdef
    obtain ⟨q, hq⟩ : ∃ q, decide (iv < 0) = q := ⟨_, rfl⟩
    have HQB := Lib.hid hq
    go_upto_if 29 with fail
    clear hq
    go_cut [6] from 16 (fun s6 x' => s6 = .pointer (some ⟨y.heap.size, 0, none⟩) ∧ ∃ p', RSt w.heap.size w R WS ws s.length iv [] (.slice none 0 0) [] (.slice none 0 0) p' x' ∧ Blk x' w.heap.size 32 #[.int .i64 0, .slice none 0 0, .slice none 0 0] ∧ Blk x' y.heap.size 89 #[.int .i64 (b : Int), .string ⟨v.toArray⟩] ∧ ((p' = ((b : Int), 3) ∧ iv < 0) ∨ (p' = (0, 0) ∧ 0 ≤ iv)))
    case first =>
      cases q with
      | true =>
        have HI : Hid (iv < 0) := by have := HQB.out; rw [decide_eq_true_eq] at this; exact this
        obtain ⟨t0, t1⟩ := wd_cells HW3.out
        have HFL := Lib.hid (rfail_any (b : Int) 3 v _ HR3.out)
        go_wp2_with fail
        refine HFL.out.mono ?_
        rintro e y3 ⟨⟨u, rfl⟩, hr4, hg4⟩
        have HR4 := Lib.hid hr4
        have HQ4 := Lib.hid (HQ3.out.grown hg4 (by intro e; injection e; omega))
        have HW4 := Lib.hid (HW3.out.grown hg4 (by intro e; injection e; omega))
        clear hr4 hg4
        go_wp2_with fail
        go_meet
        case rel => exact ⟨rfl, _, HR4.out, HQ4.out, HW4.out, .inl ⟨rfl, HI.out⟩⟩
      | false =>
        have HI : Hid (¬ iv < 0) := by have := HQB.out; rw [decide_eq_false_iff_not] at this; exact this
        go_wp2_with fail
        go_meet
        case rel => exact ⟨rfl, _, HR3.out, HQ3.out, HW3.out, .inr ⟨rfl, by have := HI.out; omega⟩⟩
    case rest =>
      obtain ⟨rfl, p', hr4, hq4, hw4, hs4⟩ := hcut
      have HR4 := Lib.hid hr4
      have HQ4 := Lib.hid hq4
      have HW4 := Lib.hid hw4
      have HS4 := Lib.hid hs4
      have HMO := Lib.hid (rmore_any _ hr4)
      clear hr4 hq4 hw4 hs4 HR3 HQ3 HW3 a0 a2
      go_upto_region 6 with fail
      go_cut [44] from 33 (fun s44 x' => s44 = .bool (decide (p'.2 = 0) && (ws.head? == some byW)) ∧ x' = wc)
      case first =>
        obtain ⟨p1, p2⟩ := p'
        simp only [] at HMO
        by_cases hp : p2 = 0
        · subst hp
          cases ws with
          | nil =>
            rw [show (decide ((0 : Int) = 0) && decide (0 < ([] : List Wd).length)) = false from rfl] at HMO
            go_wp2_with fail
            refine HMO.out.mono ?_
            rintro e wx ⟨rfl, rfl⟩
            go_wp2_with fail
            go_meet
            case rel => exact ⟨rfl, rfl⟩
          | cons tx r =>
            rw [show (decide ((0 : Int) = 0) && decide (0 < (tx :: r).length)) = true by simp] at HMO
            obtain ⟨A1, c1, _, a0, _, _, _, _, _, _, hft⟩ := rst_all HR4.out
            obtain ⟨g1, o1, rfl, hft⟩ := hft tx r rfl
            have z1 : (0 : Int) < (r.length : Int) + 1 := by omega
            cases hb : (tx == byW) with
            | true =>
              have HB := Lib.hid hb
              have hb' : (tx == [98, 121]) = true := hb
              clear hb
              go_wp2_with fail
              refine HMO.out.mono ?_
              rintro e wx ⟨rfl, rfl⟩
              go_wp2_with fail
              go_meet
              case rel => exact ⟨by show Value.bool true = .bool (true && (tx == byW)); rw [HB.out]; rfl, rfl⟩
            | false =>
              have HB := Lib.hid hb
              have hb' : (tx == [98, 121]) = false := hb
              clear hb
              go_wp2_with fail
              refine HMO.out.mono ?_
              rintro e wx ⟨rfl, rfl⟩
              go_wp2_with fail
              go_meet
              case rel => exact ⟨by show Value.bool false = .bool (true && (tx == byW)); rw [HB.out]; rfl, rfl⟩
        · rw [show (decide (p2 = 0) && decide (0 < ws.length)) = false by rw [decide_eq_false hp]; rfl] at HMO
          have HPN := Lib.hid hp
          clear hp
          go_wp2_with fail
          refine HMO.out.mono ?_
          rintro e wx ⟨rfl, rfl⟩
          go_wp2_with fail
          go_meet
          case rel => exact ⟨by rw [decide_eq_false HPN.out]; rfl, rfl⟩
      case rest =>
        obtain ⟨rfl, rfl⟩ := hcut
        clear HMO
        obtain ⟨q2, hq2⟩ : ∃ q2, (decide (p'.2 = 0) && (ws.head? == some byW)) = q2 := ⟨_, rfl⟩
        have HQ2B := Lib.hid hq2
        rw [hq2]
        clear hq2
        go_upto_if 44 with fail
        go_cut [6] from 45 (fun s6 x' => s6 = .pointer (some ⟨y.heap.size, 0, none⟩) ∧ ∃ ws' byl byv pp, RSt w.heap.size w R WS ws' s.length iv byl byv [] (.slice none 0 0) pp x' ∧ Blk x' w.heap.size 32 #[.int .i64 0, .slice none 0 0, .slice none 0 0] ∧ Blk x' y.heap.size 89 #[.int .i64 (b : Int), .string ⟨v.toArray⟩] ∧ PSem WS s.length iv byl whereW ws' [] pp)
        case first =>
          cases q2 with
          | false =>
            have HP : Hid (PSem WS s.length iv [] whereW ws [] p') := by
              rcases HS4.out with ⟨rfl, h2⟩ | ⟨rfl, h2⟩
              · exact psem_verb HVW.out HIV.out h2 HPL.out
              · refine psem_tail HVW.out HIV.out h2 ?_
                have := HQ2B.out
                simpa using this
            clear HS4 HQ2B
            go_wp2_with fail
            go_meet
            case rel => exact ⟨rfl, _, _, _, _, HR4.out, HQ4.out, HW4.out, HP.out⟩
          | true =>
            have hq2 := HQ2B.out
            rw [Bool.and_eq_true, decide_eq_true_eq] at hq2
            obtain ⟨hp0, hh⟩ := hq2
            obtain ⟨r, rfl⟩ : ∃ r, ws = byW :: r := by
              cases ws with
              | nil => simp at hh
              | cons b r => simp at hh; exact ⟨r, by rw [hh]⟩
            have hiv0 : 0 ≤ iv ∧ p' = (0, 0) := by
              rcases HS4.out with ⟨rfl, h2⟩ | ⟨rfl, h2⟩
              · simp at hp0
              · exact ⟨h2, rfl⟩
            obtain ⟨hiv0, rfl⟩ := hiv0
            have HI0 := Lib.hid hiv0
            have HN2 := Lib.hid (rnext_some _ HR4.out)
            clear HQ2B HS4 hp0 hh hiv0
            go_wp2_with fail
            refine HN2.out.mono ?_
            rintro e y3 ⟨rfl, hr5, hg5⟩
            have HQ5 := Lib.hid (HQ4.out.grown hg5 (by intro e; injection e; omega))
            have HW5 := Lib.hid (HW4.out.grown hg5 (by intro e; injection e; omega))
            have HBY := Lib.hid (rby_any y3 hr5 rfl (fun v' hv' => HML.out v' (by rw [HVW.out]; simp [hv'])))
            clear hr5 hg5 HN2
            go_wp2_with fail
            refine HBY.out.mono ?_
            rintro e y4 ⟨⟨u, rfl⟩, hg6, ws', byl', byv', p6, hr6, ho⟩
            have HQ6 := Lib.hid (HQ5.out.grown hg6 (by intro e; injection e; omega))
            have HW6 := Lib.hid (HW5.out.grown hg6 (by intro e; injection e; omega))
            have HR6 := Lib.hid hr6
            have HP := Lib.hid (psem_by HVW.out HIV.out HI0.out ho)
            clear hg6 hr6 ho HBY
            go_wp2_with fail
            go_meet
            case rel => exact ⟨rfl, _, _, _, _, HR6.out, HQ6.out, HW6.out, HP.out⟩
        case rest =>
          obtain ⟨rfl, ws5, byl, byv, p5, hr5, hq5, hw5, hs5⟩ := hcut
          have HR5 := Lib.hid hr5
          have HQ5 := Lib.hid hq5
          have HW5 := Lib.hid hw5
          have HS5 := Lib.hid hs5
          have hsuf5 := hr5.suf
          have HML5 : Hid (∀ x, x ∈ WS → x.length ≤ 1000) := HML
          clear hr5 hq5 hw5 hs5 HR4 HQ4 HW4 HS4 HQ2B hsuf5
          go_upto_block 0 with fail
          go_cut [7] from 49 (fun s7 x' => ∃ ws' whl whv pp, RSt w.heap.size w R WS ws' s.length iv byl byv whl whv pp x' ∧ Blk x' w.heap.size 32 #[.int .i64 0, .slice none 0 0, .slice none 0 0] ∧ PFin WS s.length iv byl whl pp)
          case first =>
            go_wp2_with fail
            go_loopw [7] (fun t7 wr => ∃ bg ws' whl whv pp a tx, t7 = .string ⟨bg.toArray⟩ ∧ RSt w.heap.size w R WS ws' s.length iv byl byv whl whv pp wr ∧ Blk wr w.heap.size 32 #[.int .i64 0, .slice none 0 0, .slice none 0 0] ∧ Blk wr y.heap.size 89 #[.int .i64 a, .string ⟨tx⟩] ∧ PSem WS s.length iv byl bg ws' whl pp) (fun _ wr => rmLen wr R)
            case atStart => exact ⟨whereW, _, _, _, _, _, _, rfl, HR5.out, HQ5.out, HW5.out, HS5.out⟩
            case round =>
              obtain ⟨bg, ws', whl, whv, pp, a, tx, rfl, hr7, hq7, hw7, hs7⟩ := hrel
              have HR7 := Lib.hid hr7
              have HQ7 := Lib.hid hq7
              have HW7 := Lib.hid hw7
              have HS7 := Lib.hid hs7
              have HMO := Lib.hid (rmore_any _ hr7)
              have HML7 := Lib.hid (rmLen_eq hr7)
              clear hr7 hq7 hw7 hs7 HR5 HQ5 HW5 HS5
              obtain ⟨p1, p2⟩ := pp
              simp only [] at HMO HML7
              by_cases hp : p2 = 0
              · subst hp
                cases ws' with
                | nil =>
                  rw [show (decide ((0 : Int) = 0) && decide (0 < ([] : List Wd).length)) = false from rfl] at HMO
                  go_wp2_with fail
                  refine HMO.out.mono ?_
                  rintro e wx ⟨rfl, rfl⟩
                  go_wp2_with fail
                  go_meet
                  case rel => exact ⟨_, _, _, _, HR7.out, HQ7.out, HS7.out.fin_nil rfl⟩
                | cons z r =>
                  rw [show (decide ((0 : Int) = 0) && decide (0 < (z :: r).length)) = true by simp] at HMO
                  have HN7 := Lib.hid (rnext_some _ HR7.out)
                  obtain ⟨bz, hbz⟩ : ∃ bz, bOf WS (z :: r) = bz := ⟨_, rfl⟩
                  rw [hbz] at HN7
                  have HBZ := Lib.hid hbz
                  clear hbz
                  go_wp2_with fail
                  refine HMO.out.mono ?_
                  rintro e wx ⟨rfl, rfl⟩
                  go_wp2_with fail
                  refine HN7.out.mono ?_
                  rintro e y8 ⟨rfl, hr8, hg8⟩
                  have hq8 := HQ7.out.grown hg8 (by intro e; injection e; omega)
                  have hw8 := HW7.out.grown hg8 (by intro e; injection e; omega)
                  obtain ⟨v0, v1⟩ := wd_cells hw8
                  have vz := hw8.frozen
                  have hyl : y.heap.size < y8.heap.size := hw8.lt
                  have hw9 := hw8.set_ 0 (.int .i64 (bz : Int))
                  have hw9b := hw9.set_ 1 (.string ⟨z.toArray⟩)
                  have hr9 := (hr8.farB hw8 hRy 0 (.int .i64 (bz : Int))).farB hw9 hRy 1 (.string ⟨z.toArray⟩)
                  have hq9 := (hq8.far (p := ⟨y.heap.size, 0, none⟩) (by simp only []; omega) (.int .i64 (bz : Int))).far (p := ⟨y.heap.size, 1, none⟩) (by simp only []; omega) (.string ⟨z.toArray⟩)
                  have HW9 : Hid (Blk ((y8.setCell ⟨y.heap.size, 0, none⟩ (.int .i64 (bz : Int))).setCell ⟨y.heap.size, 1, none⟩ (.string ⟨z.toArray⟩)) y.heap.size 89 #[.int .i64 (bz : Int), .string ⟨z.toArray⟩]) := by show Blk _ _ _ _; simpa using hw9b
                  have HR9 := Lib.hid hr9
                  have HQ9 := Lib.hid hq9
                  clear hw9 hw9b hr9 hq9 hq8 hr8 hg8 hw8
                  cases hzb : (z == bg) with
                  | false =>
                    have HFL := Lib.hid (rfail_any (bz : Int) 3 z _ HR9.out)
                    have HF := Lib.hid (HS7.out.fin_bad rfl hzb)
                    rw [HBZ.out] at HF
                    go_wp2_with fail
                    refine HFL.out.mono ?_
                    rintro e y10 ⟨⟨u, rfl⟩, hr10, hg10⟩
                    have HQ10 := Lib.hid (HQ9.out.grown hg10 (by intro e; injection e; omega))
                    have HR10 := Lib.hid hr10
                    clear hg10 hr10
                    go_wp2_with fail
                    go_meet
                    case rel => exact ⟨_, _, _, _, HR10.out, HQ10.out, HF.out⟩
                  | true =>
                    obtain ⟨m, hm, hq⟩ := HS7.out.more rfl hzb
                    have HC := Lib.hid (rcond_any _ HR9.out rfl (by omega) (fun t ht => by
                      obtain ⟨pre, hpre⟩ := HR9.out.suf
                      have := HML.out t (by rw [hpre]; simp [ht])
                      omega))
                    have HM := Lib.hid hm
                    have HQM := Lib.hid hq
                    clear hm hq
                    go_wp2_with fail
                    refine HC.out.mono ?_
                    rintro e y10 ⟨⟨u, rfl⟩, hg10, ws10, whl10, whv10, p10, hr10, ho⟩
                    obtain ⟨HP10, hdec⟩ := psem_cond HM.out rfl HQM.out ho
                    obtain ⟨A9, c9, _, hk9, _⟩ := HR9.out.blk
                    have hq10 := hg10.blk HQ9.out hk9 (by decide) HR9.out.who (by decide)
                    have hw10 := hg10.blk HW9.out hk9 (by decide) HR9.out.who (by decide)
                    have HR10 := Lib.hid hr10
                    have HQ10 := Lib.hid hq10
                    have HW10 := Lib.hid hw10
                    have HPP := Lib.hid HP10
                    have HDEC : Hid (rmLen y10 R < rmLen wr R) := by
                      show _ < _
                      rw [rmLen_eq HR10.out, HML7.out, if_pos trivial]
                      split
                      · rename_i h0
                        have := hdec h0
                        simp only [List.length_cons]; omega
                      · omega
                    clear hr10 hq10 hw10 HP10 hdec ho hk9 hg10
                    go_wp2_with fail
                    go_roundw
                    case rel => exact ⟨andW, _, _, _, _, _, _, rfl, HR10.out, HQ10.out, HW10.out, HPP.out⟩
                    case measure => exact HDEC.out
              · rw [show (decide (p2 = 0) && decide (0 < ws'.length)) = false by rw [decide_eq_false hp]; rfl] at HMO
                have HPN := Lib.hid hp
                clear hp
                go_wp2_with fail
                refine HMO.out.mono ?_
                rintro e wx ⟨rfl, rfl⟩
                go_wp2_with fail
                go_meet
                case rel => exact ⟨_, _, _, _, HR7.out, HQ7.out, HS7.out.fin_err HPN.out⟩
          case rest =>
            obtain ⟨ws6, whl, whv, pp, hr6, hq6, hs6⟩ := hcut
            have HF := Lib.hid hs6
            obtain ⟨Ab, cb, rfl⟩ := own_slice hr6.byo
            obtain ⟨Aw, cw, rfl⟩ := own_slice hr6.who
            obtain ⟨A6, c6, _, g0, g2, g3, g4, g5, g6, gz, _⟩ := rst_all hr6
            have HR6 := Lib.hid hr6
            obtain ⟨k0, k1, k2⟩ : wc.cell? ⟨w.heap.size, 0, none⟩ = some (.int .i64 0) ∧ wc.cell? ⟨w.heap.size, 1, none⟩ = some (.slice none 0 0) ∧ wc.cell? ⟨w.heap.size, 2, none⟩ = some (.slice none 0 0) := ⟨hq6.cell 0, hq6.cell 1, hq6.cell 2⟩
            have kz := hq6.frozen
            have HQ6 := Lib.hid hq6
            obtain ⟨p1, p2⟩ := pp
            simp only [] at g5 g6
            clear hr6 hq6 hs6 HR5 HQ5 HW5 HS5
            by_cases hp : p2 = 0
            · subst hp
              have HQ0 : Hid (qryR (piecesL 32 s) = .ok ⟨iv, byl, whl⟩) := by
                rw [HWS.out]
                rcases HF.out with ⟨h, _⟩ | ⟨_, h⟩
                · exact absurd rfl h
                · exact h
              go_wp2_with fail
              obtain ⟨z0, z1, z2⟩ := rd_cells3 HQ6.out (.int .i64 iv) (.slice Ab byl.length cb) (.slice Aw whl.length cw)
              refine bodyPost_ret (v := .tuple #[.agg #[.int .i64 iv, .slice Ab byl.length cb, .slice Aw whl.length cw], .int .i64 0, .int .i64 0]) ?_ rfl ?_
              · simp [results, Tryz.results13, go_sem, z0, z1, z2]
              · unfold RParSays
                rw [HQ0.out]
                exact ⟨_, _, rfl, own_set3 HR6.out.byo HQ6.out (by decide) _ _ _, own_set3 HR6.out.who HQ6.out (by decide) _ _ _, below_set3 HR6.out.below (Nat.le_refl _) _ _ _⟩
            · have hpb : (p2 == 0) = false := by rw [beq_eq_false_iff_ne]; exact hp
              obtain ⟨r, E, hq, hpe⟩ : ∃ r E, qryR WS = .error (r, E) ∧ ((p1, p2) : Int × Int) = ((plcR WS r s.length : Int), E) := by
                rcases HF.out with ⟨_, h⟩ | ⟨h, _⟩
                · exact h
                · exact absurd h hp
              obtain ⟨e1, e2⟩ : p1 = (plcR WS r s.length : Int) ∧ p2 = E := by injection hpe with h1 h2; exact ⟨h1, h2⟩
              have HQ0 : Hid (qryR (piecesL 32 s) = .error (r, p2) ∧ p1 = (plcR (piecesL 32 s) r s.length : Int)) := by rw [HWS.out, hq, e2, e1]; exact ⟨rfl, rfl⟩
              have HPN := Lib.hid hp
              clear hp hq hpe e1 e2
              have HZ := Lib.hid (rd_cells3 HQ6.out (.int .i64 0) (.slice none 0 0) (.slice none 0 0))
              go_upto_region 17 with fail
              go_region_with fail
              all_goals
                go_wp2_with fail
                obtain ⟨z0, z1, z2⟩ := HZ.out
                refine bodyPost_ret (v := .tuple #[.agg #[.int .i64 0, .slice none 0 0, .slice none 0 0], .int .i64 p1, .int .i64 p2]) ?_ rfl ?_
                · simp [results, Tryz.results13, go_sem, z0, z1, z2]
                · unfold RParSays
                  rw [HQ0.out.1]
                  exact ⟨by rw [HQ0.out.2], (below_set3 HR6.out.below (Nat.le_refl _) _ _ _).drew⟩
end Go.Proofs.YtfnlddloalineaaGreatDoor
