/-
  The reference's cond: the second half.
-/
import Derived.Test.YtfnlddloalineaaGreatDoorQryRB
namespace Go.Proofs.YtfnlddloalineaaGreatDoor
open Go.RowKit
set_option linter.unusedVariables false
set_option maxRecDepth 100000
theorem Gr2.then {x y z : World} {R : Nat} {v : Value} (h : Gr2 x y R v) (hg : y.grownBy z (some R)) : Gr2 x z R v :=
  ⟨hg.os.trans h.os, hg.tape.trans h.tape, hg.output.trans h.output, Nat.le_trans h.size hg.size, fun k hk h1 h2 => (hg.block k (Nat.lt_of_lt_of_le hk h.size) (fun e => h1 (by injection e))).trans (h.block k hk h1 h2)⟩
/-- the names of a list in memory, a block ahead of it or behind it -/
theorem lst_1 (w : World) (L : List Wd) : ∀ j, j < L.length → (w.alloc (.cells (L.map strV).toArray 9)).cell? ⟨w.heap.size, j, none⟩ = some (.string ⟨(L.getD j []).toArray⟩) := fun j hj => word_cell (Blk.new w 9 (L.map strV).toArray) hj
theorem lst_2 (w : World) (L : List Wd) (o : Obj) : ∀ j, j < L.length → ((w.alloc (.cells (L.map strV).toArray 9)).alloc o).cell? ⟨w.heap.size, j, none⟩ = some (.string ⟨(L.getD j []).toArray⟩) := fun j hj => word_cell ((Blk.new w 9 (L.map strV).toArray).alloc o) hj
theorem lst_3 (w : World) (L : List Wd) (o : Obj) : ∀ j, j < L.length → ((w.alloc o).alloc (.cells (L.map strV).toArray 9)).cell? ⟨w.heap.size + 1, j, none⟩ = some (.string ⟨(L.getD j []).toArray⟩) := fun j hj => by
  have h := Blk.new (w.alloc o) 9 (L.map strV).toArray
  rw [World.size_alloc] at h
  exact word_cell h hj
set_option maxHeartbeats 8000000 in
theorem rc_more {n0 : Nat} {w0 : World} {R : Nat} {W r : List Wd} {v : Wd} {len : Nat} {verb : Int} {byl : List Int} {byv : Value} {whl : List SCond} {whv : Value} {p : Int × Int} (x : World) (h : RSt n0 w0 R W (v :: r) len verb byl byv whl whv p x) (hp : p.2 = 0) (hf : whl.length < 20) (hl : ∀ z, z ∈ r → z.length ≤ 2000) :
    Calls Tryz.prog 42 #[.pointer (some ⟨R, 0, none⟩)] x (RcSays n0 w0 R W (v :: r) len verb byl byv whl whv p x) := by
  have HN := Lib.hid (rnext_some x h)
  have HP := Lib.hid hp
  have HL := Lib.hid hl
  obtain ⟨Aw, cw, rfl⟩ := own_slice h.who
  have HX := Lib.hid h
  generalize hb : bOf W (v :: r) = b at *
  have HB := Lib.hid hb
  have k20 : ((whl.length : Int) == 20) = false := by rw [beq_eq_false_iff_ne]; omega
  have k21 : (whl.length == 20) = false := by rw [beq_eq_false_iff_ne]; omega
  clear h hp hb hl
  go_enter Tryz.func42, Tryz.ntmps42
  go_wp2_with fail
  refine HN.out.mono ?_
  rintro e y ⟨rfl, hr, hg⟩
  have hr2 := hr.same ((Below.refl y.heap.size y).alloc (Nat.le_refl _) (.cells (#[.int .i64 (b : Int), .string ⟨v.toArray⟩] : Array Value) 89))
  have HG := Lib.hid (World.grownBy.trans hg (World.grownBy_alloc y (.cells (#[.int .i64 (b : Int), .string ⟨v.toArray⟩] : Array Value) 89) (some R)))
  have hw2 := Blk.new y 89 #[.int .i64 (b : Int), .string ⟨v.toArray⟩]
  obtain ⟨e6, e4, _, _⟩ := rst_cell hr2
  rw [HP.out] at e6
  obtain ⟨wz, hwz⟩ : ∃ wz, y.alloc (.cells (#[.int .i64 (b : Int), .string ⟨v.toArray⟩] : Array Value) 89) = wz := ⟨_, rfl⟩
  have hsz : y.heap.size < wz.heap.size := by rw [← hwz]; simp
  have hxy : x.heap.size ≤ y.heap.size := hg.size
  rw [hwz] at hr2 HG hw2 e6 e4
  obtain ⟨w0', w1'⟩ := wd_cells hw2
  have HW2 := Lib.hid hw2
  have HR2 := Lib.hid hr2
  clear hr hg hr2 hw2 HN
  have HIX : Hid (∀ (w' : World) (G : Nat), (∀ j, j < fdL.length → w'.cell? ⟨G, j, none⟩ = some (.string ⟨(fdL.getD j []).toArray⟩)) → Calls Tryz.prog 37 #[.slice (some ⟨G, 0, none⟩) 5 5, .string ⟨v.toArray⟩] w' fun e w'' => e = .returned (.int .i64 (idxW fdL v)) ∧ w' = w'') := fun w' G hc => refIndex_any fdL v G 5 5 w' hc rfl (by decide)
  obtain ⟨fi, hfi⟩ : ∃ fi, idxW fdL v = fi := ⟨_, rfl⟩
  rw [hfi] at HIX
  have HFI := Lib.hid hfi
  clear hfi
  go_upto_region 4 with fail
  go_cut [3] from 21 (fun s3 x' => ∃ G3, s3 = .pointer (some ⟨G3, 0, none⟩) ∧ wz.heap.size ≤ G3 ∧ Blk x' G3 72 #[.int .i64 fi, .int .i64 0, .int .i64 0] ∧ Below wz.heap.size wz x')
  case first =>
    have K1 := Lib.hid (lst_1 wz fdL)
    have K2 := Lib.hid (lst_2 wz fdL (.cells (#[.int .i64 0, .int .i64 0, .int .i64 0] : Array Value) 72))
    have K3 := Lib.hid (lst_3 wz fdL (.cells (#[.int .i64 0, .int .i64 0, .int .i64 0] : Array Value) 72))
    have E1 : Hid (wz.heap.size ≤ wz.heap.size + 1 ∧ Blk (((wz.alloc (.cells (fdL.map strV).toArray 9)).alloc (.cells (#[.int .i64 fi, .int .i64 0, .int .i64 0] : Array Value) 72)).drew) (wz.heap.size + 1) 72 #[.int .i64 fi, .int .i64 0, .int .i64 0] ∧ Below wz.heap.size wz (((wz.alloc (.cells (fdL.map strV).toArray 9)).alloc (.cells (#[.int .i64 fi, .int .i64 0, .int .i64 0] : Array Value) 72)).drew)) := by
      refine ⟨by omega, ?_, (((Below.refl wz.heap.size wz).alloc (Nat.le_refl _) _).alloc (by simp) _).drew⟩
      have := Blk.new (wz.alloc (.cells (fdL.map strV).toArray 9)) 72 #[.int .i64 fi, .int .i64 0, .int .i64 0]
      rw [World.size_alloc] at this
      exact this.drew
    have E2 : Hid (wz.heap.size ≤ wz.heap.size ∧ Blk (((wz.alloc (.cells (#[.int .i64 fi, .int .i64 0, .int .i64 0] : Array Value) 72)).alloc (.cells (fdL.map strV).toArray 9)).drew) wz.heap.size 72 #[.int .i64 fi, .int .i64 0, .int .i64 0] ∧ Below wz.heap.size wz (((wz.alloc (.cells (#[.int .i64 fi, .int .i64 0, .int .i64 0] : Array Value) 72)).alloc (.cells (fdL.map strV).toArray 9)).drew)) :=
      ⟨Nat.le_refl _, ((Blk.new wz _ _).alloc _).drew, (((Below.refl wz.heap.size wz).alloc (Nat.le_refl _) _).alloc (by simp) _).drew⟩
    go_region_with (first
      | (go_at_call 48; refine (ref_fd_any _).mono ?_; rintro e wx ⟨rfl, rfl⟩)
      | (go_at_call 37; (with_reducible refine (HIX.out _ _ ?_).mono ?_); (first | exact K1.out | exact K2.out | exact K3.out); (rintro e wx ⟨rfl, rfl⟩)))
    all_goals
      go_wp2_with fail
      go_meet
      case rel => first | exact ⟨_, rfl, E1.out⟩ | exact ⟨_, rfl, E2.out⟩
  case rest =>
    obtain ⟨G3, rfl, hG3, hk3, hb3⟩ := hcut
    have hw3 := HW2.out.below hb3 hsz
    have HG3 := Lib.hid (World.grownBy.trans HG.out (grown_of_below hb3 (some R)))
    have HR3 := Lib.hid (HR2.out.same hb3)
    obtain ⟨c0, c1, c2⟩ := rd_cells hk3
    obtain ⟨t0, t1⟩ := wd_cells hw3
    have hszc : wz.heap.size ≤ wc.heap.size := hb3.size
    have hG3c : G3 < wc.heap.size := hk3.lt
    have HK3 := Lib.hid hk3
    have HW3 := Lib.hid hw3
    clear hb3 hk3 hw3 HIX HR2 HG HW2 hwz e6 e4 w0' w1'
    by_cases hi : fi < 0
    · have k1 : decide (fi < 0) = true := by rw [decide_eq_true_eq]; exact hi
      have HFL := Lib.hid (rfail_any (b : Int) 17 v _ HR3.out)
      have HC : Hid (cndR (v :: r) = .error (v :: r, 17)) := cndR_unk (by rw [HFI.out]; exact hi)
      clear hi
      go_wp2_with fail
      refine HFL.out.mono ?_
      rintro e y3 ⟨⟨u, rfl⟩, hr4, hg4⟩
      have HR4 := Lib.hid hr4
      have HG4 := Lib.hid (World.grownBy.trans HG3.out hg4)
      clear hr4 hg4
      go_wp2_with fail
      refine bodyPost_ret (results_none rfl _ _ _) rfl ?_
      refine ⟨⟨_, rfl⟩, Gr2.of_grown _ HG4.out, r, whl, _, _, HR4.out, .inr ⟨fun h => by omega, ?_⟩⟩
      rw [HC.out]
      simp only []
      rw [plcR_cons, HB.out]
      exact if_pos HP.out
    · have k1 : decide (fi < 0) = false := by rw [decide_eq_false_iff_not]; exact hi
      have HI := Lib.hid hi
      obtain ⟨tx2, b2, r2, p2, HN2, HFP, HCS⟩ : ∃ (tx2 : Wd) (b2 : Nat) (r2 : List Wd) (p2 : Int × Int), Hid (Calls Tryz.prog 36 #[.pointer (some ⟨R, 0, none⟩)] wc (NxtSays n0 w0 R W len verb byl byv whl (.slice Aw whl.length cw) (b2 : Int) tx2 r2 p2 wc)) ∧ Hid (flR p2 (b2 : Int) 3 = ((plcR W r len : Int), 3)) ∧ Hid ((r = [] ∧ tx2 = []) ∨ (r = tx2 :: r2 ∧ p2 = p)) := by
        cases r with
        | nil =>
          refine ⟨[], len, [], flR p (len : Int) 3, rnext_none wc HR3.out, ?_, .inl ⟨rfl, rfl⟩⟩
          show _ = _
          rw [plcR_nil, show flR p (len : Int) 3 = ((len : Int), 3) from if_pos HP.out]
          exact if_neg (show ¬ (3 : Int) = 0 by decide)
        | cons o vs =>
          refine ⟨o, bOf W (o :: vs), vs, p, rnext_some wc HR3.out, ?_, .inr ⟨rfl, rfl⟩⟩
          show _ = _
          rw [plcR_cons]
          exact if_pos HP.out
      clear hi
      go_wp2_with fail
      refine HN2.out.mono ?_
      rintro e y3 ⟨rfl, hr4, hg4⟩
      have hk4 := HK3.out.grown hg4 (by intro e; injection e with e; obtain ⟨_, _, _, hk, _⟩ := HR3.out.blk; exact Blk.ne_ HK3.out hk (by decide) e)
      have hw4 := HW3.out.grown hg4 (by intro e; injection e with e; obtain ⟨_, _, _, hk, _⟩ := HR3.out.blk; exact Blk.ne_ HW3.out hk (by decide) e)
      have hyR : y.heap.size ≠ R := fun e => by obtain ⟨_, _, _, hk, _⟩ := HR3.out.blk; exact Blk.ne_ HW3.out hk (by decide) e
      have HR4 := Lib.hid hr4
      have HG4 := Lib.hid (World.grownBy.trans HG3.out hg4)
      have HK4 := Lib.hid hk4
      have HW4 := Lib.hid hw4
      clear c0 c1 c2 t0 t1
      obtain ⟨c0, c1, c2⟩ := rd_cells hk4
      obtain ⟨t0, t1⟩ := wd_cells hw4
      have ft := hw4.frozen
      have hsy4 : wc.heap.size ≤ y3.heap.size := hg4.size
      clear hk4 hw4 hr4 hg4 HN2 HK3 HW3 HR3 HG3
      obtain ⟨w4, hw4⟩ : ∃ w4, (y3.setCell ⟨y.heap.size, 0, none⟩ (.int .i64 (b2 : Int))).setCell ⟨y.heap.size, 1, none⟩ (.string ⟨tx2.toArray⟩) = w4 := ⟨_, rfl⟩
      have hs4 : w4.heap.size = y3.heap.size := by rw [← hw4, World.size_setCell, World.size_setCell]
      have HR5 : Hid (RSt n0 w0 R W r2 len verb byl byv whl (.slice Aw whl.length cw) p2 w4) := by
        show RSt _ _ _ _ _ _ _ _ _ _ _ _ _
        rw [← hw4]; exact RSt.far HX.out (RSt.far HX.out HR4.out hxy 0 _) hxy 1 _
      have HG5 : Hid (x.grownBy w4 (some R)) := by
        show World.grownBy _ _ _
        rw [← hw4]; exact grown_new (grown_new HG4.out hxy 0 _) hxy 1 _
      have HK5 : Hid (Blk w4 G3 72 #[.int .i64 fi, .int .i64 0, .int .i64 0]) := by
        show Blk _ _ _ _
        rw [← hw4]; exact (HK4.out.far (p := ⟨y.heap.size, 0, none⟩) (by simp only []; omega) _).far (p := ⟨y.heap.size, 1, none⟩) (by simp only []; omega) _
      have HW5 : Hid (Blk w4 y.heap.size 89 #[.int .i64 (b2 : Int), .string ⟨tx2.toArray⟩]) := by
        show Blk _ _ _ _
        rw [← hw4]
        have := (HW4.out.set_ 0 (.int .i64 (b2 : Int))).set_ 1 (.string ⟨tx2.toArray⟩)
        simpa using this
      go_upto_region 8 with fail
      clear hw4 c0 c1 c2 t0 t1 ft HR4 HG4 HK4 HW4
      have hIX2 : Hid (∀ w' : World, (∀ j, j < opL.length → w'.cell? ⟨w4.heap.size, j, none⟩ = some (.string ⟨(opL.getD j []).toArray⟩)) → Calls Tryz.prog 37 #[.slice (some ⟨w4.heap.size, 0, none⟩) 6 6, .string ⟨tx2.toArray⟩] w' fun e w'' => e = .returned (.int .i64 (idxW opL tx2)) ∧ w' = w'') := fun w' hc => refIndex_any opL tx2 w4.heap.size 6 6 w' hc rfl (by decide)
      obtain ⟨io, hio⟩ : ∃ io, idxW opL tx2 = io := ⟨_, rfl⟩
      rw [hio] at hIX2
      have HIO := Lib.hid hio
      have hszy : y.heap.size < w4.heap.size := by omega
      have hszg : G3 < w4.heap.size := by omega
      have hszc4 : wc.heap.size ≤ w4.heap.size := by omega
      clear hio hs4
      go_cut [3] from 34 (fun s3 x' => s3 = .pointer (some ⟨G3, 0, none⟩) ∧ Blk x' G3 72 #[.int .i64 fi, .int .i64 io, .int .i64 0] ∧ Blk x' y.heap.size 89 #[.int .i64 (b2 : Int), .string ⟨tx2.toArray⟩] ∧ RSt n0 w0 R W r2 len verb byl byv whl (.slice Aw whl.length cw) p2 x' ∧ x.grownBy x' (some R))
      case first =>
        have K1 := Lib.hid (lst_1 w4 opL)
        have hbk : Below w4.heap.size w4 (w4.alloc (.cells (opL.map strV).toArray 9)) := (Below.refl w4.heap.size w4).alloc (Nat.le_refl _) _
        have hk6 := HK5.out.below hbk hszg
        have hw6 := HW5.out.below hbk hszy
        have HREL : Hid (Blk (((w4.setCell ⟨G3, 1, none⟩ (.int .i64 io)).alloc (.cells (opL.map strV).toArray 9)).drew) G3 72 #[.int .i64 fi, .int .i64 io, .int .i64 0] ∧ Blk (((w4.setCell ⟨G3, 1, none⟩ (.int .i64 io)).alloc (.cells (opL.map strV).toArray 9)).drew) y.heap.size 89 #[.int .i64 (b2 : Int), .string ⟨tx2.toArray⟩] ∧ RSt n0 w0 R W r2 len verb byl byv whl (.slice Aw whl.length cw) p2 (((w4.setCell ⟨G3, 1, none⟩ (.int .i64 io)).alloc (.cells (opL.map strV).toArray 9)).drew) ∧ x.grownBy (((w4.setCell ⟨G3, 1, none⟩ (.int .i64 io)).alloc (.cells (opL.map strV).toArray 9)).drew) (some R)) := by
          refine ⟨?_, ?_, ?_, ?_⟩
          · have := ((HK5.out.set_ 1 (.int .i64 io)).alloc (.cells (opL.map strV).toArray 9)).drew
            simpa using this
          · exact ((HW5.out.far (p := ⟨G3, 1, none⟩) (by simp only []; omega) _).alloc _).drew
          · exact (RSt.far HX.out HR5.out (k := G3) (by omega) 1 _).same (((Below.refl _ _).alloc (Nat.le_refl _) _).drew)
          · exact grown_drew (World.grownBy.trans (grown_new HG5.out (g := G3) (by omega) 1 _) (World.grownBy_alloc _ _ _))
        obtain ⟨c0, c1, c2⟩ := rd_cells HK5.out
        obtain ⟨t0, t1⟩ := wd_cells HW5.out
        obtain ⟨d0, d1, d2⟩ := rd_cells hk6
        obtain ⟨u0, u1⟩ := wd_cells hw6
        have fk6 := hk6.frozen
        clear hk6 hw6 hbk
        go_region_with (first
          | (go_at_call 49; refine (ref_op_any _).mono ?_; rintro e wx ⟨rfl, rfl⟩)
          | (go_at_call 37; (with_reducible refine (hIX2.out _ ?_).mono ?_); (exact K1.out); (rintro e wx ⟨rfl, rfl⟩)))
        all_goals
          go_wp2_with fail
          go_meet
          case rel => exact ⟨rfl, HREL.out⟩
      case rest =>
        obtain ⟨rfl, hk7, hw7, hr7, hg7⟩ := hcut
        have HK7 := Lib.hid hk7
        have HW7 := Lib.hid hw7
        have HR7 := Lib.hid hr7
        have HG7 := Lib.hid hg7
        obtain ⟨c0, c1, c2⟩ := rd_cells hk7
        obtain ⟨t0, t1⟩ := wd_cells hw7
        have fk7 := hk7.frozen
        clear hk7 hw7 hr7 hg7 HK5 HW5 HR5 HG5 hIX2
        have HOT : Hid (idxW (opL.take (opN fi)) tx2 = if fi = 3 then (if 0 ≤ io ∧ io < 2 then io else -1) else io) := by
          show _ = _
          unfold opN
          split
          · rw [idxW_take, HIO.out]; rfl
          · rw [← HIO.out]; rfl
        by_cases ho : io < 0
        · have z1 : decide (io < 0) = true := by rw [decide_eq_true_eq]; exact ho
          have HBAD : Hid (idxW (opL.take (opN (idxW fdL v))) tx2 < 0) := by
            show _ < _
            rw [HFI.out, HOT.out]
            split
            · rw [if_neg (by omega)]; omega
            · exact ho
          clear ho HOT
          have HFL := Lib.hid (rfail_any (b2 : Int) 3 tx2 _ HR7.out)
          go_wp2_with fail
          refine HFL.out.mono ?_
          rintro e y8 ⟨⟨u, rfl⟩, hr8, hg8⟩
          have HR8 := Lib.hid hr8
          have HG8 := Lib.hid (World.grownBy.trans HG7.out hg8)
          clear hr8 hg8
          go_wp2_with fail
          refine bodyPost_ret (results_none rfl _ _ _) rfl ?_
          refine ⟨⟨_, rfl⟩, Gr2.of_grown _ HG8.out, r2, whl, _, _, HR8.out, .inr ⟨fun h => by omega, ?_⟩⟩
          have hcr : cndR (v :: r) = .error (r, 3) := by
            have hx : ¬ idxW fdL v < 0 := by rw [HFI.out]; have := HI.out; omega
            rcases HCS.out with ⟨h1, h2⟩ | ⟨h1, h2⟩
            · rw [h1]; exact cndR_one hx
            · rw [h1]; exact cndR_op hx (HBAD.out)
          rw [hcr]
          exact HFP.out
        · have z1 : decide (io < 0) = false := by rw [decide_eq_false_iff_not]; exact ho
          have hcs2 : r = tx2 :: r2 ∧ p2 = p := by
            rcases HCS.out with ⟨h1, h2⟩ | h
            · rw [h2] at HIO
              have := HIO.out
              rw [show idxW opL [] = -1 from rfl] at this
              omega
            · exact h
          obtain ⟨hr2, hp2⟩ := hcs2
          by_cases h3 : fi = 3
          · by_cases h1 : 1 < io
            · have z2 : (fi == 3) = true := by rw [beq_iff_eq]; exact h3
              have z3 : decide (1 < io) = true := by rw [decide_eq_true_eq]; exact h1
              have HBAD : Hid (idxW (opL.take (opN (idxW fdL v))) tx2 < 0) := by
                show _ < _
                rw [HFI.out, HOT.out, if_pos h3, if_neg (by omega)]; omega
              clear ho h3 h1 hr2 hp2 HOT
              have HFL := Lib.hid (rfail_any (b2 : Int) 3 tx2 _ HR7.out)
              go_wp2_with fail
              refine HFL.out.mono ?_
              rintro e y8 ⟨⟨u, rfl⟩, hr8, hg8⟩
              have HR8 := Lib.hid hr8
              have HG8 := Lib.hid (World.grownBy.trans HG7.out hg8)
              clear hr8 hg8
              go_wp2_with fail
              refine bodyPost_ret (results_none rfl _ _ _) rfl ?_
              refine ⟨⟨_, rfl⟩, Gr2.of_grown _ HG8.out, r2, whl, _, _, HR8.out, .inr ⟨fun h => by omega, ?_⟩⟩
              have hcr : cndR (v :: r) = .error (r, 3) := by
                have hx : ¬ idxW fdL v < 0 := by rw [HFI.out]; have := HI.out; omega
                rcases HCS.out with ⟨h1, h2⟩ | ⟨h1, h2⟩
                · rw [h1]; exact cndR_one hx
                · rw [h1]; exact cndR_op hx (HBAD.out)
              rw [hcr]
              exact HFP.out
            · have z2 : (fi == 3) = true := by rw [beq_iff_eq]; exact h3
              have z3 : decide (1 < io) = false := by rw [decide_eq_false_iff_not]; exact h1
              have HGD : Hid (idxW (opL.take (opN (idxW fdL v))) tx2 = io) := by
                show _ = _
                rw [HFI.out, HOT.out, if_pos h3, if_pos (by omega)]
              have HO := Lib.hid ho
              clear ho h3 h1 HOT
              have HOS : Hid (Calls Tryz.prog 75 #[.pointer (some ⟨R, 0, none⟩), .agg #[.int .i64 fi, .int .i64 io, .int .i64 0]] wc fun e y8 => ∃ n r3 p3, e = .returned (.int .i64 n) ∧ RSt n0 w0 R W r3 len verb byl byv whl (.slice Aw whl.length cw) p3 y8 ∧ wc.grownBy y8 (some R) ∧ CndOut W (v :: r) len whl p r3 (whl ++ [⟨fi, io, n⟩]) p3) := by
                show Calls _ _ _ _ _
                have hx : ¬ idxW fdL v < 0 := by rw [HFI.out]; have := HI.out; omega
                have hg : ¬ idxW (opL.take (opN (idxW fdL v))) tx2 < 0 := by rw [HGD.out]; exact HO.out
                refine (rop_any fi io 0 _ HR7.out (by rw [hp2]; exact HP.out) (fun z hz => HL.out z (by rw [hr2]; simp [hz]))).mono fun e y8 hh => ?_
                cases r2 with
                | nil =>
                  unfold OpSays at hh
                  simp only [] at hh
                  refine ⟨0, [], _, hh.1, hh.2.1, hh.2.2, .inr ⟨fun h => by omega, ?_⟩⟩
                  rw [hr2, cndR_two hx hg]
                  simp only []
                  rw [plcR_nil]
                | cons z vs =>
                  unfold OpSays at hh
                  simp only [] at hh
                  by_cases hv : (valO fi z).2 = 0
                  · rw [if_pos hv] at hh
                    refine ⟨(valO fi z).1, vs, p2, hh.1, hh.2.1, hh.2.2, .inr ⟨fun h => by omega, ?_⟩⟩
                    rw [hr2, cndR_ok hx hg (by rw [HFI.out]; exact hv), HGD.out, HFI.out]
                    exact ⟨rfl, rfl, hp2⟩
                  · rw [if_neg hv] at hh
                    obtain ⟨⟨n, h1⟩, h2, h3⟩ := hh
                    refine ⟨n, vs, _, h1, h2, h3, .inr ⟨fun h => by omega, ?_⟩⟩
                    rw [hr2, cndR_bad hx hg (by rw [HFI.out]; exact hv), HFI.out]
                    simp only []
                    rw [plcR_cons]
              go_wp2_with fail
              refine HOS.out.mono ?_
              rintro e y8 ⟨n, r3, p3, rfl, hr8, hg8, hco⟩
              have HCO := Lib.hid hco
              have hG3R : G3 ≠ R := by have := HX.out.size; omega
              have hk8 := HK7.out.grown hg8 (by intro e; injection e with e; exact hG3R e)
              have hs8 : wc.heap.size ≤ y8.heap.size := hg8.size
              have HR9 := Lib.hid (RSt.far HX.out hr8 (k := G3) (by omega) 2 (.int .i64 n))
              have HG9 := Lib.hid (grown_new (World.grownBy.trans HG7.out hg8) (g := G3) (by omega) 2 (.int .i64 n))
              have HK9 : Hid (Blk (y8.setCell ⟨G3, 2, none⟩ (.int .i64 n)) G3 72 #[.int .i64 fi, .int .i64 io, .int .i64 n]) := by
                show Blk _ _ _ _
                have := hk8.set_ 2 (.int .i64 n)
                simpa using this
              clear c0 c1 c2 t0 t1 fk7
              obtain ⟨c0, c1, c2⟩ := rd_cells hk8
              have fk8 := hk8.frozen
              clear hr8 hg8 hk8 hco HOS HR7 HG7 HK7 HW7
              obtain ⟨w9, hw9⟩ : ∃ w9, y8.setCell ⟨G3, 2, none⟩ (.int .i64 n) = w9 := ⟨_, rfl⟩
              rw [hw9] at HR9 HG9 HK9
              go_upto_region 12 with fail
              clear hw9 c0 c1 c2 fk8
              obtain ⟨c0, c1, c2⟩ := rd_cells HK9.out
              obtain ⟨e6, e4, e3, fR⟩ := rst_cell HR9.out
              obtain ⟨i0, hi0, hz0, hz1, hz2⟩ := info_parts info_rcond
              have hsR : R < w9.heap.size := HR9.out.size
              have hsg : G3 < w9.heap.size := HK9.out.lt
              go_region_law (refine step_append_any _ rfl (.tmp 64) (.tmp 66) _ rfl n0 72 i0 _ 3 24 Tryz.underlying30 hi0 hz0 hz1 hz2 rfl (by omega) _ whl.length (cndC whl) (by simp [Act.eval]) (HR9.out.who.alloc _) (w9.heap.size + 1) (some ⟨w9.heap.size, 0, none⟩) 1 1 [.int .i64 fi, .int .i64 io, .int .i64 n] (by simp [Act.eval]) (reads_one w9 #[.int .i64 fi, .int .i64 io, .int .i64 n] 72 3 rfl) (cond_one _ _ _) (by simp only [maxLen]; omega) (by omega) (by simp only [World.size_drew, World.size_alloc]; have := HR9.out.low; omega) ?_; intro v4 w4 hown4 hg4 hat4; obtain ⟨A4, c4, rfl⟩ := own_slice hown4; obtain ⟨hb4, hf4⟩ := rst_app HR9.out (grown_undrew hg4))
              all_goals
                have hF := RSt.push HR9.out (grown_undrew hg4) hown4
                have hG := Gr2.app (u := .slice A4 (whl.length + 1) c4) HG9.out (grown_undrew hg4) 4
                go_end0
                exact ⟨⟨_, rfl⟩, hG, r3, _, _, p3, hF, HCO.out⟩
          · have z2 : (fi == 3) = false := by rw [beq_eq_false_iff_ne]; exact h3
            have HGD : Hid (idxW (opL.take (opN (idxW fdL v))) tx2 = io) := by
              show _ = _
              rw [HFI.out, HOT.out, if_neg h3]
            have HO := Lib.hid ho
            clear ho h3 HOT
            have HOS : Hid (Calls Tryz.prog 75 #[.pointer (some ⟨R, 0, none⟩), .agg #[.int .i64 fi, .int .i64 io, .int .i64 0]] wc fun e y8 => ∃ n r3 p3, e = .returned (.int .i64 n) ∧ RSt n0 w0 R W r3 len verb byl byv whl (.slice Aw whl.length cw) p3 y8 ∧ wc.grownBy y8 (some R) ∧ CndOut W (v :: r) len whl p r3 (whl ++ [⟨fi, io, n⟩]) p3) := by
              show Calls _ _ _ _ _
              have hx : ¬ idxW fdL v < 0 := by rw [HFI.out]; have := HI.out; omega
              have hg : ¬ idxW (opL.take (opN (idxW fdL v))) tx2 < 0 := by rw [HGD.out]; exact HO.out
              refine (rop_any fi io 0 _ HR7.out (by rw [hp2]; exact HP.out) (fun z hz => HL.out z (by rw [hr2]; simp [hz]))).mono fun e y8 hh => ?_
              cases r2 with
              | nil =>
                unfold OpSays at hh
                simp only [] at hh
                refine ⟨0, [], _, hh.1, hh.2.1, hh.2.2, .inr ⟨fun h => by omega, ?_⟩⟩
                rw [hr2, cndR_two hx hg]
                simp only []
                rw [plcR_nil]
              | cons z vs =>
                unfold OpSays at hh
                simp only [] at hh
                by_cases hv : (valO fi z).2 = 0
                · rw [if_pos hv] at hh
                  refine ⟨(valO fi z).1, vs, p2, hh.1, hh.2.1, hh.2.2, .inr ⟨fun h => by omega, ?_⟩⟩
                  rw [hr2, cndR_ok hx hg (by rw [HFI.out]; exact hv), HGD.out, HFI.out]
                  exact ⟨rfl, rfl, hp2⟩
                · rw [if_neg hv] at hh
                  obtain ⟨⟨n, h1⟩, h2, h3⟩ := hh
                  refine ⟨n, vs, _, h1, h2, h3, .inr ⟨fun h => by omega, ?_⟩⟩
                  rw [hr2, cndR_bad hx hg (by rw [HFI.out]; exact hv), HFI.out]
                  simp only []
                  rw [plcR_cons]
            go_wp2_with fail
            refine HOS.out.mono ?_
            rintro e y8 ⟨n, r3, p3, rfl, hr8, hg8, hco⟩
            have HCO := Lib.hid hco
            have hG3R : G3 ≠ R := by have := HX.out.size; omega
            have hk8 := HK7.out.grown hg8 (by intro e; injection e with e; exact hG3R e)
            have hs8 : wc.heap.size ≤ y8.heap.size := hg8.size
            have HR9 := Lib.hid (RSt.far HX.out hr8 (k := G3) (by omega) 2 (.int .i64 n))
            have HG9 := Lib.hid (grown_new (World.grownBy.trans HG7.out hg8) (g := G3) (by omega) 2 (.int .i64 n))
            have HK9 : Hid (Blk (y8.setCell ⟨G3, 2, none⟩ (.int .i64 n)) G3 72 #[.int .i64 fi, .int .i64 io, .int .i64 n]) := by
              show Blk _ _ _ _
              have := hk8.set_ 2 (.int .i64 n)
              simpa using this
            clear c0 c1 c2 t0 t1 fk7
            obtain ⟨c0, c1, c2⟩ := rd_cells hk8
            have fk8 := hk8.frozen
            clear hr8 hg8 hk8 hco HOS HR7 HG7 HK7 HW7
            obtain ⟨w9, hw9⟩ : ∃ w9, y8.setCell ⟨G3, 2, none⟩ (.int .i64 n) = w9 := ⟨_, rfl⟩
            rw [hw9] at HR9 HG9 HK9
            go_upto_region 12 with fail
            clear hw9 c0 c1 c2 fk8
            obtain ⟨c0, c1, c2⟩ := rd_cells HK9.out
            obtain ⟨e6, e4, e3, fR⟩ := rst_cell HR9.out
            obtain ⟨i0, hi0, hz0, hz1, hz2⟩ := info_parts info_rcond
            have hsR : R < w9.heap.size := HR9.out.size
            have hsg : G3 < w9.heap.size := HK9.out.lt
            go_region_law (refine step_append_any _ rfl (.tmp 64) (.tmp 66) _ rfl n0 72 i0 _ 3 24 Tryz.underlying30 hi0 hz0 hz1 hz2 rfl (by omega) _ whl.length (cndC whl) (by simp [Act.eval]) (HR9.out.who.alloc _) (w9.heap.size + 1) (some ⟨w9.heap.size, 0, none⟩) 1 1 [.int .i64 fi, .int .i64 io, .int .i64 n] (by simp [Act.eval]) (reads_one w9 #[.int .i64 fi, .int .i64 io, .int .i64 n] 72 3 rfl) (cond_one _ _ _) (by simp only [maxLen]; omega) (by omega) (by simp only [World.size_drew, World.size_alloc]; have := HR9.out.low; omega) ?_; intro v4 w4 hown4 hg4 hat4; obtain ⟨A4, c4, rfl⟩ := own_slice hown4; obtain ⟨hb4, hf4⟩ := rst_app HR9.out (grown_undrew hg4))
            all_goals
              have hF := RSt.push HR9.out (grown_undrew hg4) hown4
              have hG := Gr2.app (u := .slice A4 (whl.length + 1) c4) HG9.out (grown_undrew hg4) 4
              go_end0
              exact ⟨⟨_, rfl⟩, hG, r3, _, _, p3, hF, HCO.out⟩
end Go.Proofs.YtfnlddloalineaaGreatDoor
