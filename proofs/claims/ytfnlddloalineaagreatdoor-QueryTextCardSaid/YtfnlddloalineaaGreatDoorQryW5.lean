/-
  The program's reader: newReader.
-/
import Derived.Test.YtfnlddloalineaaGreatDoorQryW4
import Derived.Test.YtfnlddloalineaaGreatDoorQrySp
import Derived.OneCell
namespace Go.Proofs.YtfnlddloalineaaGreatDoor
open Go.RowKit
set_option linter.unusedVariables false
/-- the places of the first k words -/
def plL (ws : List (List UInt8)) (k : Nat) : List Int := (List.range k).map fun i => (plS ws i : Int)
theorem plL_succ (ws : List (List UInt8)) (k : Nat) : plL ws (k + 1) = plL ws k ++ [(plS ws k : Int)] := by
  unfold plL
  rw [List.range_succ, List.map_append]
  rfl
theorem plL_len (ws : List (List UInt8)) (k : Nat) : (plL ws k).length = k := by simp [plL]
theorem info_int : (Tryz.prog.info? 3).map (fun i => (i.zero, i.size, i.bytes)) = some (some (.int .i64 0), 1, 8) := by kernel_rfl
theorem int_one (z : Int) : ∀ u ∈ ([.int .i64 z] : List Value), u.oneCell' = true := by
  intro u hu
  rw [List.mem_singleton] at hu
  subst hu; rfl
/-- what newReader hands back -/
def NewSays (l : List UInt8) (w : World) (e : Ending) (w' : World) : Prop :=
  ∃ B R, e = .returned (.pointer (some ⟨R, 0, none⟩)) ∧ w.heap.size ≤ R ∧ Rdr w' B R (piecesL 32 l) (plL (piecesL 32 l) (piecesL 32 l).length) l.length ∧ Below w.heap.size w w'
set_option maxRecDepth 100000 in
set_option maxHeartbeats 2000000 in
theorem newReader_any (l : List UInt8) (w : World) (hE : Env w) (hl : l.length ≤ 1000) : Calls Tryz.prog 32 #[.string ⟨l.toArray⟩] w (NewSays l w) := by
  obtain ⟨i0, hi0, hz0, hz1, hz2⟩ := info_parts info_int
  have HSP := Lib.hid (split_any l w hE (by omega))
  have hsum := pieces_sum 32 l
  have hlen := plSum_len (piecesL 32 l)
  obtain ⟨ws, hws⟩ : ∃ ws, piecesL 32 l = ws := ⟨_, rfl⟩
  rw [hws] at HSP hsum hlen
  have HWS := Lib.hid hws
  have HPL : Hid (∀ k, plS ws k ≤ 1001) := fun k => by have := plS_le ws k; omega
  have hwl : ws.length ≤ 1001 := by omega
  clear hws hsum hlen
  go_enter Tryz.func32, Tryz.ntmps32
  go_wp2_with fail
  refine HSP.out.mono ?_
  rintro e w1 ⟨rfl, hk, hb⟩
  have HG1 := Lib.hid hk
  have HB1 := Lib.hid hb
  have hg1 : w.heap.size < w1.heap.size := hk.lt
  clear hk hb HSP
  have HR2 := Lib.hid (Blk.new w1 132 #[.slice (some ⟨w.heap.size, 0, none⟩) ws.length ws.length, .slice none 0 0, .int .i64 (l.length : Int)])
  have HG2 := Lib.hid (HG1.out.alloc (.cells (#[.slice (some ⟨w.heap.size, 0, none⟩) ws.length ws.length, .slice none 0 0, .int .i64 (l.length : Int)] : Array Value) 132))
  have HB2 := Lib.hid (HB1.out.alloc HB1.out.size (.cells (#[.slice (some ⟨w.heap.size, 0, none⟩) ws.length ws.length, .slice none 0 0, .int .i64 (l.length : Int)] : Array Value) 132))
  obtain ⟨x0, x1, x2⟩ := rd_cells HR2.out
  clear HG1 HB1
  generalize hR : w1.heap.size = R at *
  have hRlt := HR2.out.lt
  go_wp2_with fail
  go_loopw [4, 18] (fun a i wr => ∃ (k : Nat) (v : Value), k ≤ ws.length ∧ i = .int .i64 (k : Int) ∧ a = .int .i64 (plS ws k : Int) ∧ Blk wr R 132 #[.slice (some ⟨w.heap.size, 0, none⟩) ws.length ws.length, v, .int .i64 (l.length : Int)] ∧ wr.ownsRow (R + 1) 3 1 v k ((plL ws k).map intV) ∧ Blk wr w.heap.size 9 (ws.map strV).toArray ∧ Below w.heap.size w wr) (fun _ i _ => ws.length - (intOf i).toNat)
  case atStart => exact ⟨0, _, Nat.zero_le _, rfl, rfl, HR2.out, World.ownsRow_nil _ _ _ _, HG2.out, HB2.out⟩
  case round =>
    clear HR2 HG2 HB2 x0 x1 x2 hRlt hR
    obtain ⟨k, v, hk, rfl, rfl, hr, hown, hgk, hbr⟩ := hrel
    obtain ⟨wo, rfl⟩ : ∃ wo : World, wo = wr := ⟨_, rfl⟩
    have HR := Lib.hid hr
    have HO := Lib.hid hown
    have HG := Lib.hid hgk
    have HB := Lib.hid hbr
    have hRlt : R < wo.heap.size := hr.lt
    clear hr hown hgk hbr
    by_cases hlt : k < ws.length
    · have k1 : decide ((k : Int) < (ws.length : Int)) = true := by rw [decide_eq_true_eq]; omega
      have k2 : decide (k < ws.length) = true := by rw [decide_eq_true_eq]; omega
      have b1 : (k : Int) < (ws.length : Int) := by omega
      have d0 := word_cell HG.out hlt
      have PS := Lib.hid (plS_succ hlt)
      have p1 := HPL.out k
      have p2 := HPL.out (k + 1)
      have p3 := PS.out
      generalize ws.getD k [] = x at *
      have hxl : x.length ≤ 1001 := by omega
      clear p3 p2
      have PL := Lib.hid (plL_succ ws k)
      obtain ⟨A, c, rfl⟩ := own_slice HO.out
      obtain ⟨x0, x1, x2⟩ := rd_cells HR.out
      generalize plS ws k = pk at *
      go_wp2_with (at_builtin; refine wpList_append_any _ rfl (.tmp 26) (.tmp 28) _ rfl (R + 1) 3 i0 _ 1 8 Tryz.underlying23 hi0 hz0 hz1 hz2 rfl (by omega) _ k ((plL ws k).map intV) rfl (HO.out.alloc _) (wo.heap.size + 1) (some ⟨wo.heap.size, 0, none⟩) 1 1 [.int .i64 (pk : Int)] rfl (reads_one wo #[.int .i64 (pk : Int)] 3 1 rfl) (int_one _) (by simp only [maxLen]; omega) (by omega) (by simp only [World.size_alloc]; omega) ?_; intro v4 w4 hown4 hg4 hat4; obtain ⟨A4, c4, rfl⟩ := own_slice hown4; have hr4 := (HR.out.alloc (.cells (#[.int .i64 (pk : Int)] : Array Value) 3)).grown hg4 (fun h => own_blk_ne HO.out HR.out (by decide) h.symm); obtain ⟨y0, y1, y2⟩ := rd_cells hr4; have f4 := hr4.frozen)
      have HG4 := Lib.hid ((HG.out.alloc (.cells (#[.int .i64 (pk : Int)] : Array Value) 3)).grown hg4 (fun h => own_blk_ne HO.out HG.out (by decide) h.symm))
      have HB4 := Lib.hid ((HB.out.alloc HB.out.size (.cells (#[.int .i64 (pk : Int)] : Array Value) 3)).grown hg4 (by simp only [World.size_alloc]; have := HB.out.size; omega) (fun k hk => by have := own_base HO.out k hk; omega))
      have hne := own_blk_ne hown4 hr4 (by decide)
      have HR5 : Hid (Blk (w4.setCell ⟨R, 1, none⟩ (.slice A4 (k + 1) c4)) R 132 #[.slice (some ⟨w.heap.size, 0, none⟩) ws.length ws.length, .slice A4 (k + 1) c4, .int .i64 (l.length : Int)]) := by
        show Blk _ _ _ _
        have := hr4.set_ 1 (.slice A4 (k + 1) c4)
        simpa using this
      have HO5 := Lib.hid (ownsRow_setCell_other hown4 (a := ⟨R, 1, none⟩) hne (.slice A4 (k + 1) c4))
      have HG5 := Lib.hid (HG4.out.far (p := ⟨R, 1, none⟩) (by simp only []; omega) (.slice A4 (k + 1) c4))
      have HB5 := Lib.hid (HB4.out.setCell (p := ⟨R, 1, none⟩) (by simp only []; omega) (.slice A4 (k + 1) c4))
      clear hr4 hown4 hg4 hat4 hne HG4 HB4
      go_wp2_with fail
      go_roundw
      case rel => exact ⟨k + 1, _, by omega, by go_num, by rw [PS.out]; go_num, HR5.out, by rw [PL.out, List.map_append]; exact HO5.out, HG5.out, HB5.out⟩
      case measure => simp [intOf]; omega
    · have k1 : decide ((k : Int) < (ws.length : Int)) = false := by rw [decide_eq_false_iff_not]; omega
      have k2 : decide (k < ws.length) = false := by rw [decide_eq_false_iff_not]; omega
      obtain rfl : k = ws.length := by omega
      go_wp2_with fail
      go_ret
      obtain ⟨A, c, rfl⟩ := own_slice HO.out
      refine ⟨wo.heap.size, R, rfl, by omega, ?_, HB.out⟩
      rw [HWS.out]
      refine ⟨some ⟨w.heap.size, 0, none⟩, ws.length, A, c, HR.out, Nat.le_refl _, ?_, plL_len ws _, fun _ => ⟨w.heap.size, 0, rfl, by omega, HG.out.lt, fun j u hu => ?_⟩, fun hx => ?_, hRlt, Nat.le_refl _⟩
      · have := HO.out.2
        rcases this with ⟨h1, h2⟩ | ⟨g, cap, cur, h1, _, _, h3, _⟩
        · injection h1 with _ h1; omega
        · injection h1 with _ _ h1; omega
      · rw [Nat.zero_add, HG.out.cell j]
        simpa using hu
      · have hpos : 0 < ws.length := by
          rcases Nat.eq_zero_or_pos ws.length with h | h
          · exact absurd (by rw [h]; rfl) hx
          · exact h
        obtain ⟨g, cap, hv, hgb, hglt⟩ := HO.out.form hpos
        injection hv with hv
        subst hv
        refine ⟨g, 0, rfl, by omega, hglt, fun j u hu => ?_⟩
        have e : (⟨g, 0, none⟩ : Addr).add j = ⟨g, 0 + j, none⟩ := by unfold Addr.add; split <;> simp_all
        have := HO.out.cells (g := g) rfl j u hu
        rwa [e] at this
end Go.Proofs.YtfnlddloalineaaGreatDoor
