/-
  The law's sides.
-/
import Derived.Test.YtcmmppkmkejniaaGreatDoorGvSd
namespace Go.Proofs.YtcmmppkmkejniaaGreatDoor
open Go.RowKit
set_option linter.unusedVariables false
set_option linter.unusedSimpArgs false
theorem info_intS : (Tryz.prog.info? 3).map (fun i => (i.zero, i.size, i.bytes)) = some (some (.int .i64 0), 1, 8) := by kernel_rfl
def SidesSay (bs : List SBal) (rs : List SRow) (w : World) (e : Ending) (w' : World) : Prop :=
  ((∃ l v, validR rs = true ∧ sdUp (rs.map (lnR bs)) rs rs.length = some l ∧ e = .returned (.tuple #[v, .bool true]) ∧ w'.ownsRow w.heap.size 3 1 v l.length (l.map (Value.int .i64))) ∨ e = .returned (.tuple #[.slice none 0 0, .bool false])) ∧ Below w.heap.size w w'
set_option maxRecDepth 100000 in
set_option maxHeartbeats 8000000 in
theorem sides_any (bs : List SBal) (rs : List SRow) (A A' : Option Addr) (n c n' c' : Nat) (B : Nat) (w : World) (hr : Reads w B 2 A n (balsCells bs)) (hr' : Reads w B 5 A' n' (rowsCells rs)) (hB : B ≤ w.heap.size) (hn : n ≤ 200) (hs : smallB bs) (hn63 : n' ≤ 400) (hnc : n' ≤ c') (hnm : ∀ r ∈ rs, r.name.length ≤ 3000) :
    Calls Tryz.prog 19 #[resV A n c, .slice A' n' c'] w (SidesSay bs rs w) := by
  obtain ⟨i0, hi0, hz0, hz1, hz2⟩ := info_parts info_intS
  have HL := Lib.hid (rows_len hr')
  have HR := Lib.hid hr'
  have HBX := Lib.hid ((Below.refl w.heap.size w).alloc (Nat.le_refl _) (.cells #[.int .i64 0, .slice none 0 0, .slice none 0 0, .slice A n c] 55))
  have HM := Lib.hid (make_any bs rs A A' n c n' c' B (w.alloc (.cells #[.int .i64 0, .slice none 0 0, .slice none 0 0, .slice A n c] 55)) (hr.low hB (Nat.le_refl _) HBX.out) (hr'.low hB (Nat.le_refl _) HBX.out) (by simp only [World.size_alloc]; omega) hn hs (by omega) hnc hnm)
  have HNM : Hid (∀ x ∈ rs.map (lnR bs), x.row.name.length ≤ 3000) := fun x hx => by
    obtain ⟨r, hr0, rfl⟩ := List.mem_map.1 hx
    exact hnm r hr0
  unfold MakeSays resV at HM
  unfold resV
  clear hr hr' hs
  go_enter Tryz.func19, Tryz.ntmps19
  go_wp2_with fail
  refine HM.out.mono ?_
  rintro e w1 ⟨v, rfl, ho, hb1⟩
  obtain ⟨A1, c1, rfl⟩ := own_slice ho
  have HB1 := Lib.hid (below_two HBX.out hb1)
  clear hb1 HM
  by_cases he : mkE bs rs = 0
  case neg =>
    have q : (mkE bs rs != 0) = true := by simpa using he
    have q' : (mkE bs rs == 0) = false := by simpa using he
    clear ho
    go_wp2_with fail
    go_ret2
    exact ⟨.inr rfl, HB1.out⟩
  case pos =>
    obtain ⟨hv, _, hml⟩ := mk_ok he
    rw [hml] at ho ⊢
    rw [he]
    rw [List.length_map] at ho ⊢
    have HO := Lib.hid ho
    have HV := Lib.hid hv
    clear ho hv hml he
    generalize hxs : rs.map (lnR bs) = xs at *
    have HXS := Lib.hid hxs
    clear hxs
    have hl0 := HL.out
    go_wp2_with fail
    go_loopw [8, 22] (fun out iv wr => ∃ (k : Nat) (l : List Int), iv = .int .i64 k ∧ k ≤ n' ∧ sdUp xs rs k = some l ∧ wr.ownsRow w1.heap.size 3 1 out l.length (l.map (Value.int .i64)) ∧ Below w1.heap.size w1 wr) (fun _ iv _ => n' - (intOf iv).toNat)
    case atStart => exact ⟨0, [], rfl, by omega, rfl, World.ownsRow_nil _ _ _ _, Below.refl _ _⟩
    case round =>
      obtain ⟨k, l, rfl, hk, hsd, hown, hbr⟩ := hrel
      obtain ⟨wo, rfl⟩ : ∃ wo : World, wo = wr := ⟨_, rfl⟩
      obtain ⟨Ao, co, rfl⟩ := own_slice hown
      have hll := sdUp_len hsd
      have HS := Lib.hid hsd
      have HW := Lib.hid hown
      have hs1 := hbr.size
      clear hown hsd
      by_cases hlt : k < n'
      case neg =>
        have k3 : decide ((k : Int) < (n' : Int)) = false := by rw [decide_eq_false_iff_not]; omega
        go_wp2_with fail
        go_ret2
        exact ⟨.inl ⟨l, _, HV.out, by rw [HXS.out, HL.out, ← show k = n' by omega]; exact HS.out, rfl, own_mono HW.out (by have := HB1.out.size; omega)⟩, below_two HB1.out hbr⟩
      case pos =>
        have k3 : decide ((k : Int) < (n' : Int)) = true := by rw [decide_eq_true_eq]; omega
        have b3 : (k : Int) < (n' : Int) := by omega
        obtain ⟨ad, rfl, hab, d0, d1, d2, d3, d4⟩ := (HR.out.low hB (Nat.le_refl _) (below_two HB1.out hbr)).row_at hlt
        by_cases hlv : 0 < (rs.getD k default).level
        · have F := Lib.hid (sdUp_in HS.out hlv)
          generalize (rs.getD k default).level = lv at *
          have q : decide (lv > 0) = true := by rw [decide_eq_true_eq]; omega
          have q' : decide (0 < lv) = true := by rw [decide_eq_true_eq]; omega
          go_wp2_with fail
          exact ⟨⟨k + 1, l, by go_num, by omega, F.out, HW.out, hbr⟩, by simp [intOf]; omega⟩
        · have FT := Lib.hid (fun h => sdUp_top HS.out hlv (he := h))
          generalize (rs.getD k default).level = lv at *
          have q : decide (lv > 0) = false := by rw [decide_eq_false_iff_not]; omega
          have q' : decide (0 < lv) = false := by rw [decide_eq_false_iff_not]; omega
          have HSU := Lib.hid (sum_any xs A1 rs.length c1 w1.heap.size (k : Int) wo ((Reads.of_own HO.out).keep fun p hp => hbr.cell hp) (by omega) (by omega) HNM.out)
          rw [HL.out] at HSU
          go_wp2_with fail
          refine HSU.out.mono ?_
          rintro e w2 ⟨rfl, hb2⟩
          have HB2 := Lib.hid (below_two hbr hb2)
          have HW2 := Lib.hid (own_below HW.out hb2)
          have hs2 : wo.heap.size ≤ w2.heap.size := hb2.size
          clear hb2 HSU d0 d1 d2 d3 d4
          by_cases hu : suE xs k = 0
          · have F := Lib.hid (FT.out hu)
            rw [hu]
            clear FT
            generalize suN xs k = sn at *
            go_wp2_with (at_builtin; refine wpList_append_any _ rfl (.tmp 39) (.tmp 41) _ rfl w1.heap.size 3 i0 _ 1 8 Tryz.underlying49 hi0 hz0 hz1 hz2 rfl (by omega) _ l.length (l.map (Value.int .i64)) rfl (HW2.out.alloc _) (w2.heap.size + 1) (some ⟨w2.heap.size, 0, none⟩) 1 1 [.int .i64 sn] rfl (reads_one w2 #[.int .i64 sn] 3 1 rfl) (by simp [Value.oneCell']) (by simp only [maxLen]; omega) (by omega) (by simp only [World.size_alloc]; omega) ?_; intro v4 w4 hown4 hg4 hat4)
            refine ⟨⟨k + 1, l ++ [sn], by go_num, by omega, F.out, ?_, ?_⟩, by simp [intOf]; omega⟩
            · rw [List.length_append, List.length_singleton, List.map_append]
              exact hown4
            · exact (HB2.out.alloc (by omega) _).grown hg4 (by simp only [World.size_alloc]; omega) (fun j hj => by have := own_base HW.out j hj; omega)
          · have q2 : (suE xs k != 0) = true := by simpa using hu
            have q2' : (suE xs k == 0) = false := by simpa using hu
            clear FT
            go_wp2_with fail
            go_ret2
            exact ⟨.inr rfl, below_two HB1.out HB2.out⟩
end Go.Proofs.YtcmmppkmkejniaaGreatDoor
