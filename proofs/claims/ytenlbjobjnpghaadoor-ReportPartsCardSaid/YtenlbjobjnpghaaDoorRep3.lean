/-
  Make.
-/
import Derived.Test.YtenlbjobjnpghaaDoorRep2
import Derived.Test.YtenlbjobjnpghaaDoorOwn2
namespace Go.Proofs.YtenlbjobjnpghaaDoor
open Go.RowKit
set_option linter.unusedVariables false
structure SLine where
  row : SRow
  amt : Int
instance : Inhabited SLine := ⟨⟨default, 0⟩⟩
def lineCells (x : SLine) : List Value := rowCells x.row ++ [.int .i64 x.amt]
def linesCells (xs : List SLine) : List Value := xs.flatMap lineCells
theorem linesCells_snoc (xs : List SLine) (x : SLine) : linesCells (xs ++ [x]) = linesCells xs ++ lineCells x := by simp [linesCells]
theorem line_one (x : SLine) : ∀ u ∈ lineCells x, u.oneCell' = true := by
  intro u hu
  unfold lineCells rowCells at hu
  simp only [List.cons_append, List.nil_append, List.mem_cons, List.not_mem_nil, or_false] at hu
  rcases hu with rfl | rfl | rfl | rfl | rfl | rfl <;> rfl
theorem info_line : (Tryd.prog.info? 51).map (fun i => (i.zero, i.size, i.bytes)) = some (some (.agg #[.string ⟨#[]⟩, .int .i64 0, .int .i64 0, .int .i64 0, .bool false, .int .i64 0]), 6, 56) := by kernel_rfl
theorem info_rline : (Tryd.prog.info? 65).map (fun i => (i.zero, i.size, i.bytes)) = some (some (.agg #[.string ⟨#[]⟩, .int .i64 0, .int .i64 0, .int .i64 0, .bool false, .int .i64 0]), 6, 56) := by kernel_rfl
def lnR (bs : List SBal) (r : SRow) : SLine := ⟨r, amtR bs r⟩
def mkOk (bs : List SBal) (rs : List SRow) : Bool := rs.all fun r => okAmt (amtR bs r)
def mkE (bs : List SBal) (rs : List SRow) : Int := if validR rs then (if mkOk bs rs then 0 else 2) else 1
def mkL (bs : List SBal) (rs : List SRow) : List SLine := if mkE bs rs = 0 then rs.map (lnR bs) else []
theorem mk_bad {bs : List SBal} {rs : List SRow} (h : validR rs = false) : mkE bs rs = 1 ∧ mkL bs rs = [] := by
  have : mkE bs rs = 1 := by unfold mkE; rw [h]; rfl
  exact ⟨this, by unfold mkL; rw [this]; rfl⟩
theorem mk_range {bs : List SBal} {rs : List SRow} {k : Nat} (h : validR rs = true) (hk : k < rs.length) (ha : okAmt (amtR bs (rs.getD k default)) = false) : mkE bs rs = 2 ∧ mkL bs rs = [] := by
  have h1 : mkOk bs rs = false := by
    unfold mkOk
    rw [List.all_eq_false]
    exact ⟨rs.getD k default, getD_mem' hk, by rw [ha]; simp⟩
  have : mkE bs rs = 2 := by unfold mkE; rw [if_pos h, h1]; rfl
  exact ⟨this, by unfold mkL; rw [this]; rfl⟩
theorem mk_good {bs : List SBal} {rs : List SRow} (h : validR rs = true) (ha : mkOk bs (rs.take rs.length) = true) : mkE bs rs = 0 ∧ mkL bs rs = rs.map (lnR bs) := by
  rw [List.take_length] at ha
  have : mkE bs rs = 0 := by unfold mkE; rw [if_pos h, if_pos ha]
  exact ⟨this, by unfold mkL; rw [if_pos this]⟩
theorem mkOk_step {bs : List SBal} {rs : List SRow} {k : Nat} (hk : k < rs.length) (h : mkOk bs (rs.take k) = true) (ha : okAmt (amtR bs (rs.getD k default)) = true) : mkOk bs (rs.take (k + 1)) = true := by
  unfold mkOk at h ⊢
  rw [List.take_succ_eq_append_getElem hk, List.all_append, h]
  have e : rs.getD k default = rs[k] := by simp [List.getD, hk]
  rw [e] at ha
  simp [ha]
theorem lines_step {bs : List SBal} {rs : List SRow} {k : Nat} (hk : k < rs.length) : linesCells ((rs.take (k + 1)).map (lnR bs)) = linesCells ((rs.take k).map (lnR bs)) ++ lineCells (lnR bs (rs.getD k default)) := by
  rw [List.take_succ_eq_append_getElem hk, List.map_append, List.map_cons, List.map_nil, linesCells_snoc]
  simp [List.getD, hk]
def MakeSays (bs : List SBal) (rs : List SRow) (T : TypeId) (w : World) (e : Ending) (w' : World) : Prop :=
  ∃ v, e = .returned (.tuple #[v, .int .i64 (mkE bs rs)]) ∧ w'.ownsRow w.heap.size T 6 v (mkL bs rs).length (linesCells (mkL bs rs)) ∧ Below w.heap.size w w'
theorem make_none {bs : List SBal} {rs : List SRow} {T : TypeId} {x : Int} {w w' : World} (h : mkE bs rs = x ∧ mkL bs rs = []) (hb : Below w.heap.size w w') : MakeSays bs rs T w (.returned (.tuple #[.slice none 0 0, .int .i64 x])) w' := by
  refine ⟨.slice none 0 0, by rw [h.1], ?_, hb⟩
  rw [h.2]
  exact World.ownsRow_nil _ _ _ _
theorem make_some {bs : List SBal} {rs : List SRow} {T : TypeId} {w w' : World} {v : Value} (h : mkE bs rs = 0 ∧ mkL bs rs = rs.map (lnR bs)) (hown : w'.ownsRow w.heap.size T 6 v rs.length (linesCells (rs.map (lnR bs)))) (hb : Below w.heap.size w w') : MakeSays bs rs T w (.returned (.tuple #[v, .int .i64 0])) w' := by
  refine ⟨v, by rw [h.1], ?_, hb⟩
  rw [h.2, List.length_map]
  exact hown
theorem okRow_name {b : Int} {r : SRow} (h : okRow b r = true) : r.name.length ≤ 16 := name_le (okRow_iff.1 h).1
set_option maxRecDepth 100000 in
set_option maxHeartbeats 8000000 in
theorem make_any (bs : List SBal) (rs : List SRow) (A A' : Option Addr) (n c n' c' : Nat) (B : Nat) (w : World) (hr : Reads w B 2 A n (balsCells bs)) (hr' : Reads w B 5 A' n' (rowsCells rs)) (hB : B ≤ w.heap.size) (hn : n ≤ 200) (hs : smallB bs) (hn63 : n' ≤ 9223372036854775807) (hnc : n' ≤ c') (hnm : ∀ r ∈ rs, r.name.length ≤ 3000) :
    Calls Tryd.prog 11 #[resV A n c, .slice A' n' c'] w (MakeSays bs rs 51 w) := by
  obtain ⟨i0, hi0, hz0, hz1, hz2⟩ := info_parts info_line
  unfold resV
  have hb1 := (Below.refl w.heap.size w).alloc (Nat.le_refl _) (.cells #[.int .i64 0, .slice none 0 0, .slice none 0 0, .slice A n c] 33)
  have HKR := Lib.hid (Blk.new w 33 #[.int .i64 0, .slice none 0 0, .slice none 0 0, .slice A n c])
  have HL := Lib.hid (rows_len hr')
  have HR := Lib.hid hr
  have HR' := Lib.hid hr'
  have HS := Lib.hid hs
  have HV := Lib.hid (valid_any rs A' n' c' B (w.alloc (.cells #[.int .i64 0, .slice none 0 0, .slice none 0 0, .slice A n c] 33)) (hr'.low hB (Nat.le_refl _) hb1) (by have := hb1.size; omega) hn63 hnc hnm)
  have HB1 := Lib.hid hb1
  clear hr hr' hs hnm hb1
  cases hv : validR rs
  · have F := Lib.hid (mk_bad (bs := bs) hv)
    have HVF := Lib.hid hv
    clear hv
    go_enter Tryd.func11, Tryd.ntmps11
    go_wp2_with fail
    refine HV.out.mono ?_
    rintro e w1 ⟨rfl, hb⟩
    rw [HVF.out]
    go_wp2_with fail
    go_ret2
    exact make_none F.out (below_two HB1.out hb)
  · have hn3 : n' ≤ 300 := by
      have := HL.out
      unfold validR at hv
      rw [Bool.and_eq_true, decide_eq_true_eq] at hv
      omega
    have HVF := Lib.hid hv
    clear hv
    go_enter Tryd.func11, Tryd.ntmps11
    go_wp2_with fail
    refine HV.out.mono ?_
    rintro e w1 ⟨rfl, hb⟩
    rw [HVF.out]
    have HB2 := Lib.hid (below_two HB1.out hb)
    have HK1 := Lib.hid (HKR.out.below hb (by simp))
    have hw1 : w.heap.size < w1.heap.size := by have := hb.size; simp at this; omega
    clear hb
    go_wp2_with fail
    go_loopw [6, 15] (fun v i wr => ∃ k : Nat, k ≤ n' ∧ i = .int .i64 k ∧ mkOk bs (rs.take k) = true ∧ wr.ownsRow w1.heap.size 51 6 v k (linesCells ((rs.take k).map (lnR bs))) ∧ Below w1.heap.size w1 wr) (fun _ i _ => n' - (intOf i).toNat)
    case atStart => exact ⟨0, Nat.zero_le _, rfl, rfl, World.ownsRow_nil _ _ _ _, Below.refl _ _⟩
    case round =>
      obtain ⟨k, hk, rfl, hok, hown, hbr⟩ := hrel
      obtain ⟨wo, rfl⟩ : ∃ wo : World, wo = wr := ⟨_, rfl⟩
      have HOK := Lib.hid hok
      have HO := Lib.hid hown
      clear hok hown
      have hbw := below_two HB2.out hbr
      by_cases hlt : k < n'
      · have k3 : decide ((k : Int) < (n' : Int)) = true := by rw [decide_eq_true_eq]; omega
        have hkl : k < rs.length := by rw [HL.out]; exact hlt
        obtain ⟨ad, rfl, hab, c0, c1, c2, c3, c4⟩ := (HR'.out.low hB (Nat.le_refl _) hbw).row_at hlt
        have HMR : Hid (okAmt (amtR bs (rs.getD k default)) = false → mkE bs rs = 2 ∧ mkL bs rs = []) := fun h => mk_range HVF.out hkl h
        have HMS : Hid (okAmt (amtR bs (rs.getD k default)) = true → mkOk bs (rs.take (k + 1)) = true) := fun h => mkOk_step hkl HOK.out h
        have HLS := Lib.hid (lines_step (bs := bs) hkl)
        generalize rs.getD k default = r at *
        have hbo := hbw.alloc hbw.size (.cells (#[.string ⟨r.name.toArray⟩, .int .i64 r.level, .int .i64 r.from_, .int .i64 r.to_, .bool r.neg] : Array Value) 46)
        have HA := Lib.hid (amount_any bs A n c r B (wo.alloc (.cells (#[.string ⟨r.name.toArray⟩, .int .i64 r.level, .int .i64 r.from_, .int .i64 r.to_, .bool r.neg] : Array Value) 46)) (HR.out.low hB (Nat.le_refl _) hbo) (by have := hbo.size; omega) hn HS.out)
        have HBO := Lib.hid hbo
        have HKW := Lib.hid (HK1.out.below hbr hw1)
        have HKX := Lib.hid (Blk.new wo 46 #[.string ⟨r.name.toArray⟩, .int .i64 r.level, .int .i64 r.from_, .int .i64 r.to_, .bool r.neg])
        have HOA := Lib.hid (HO.out.alloc (.cells (#[.string ⟨r.name.toArray⟩, .int .i64 r.level, .int .i64 r.from_, .int .i64 r.to_, .bool r.neg] : Array Value) 46))
        have HB1w := Lib.hid (hbr.alloc hbr.size (.cells (#[.string ⟨r.name.toArray⟩, .int .i64 r.level, .int .i64 r.from_, .int .i64 r.to_, .bool r.neg] : Array Value) 46))
        have HLO := Lib.hid (line_one (lnR bs r))
        have q0 := HKW.out.cell 0
        have q1 := HKW.out.cell 1
        have q2 := HKW.out.cell 2
        have q3 := HKW.out.cell 3
        simp only [List.getElem?_toArray, List.getElem?_cons_zero, List.getElem?_cons_succ] at q0 q1 q2 q3
        have hw0 : w.heap.size < wo.heap.size := by have := hbr.size; omega
        have elr : lnR bs r = ⟨r, amtR bs r⟩ := rfl
        rw [elr] at HLS HLO
        clear elr
        generalize amtR bs r = am at *
        obtain ⟨nm, lv, fr, to_, ng⟩ := r
        clear hbo hbw
        go_wp2_with fail
        refine HA.out.mono ?_
        rintro e w2 ⟨rfl, hb2⟩
        obtain ⟨x0, x1, x2, x3, x4⟩ := row_cells (HKX.out.below hb2 (by simp))
        have hb3 := below_two HBO.out hb2
        have hb4 := below_two HB1w.out hb2
        have HO2 := Lib.hid (own_below HOA.out hb2)
        clear q0 q1 q2 q3 c0 c1 c2 c3 c4 hb2
        go_wp2_with fail
        refine (moneyValid_any am _).mono ?_
        rintro e wx ⟨rfl, rfl⟩
        cases ha : okAmt am
        · have F := Lib.hid (HMR.out ha)
          clear ha HMR HMS
          go_wp2_with fail
          go_ret2
          exact make_none F.out hb3
        · have F := Lib.hid (HMS.out ha)
          clear ha HMR HMS
          go_wp2_with (at_builtin; refine wpList_append_any _ rfl (.tmp 25) (.tmp 29) _ rfl w1.heap.size 51 i0 _ 6 56 Tryd.underlying26 hi0 hz0 hz1 hz2 rfl (by omega) _ k (linesCells ((rs.take k).map (lnR bs))) rfl (HO2.out.alloc _) (w2.heap.size + 1) (some ⟨w2.heap.size, 0, none⟩) 1 1 (lineCells ⟨⟨nm, lv, fr, to_, ng⟩, am⟩) rfl (reads_one w2 #[.string ⟨nm.toArray⟩, .int .i64 lv, .int .i64 fr, .int .i64 to_, .bool ng, .int .i64 am] 51 6 rfl) HLO.out (by simp only [maxLen]; omega) (by omega) (by simp only [World.size_alloc]; have := hb4.size; omega) ?_; intro v4 w4 hown4 hg4 hat4)
          go_wp2_with fail
          refine ⟨⟨k + 1, by omega, by go_num, F.out, by rw [HLS.out]; exact hown4, ?_⟩, by simp [intOf]; omega⟩
          refine (hb4.alloc hb4.size _).grown hg4 (by simp only [World.size_alloc]; have := hb4.size; omega) (own_base HO2.out)
      · have k3 : decide ((k : Int) < (n' : Int)) = false := by rw [decide_eq_false_iff_not]; omega
        have hkn : k = rs.length := by rw [HL.out]; omega
        have hok := HOK.out
        have hown := HO.out
        rw [hkn] at hok hown
        rw [List.take_length] at hown
        have F := Lib.hid (mk_good HVF.out hok)
        have HO1 := Lib.hid hown
        clear hok hown HO HOK hkn
        go_wp2_with fail
        go_ret2
        exact make_some F.out (own_mono HO1.out (by omega)) hbw
end Go.Proofs.YtenlbjobjnpghaaDoor
