/-
  Dates: Text of both.
-/
import Derived.Test.YtfnlddloalineaaGreatDoorDatW6
import Derived.IntWalk
import Derived.Deep.RegionWith
namespace Go.Proofs.YtfnlddloalineaaGreatDoor
open Go.RowKit
set_option linter.unusedVariables false
theorem own_bytes {w : World} {base g c : Nat} {l : List UInt8} (h : w.ownsRow base 5 1 (.slice (some ⟨g, 0, none⟩) l.length c) l.length (l.map u8V)) :
    (convert 76 9 (.slice (some ⟨g, 0, none⟩) l.length c)).run Tryz.prog w = .ok (.string ⟨l.toArray⟩) w := by
  refine run_convert_bytes_back w _ _ 5 ⟨g, 0, none⟩ c l Tryz.underlying76 Tryz.underlying5 Tryz.underlying9 (fun j hj => ?_)
  refine h.cells (g := g) rfl j _ ?_
  rw [List.getElem?_map, List.getElem?_eq_getElem hj]
  rfl
theorem u8_dash : ([45] : List UInt8).map u8V = [.int .u8 45] := rfl
set_option maxRecDepth 100000 in
set_option maxHeartbeats 1600000 in
theorem dtext_yes (n : Int) (w : World) (h1 : -25567 ≤ n) (h2 : n ≤ 84005) : Calls Tryz.prog 80 #[.int .i64 n] w fun e w' => e = .returned (.string ⟨(datT n).toArray⟩) ∧ Below w.heap.size w w' := by
  obtain ⟨i0, hi0, hz0, hz1, hz2⟩ := info_parts info_u8
  have HC := Lib.hid (civil_yes n w h1 h2)
  have H1 : Hid (∀ u ∈ ([.int .u8 45] : List Value), u.oneCell' = true) := by
    show ∀ _, _
    intro u hu
    simp only [List.mem_cons, List.not_mem_nil, or_false] at hu
    subst hu; rfl
  clear h1 h2
  go_enter Tryz.func80, Tryz.ntmps80
  go_wp2_with fail
  refine HC.out.mono ?_
  rintro e w1 ⟨y, m, d, rfl, hok, hn, hb⟩
  have HB1 := Lib.hid hb
  have HT : Hid (datT n = twoL (y / 100) ++ twoL (y % 100) ++ [45] ++ twoL m ++ [45] ++ twoL d) := by show _ = _; rw [← hn, datT_of hok]; rfl
  obtain ⟨⟨hy1, hy2⟩, ⟨hm1, hm2⟩, hd1, hd2⟩ := dayOk_in hok
  clear hb hn hok HC
  have y0 : (0 : Int) ≤ y := by omega
  have HX1 := Lib.hid (two_any (.slice none 0 0) [] (y / 100) w1.heap.size w1 (World.ownsRow_nil _ _ _ _) (by omega) (by omega) (by simp) (Nat.le_refl _))
  go_wp2_with fail
  refine HX1.out.mono ?_
  rintro e w2 ⟨v2, rfl, hown, hb⟩
  rw [List.nil_append] at hown
  obtain ⟨A2, c2, rfl⟩ := own_slice hown
  have HB2 := Lib.hid hb
  have HX2 := Lib.hid (two_any _ (twoL (y / 100)) (y % 100) w1.heap.size w2 hown (by omega) (by omega) (by simp [twoL]) hb.size)
  clear hown hb HX1
  go_wp2_with fail
  refine HX2.out.mono ?_
  rintro e w3 ⟨v3, rfl, hown, hb⟩
  obtain ⟨A3, c3, rfl⟩ := own_slice hown
  have HB3 := Lib.hid (HB2.out.trans hb)
  have HO3 := Lib.hid hown
  clear hown hb HX2 HB2
  have l3 : (twoL (y / 100) ++ twoL (y % 100)).length = 4 := by simp [twoL]
  generalize twoL (y / 100) ++ twoL (y % 100) = L3 at *
  have hl3 : L3.length ≤ 4 := by omega
  clear l3
  go_wp2_with (at_builtin; refine wpList_append_any _ rfl (.tmp 23) (.tmp 24) _ rfl w1.heap.size 5 i0 _ 1 1 Tryz.underlying76 hi0 hz0 hz1 hz2 rfl (by omega) _ L3.length (L3.map u8V) rfl (HO3.out.alloc _) (w3.heap.size + 1) (some ⟨w3.heap.size, 0, none⟩) 1 1 [.int .u8 45] rfl (reads_lit w3 #[.int .u8 45] 5) H1.out (by simp only [maxLen]; omega) (by omega) (by simp only [World.size_alloc]; have := HB3.out.size; omega) ?_; intro v4 w4 hown4 hg4 hat4)
  have HB4 := Lib.hid ((HB3.out.alloc HB3.out.size (.cells (#[.int .u8 45] : Array Value) 5)).grown hg4 (by simp only [World.size_alloc]; have := HB3.out.size; omega) (fun k hk => own_base HO3.out k hk))
  have hown5 : w4.ownsRow w1.heap.size 5 1 v4 (L3 ++ [45]).length ((L3 ++ [45]).map u8V) := by rw [List.length_append, List.map_append]; exact hown4
  obtain ⟨A4, c4, rfl⟩ := own_slice hown5
  have HX4 := Lib.hid (two_any _ (L3 ++ [45]) m w1.heap.size w4 hown5 (by omega) (by omega) (by rw [List.length_append]; simp; omega) HB4.out.size)
  clear hown5 hown4 hg4 hat4 HB3 HO3
  go_wp2_with fail
  refine HX4.out.mono ?_
  rintro e w5 ⟨v5, rfl, hown, hb⟩
  obtain ⟨A5, c5, rfl⟩ := own_slice hown
  have HB5 := Lib.hid (HB4.out.trans hb)
  have HO5 := Lib.hid hown
  clear hown hb HX4 HB4
  have l5 : (L3 ++ [45] ++ twoL m).length ≤ 7 := by simp [twoL]; omega
  generalize L3 ++ [45] ++ twoL m = L5 at *
  go_wp2_with (at_builtin; refine wpList_append_any _ rfl (.tmp 28) (.tmp 29) _ rfl w1.heap.size 5 i0 _ 1 1 Tryz.underlying76 hi0 hz0 hz1 hz2 rfl (by omega) _ L5.length (L5.map u8V) rfl (HO5.out.alloc _) (w5.heap.size + 1) (some ⟨w5.heap.size, 0, none⟩) 1 1 [.int .u8 45] rfl (reads_lit w5 #[.int .u8 45] 5) H1.out (by simp only [maxLen]; omega) (by omega) (by simp only [World.size_alloc]; have := HB5.out.size; omega) ?_; intro v6 w6 hown6 hg6 hat6)
  have HB6 := Lib.hid ((HB5.out.alloc HB5.out.size (.cells (#[.int .u8 45] : Array Value) 5)).grown hg6 (by simp only [World.size_alloc]; have := HB5.out.size; omega) (fun k hk => own_base HO5.out k hk))
  have hown7 : w6.ownsRow w1.heap.size 5 1 v6 (L5 ++ [45]).length ((L5 ++ [45]).map u8V) := by rw [List.length_append, List.map_append]; exact hown6
  obtain ⟨A6, c6, rfl⟩ := own_slice hown7
  have HX6 := Lib.hid (two_any _ (L5 ++ [45]) d w1.heap.size w6 hown7 (by omega) (by omega) (by rw [List.length_append]; simp; omega) HB6.out.size)
  clear hown7 hown6 hg6 hat6 HB5 HO5
  go_wp2_with fail
  refine HX6.out.mono ?_
  rintro e w7 ⟨v7, rfl, hown, hb⟩
  have HB7 := Lib.hid (below_two HB1.out (HB6.out.trans hb))
  have hpos : 0 < (L5 ++ [45] ++ twoL d).length := by simp [twoL]
  obtain ⟨g, cap, rfl, _, _⟩ := hown.form hpos
  have hcv := own_bytes hown
  clear hown hb HX6 HB6 hpos
  generalize L5 ++ [45] ++ twoL d = L7 at *
  go_wp2_with fail
  go_ret
  exact ⟨by rw [HT.out]; rfl, HB7.out⟩
theorem dtext_any (n : Int) (w : World) : Calls Tryz.prog 80 #[.int .i64 n] w fun e w' => e = .returned (.string ⟨(datT n).toArray⟩) ∧ Below w.heap.size w w' := by
  cases h : dateB n
  · have F := Lib.hid (datT_no h)
    have HC := Lib.hid (civil_no n w h)
    clear h
    go_enter Tryz.func80, Tryz.ntmps80
    go_wp2_with fail
    refine HC.out.mono ?_
    rintro e wx ⟨rfl, rfl⟩
    go_wp2_with fail
    go_ret
    exact ⟨by rw [F.out]; rfl, Below.refl _ _⟩
  · unfold dateB at h
    rw [Bool.and_eq_true, decide_eq_true_eq, decide_eq_true_eq] at h
    exact dtext_yes n w h.1 h.2
def digK : Int → Nat → List UInt8
  | _, 0 => []
  | n, k + 1 => digK (n / 10) k ++ [UInt8.ofNat (48 + n % 10).toNat]
theorem digK_len (n : Int) (k : Nat) : (digK n k).length = k := by
  induction k generalizing n with
  | zero => rfl
  | succ k ih => simp [digK, ih]
theorem digK_2 {n : Int} (h0 : 0 ≤ n) (h1 : n ≤ 99) : digK n 2 = twoL n := by
  show [] ++ [UInt8.ofNat (48 + n / 10 % 10).toNat] ++ [UInt8.ofNat (48 + n % 10).toNat] = _
  unfold twoL
  rw [show n / 10 % 10 = n / 10 by omega]
  rfl
theorem digK_4 {n : Int} (h0 : 0 ≤ n) (h1 : n ≤ 9999) : digK n 4 = twoL (n / 100) ++ twoL (n % 100) := by
  show [] ++ [UInt8.ofNat (48 + n / 10 / 10 / 10 % 10).toNat] ++ [UInt8.ofNat (48 + n / 10 / 10 % 10).toNat] ++ [UInt8.ofNat (48 + n / 10 % 10).toNat] ++ [UInt8.ofNat (48 + n % 10).toNat] = _
  unfold twoL
  rw [show n / 10 / 10 / 10 % 10 = n / 100 / 10 by omega, show n / 10 / 10 % 10 = n / 100 % 10 by omega, show n / 10 % 10 = n % 100 / 10 by omega, show n % 10 = n % 100 % 10 by omega]
  rfl
theorem conv_byte {w : World} {g : Nat} {n : Int} (h : w.cell? ⟨g, 0, none⟩ = some (.int .u8 n)) : (convert 76 9 (.slice (some ⟨g, 0, none⟩) 1 1)).run Tryz.prog w = .ok (.string ⟨[UInt8.ofNat n.toNat].toArray⟩) w := by
  rw [run_convert_bytes_string _ _ _ _ _ _ _ Tryz.underlying76 Tryz.underlying5 Tryz.underlying9]
  rw [run_bytesToString _ _ _ _ [n] (by simp [go_sem, loadCells, h])]
  rfl
set_option maxRecDepth 100000 in
set_option maxHeartbeats 1600000 in
theorem digits_any (k : Nat) : ∀ (n : Int) (w : World), 0 ≤ n → n ≤ 1000000 → k ≤ 10 →
    Calls Tryz.prog 110 #[.int .i64 n, .int .i64 k] w fun e w' => e = .returned (.string ⟨(digK n k).toArray⟩) ∧ Below w.heap.size w w' := by
  induction k with
  | zero =>
    intro n w _ _ _
    go_enter Tryz.func110, Tryz.ntmps110
    go_wp2_with fail
    go_ret
    exact ⟨rfl, Below.refl _ _⟩
  | succ k ih =>
    intro n w h0 h1 hk
    have IH : Hid (∀ w, Calls Tryz.prog 110 #[.int .i64 (n / 10), .int .i64 (k : Int)] w fun e w' => e = .returned (.string ⟨(digK (n / 10) k).toArray⟩) ∧ Below w.heap.size w w') := fun w => ih (n / 10) w (by omega) (by omega) (by omega)
    have F : Hid (digK n (k + 1) = digK (n / 10) k ++ [UInt8.ofNat (48 + n % 10).toNat]) := rfl
    have hl := digK_len (n / 10) k
    have hl2 : (digK (n / 10) k).length ≤ 10 := by omega
    have q1 : (((k + 1 : Nat) : Int) == 0) = false := by rw [beq_eq_false_iff_ne]; omega
    have q2 : ((k : Int) + 1 == 0) = false := by rw [beq_eq_false_iff_ne]; omega
    have d1 : (0 : Int) ≤ n / 10 := by omega
    have d3 : (0 : Int) ≤ n % 10 := by omega
    have d4 : n % 10 ≤ 9 := by omega
    have k0 : (0 : Int) ≤ (k : Int) := by omega
    have k9 : (k : Int) ≤ 10 := by omega
    clear ih hl
    generalize digK (n / 10) k = T at *
    have hcv : ∀ wz : World, (convert 76 9 (.slice (some ⟨wz.heap.size, 0, none⟩) 1 1)).run Tryz.prog (wz.alloc (.cells #[.int .u8 (48 + n % 10)] 5)) = .ok (.string ⟨[UInt8.ofNat (48 + n % 10).toNat].toArray⟩) (wz.alloc (.cells #[.int .u8 (48 + n % 10)] 5)) := fun wz => run_byte_string wz (48 + n % 10)
    go_enter Tryz.func110, Tryz.ntmps110
    go_wp2_with fail
    have v0 : n.tdiv 10 = n / 10 := Int.tdiv_eq_ediv_of_nonneg h0
    have v1 : n.tmod 10 = n % 10 := Int.tmod_eq_emod_of_nonneg h0
    have v2 : IntKind.i64.wrap (n / 10) = n / 10 := IntWalk.i64_in _ (by omega)
    have v3 : IntKind.i64.wrap (n % 10) = n % 10 := IntWalk.i64_in _ (by omega)
    have v4 : IntKind.i64.wrap (48 + n % 10) = 48 + n % 10 := IntWalk.i64_in _ (by omega)
    have v5 : IntKind.u8.wrap (48 + n % 10) = 48 + n % 10 := IntWalk.u8_in _ (by omega)
    have v6 : ((k + 1 : Nat) : Int) - 1 = (k : Int) := by omega
    have v7 : IntKind.i64.wrap (k : Int) = (k : Int) := IntWalk.i64_in _ (by omega)
    have v8 : (k : Int) + 1 - 1 = (k : Int) := by omega
    have hcell : (w.alloc (.cells #[.int .u8 (48 + n % 10)] 5)).drew.cell? ⟨w.heap.size, 0, none⟩ = some (.int .u8 (48 + n % 10)) := (Blk.new w 5 #[.int .u8 (48 + n % 10)]).drew.cell 0
    have hcv2 := conv_byte hcell
    go_region_with (go_at_call 110; (with_reducible refine (IH.out _).mono ?_); (rintro e wx ⟨rfl, hbx⟩); (try have hq := conv_byte ((hbx.cell (p := ⟨w.heap.size, 0, none⟩) (by simp)).trans hcell)))
    all_goals
      clear v0 v1 v2 v3 v4 v5 v6 v7 v8
      go_wp2_with fail
      go_ret
      refine ⟨ret_str' ((cat_mk _ _).trans (mk_congr F.out.symm)), ?_⟩
      first
        | exact below_two (Below.drew ((Below.refl _ w).alloc (Nat.le_refl _) _)) hbx
        | exact below_two ((Below.drew (Below.refl _ w)).alloc (Nat.le_refl _) _) hbx
        | exact (below_two (Below.drew (Below.refl _ w)) hbx).alloc (below_two (Below.drew (Below.refl _ w)) hbx).size _
end Go.Proofs.YtfnlddloalineaaGreatDoor
