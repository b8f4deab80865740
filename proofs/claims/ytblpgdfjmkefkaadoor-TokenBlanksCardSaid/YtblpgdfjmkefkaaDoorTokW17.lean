/-
  The law TokenBlanks.
-/
import Derived.Test.YtblpgdfjmkefkaaDoorTokW15
import Derived.Test.YtblpgdfjmkefkaaDoorMemQ
import Derived.Test.YtblpgdfjmkefkaaDoorOwn2
namespace Go.Proofs.YtblpgdfjmkefkaaDoor
open Go.RowKit
set_option linter.unusedVariables false
theorem mk_congr {a b : List UInt8} (h : a = b) : (⟨a.toArray⟩ : ByteArray) = ⟨b.toArray⟩ := by rw [h]
theorem gapL_step {ks : List Nat} {k : Nat} (hk : k < ks.length) : gapL (ks.take (k + 1)) = gapL (ks.take k) ++ chunk (ks.getD k 0 % 6) := by
  unfold gapL
  rw [List.take_succ_eq_append_getElem hk, List.flatMap_append]
  have e : ks.getD k 0 = ks[k] := by simp [List.getD, hk]
  rw [e]; simp
theorem both_some {x y : Option (List (Int × List UInt8))} {l : List (Int × List UInt8)} (h : both x y = some l) : ∃ a b, x = some a ∧ y = some b ∧ l = a ++ b := by
  cases x with
  | none => cases y <;> cases h
  | some a =>
    cases y with
    | none => cases h
    | some b => exact ⟨a, b, rfl, rfl, by simpa [both] using h.symm⟩
theorem shape_err {x : TR} (h : shape x = none) : ∃ e, x = .error e := by
  cases x with
  | error e => exact ⟨e, rfl⟩
  | ok ts => cases h
theorem err_ne {L : List UInt8} {e : Int × Int} (h : tokE L = .error e) : trErr (tokE L) ≠ 0 := by
  rcases tok_errs L with ⟨ts, h'⟩ | ⟨a, ee, h', hne, _⟩
  · rw [h] at h'; cases h'
  · rw [h']; exact hne
/-- what the three texts' tokens are to each other -/
theorem blanks_facts (a b : List UInt8) (ks : List Nat) (hl : a.length + b.length ≤ 3000) (hz : ks.length ≤ 50) :
    (trErr (tokE a) = 0 ∧ trErr (tokE b) = 0 ∧ trErr (tokE (a ++ 10 :: (gapL ks ++ b))) = 0 ∧ (trToks (tokE a) ++ trToks (tokE b)).map (keyT false) = (trToks (tokE (a ++ 10 :: (gapL ks ++ b)))).map (keyT false)) ∨
    ((trErr (tokE a) ≠ 0 ∨ trErr (tokE b) ≠ 0) ∧ trErr (tokE (a ++ 10 :: (gapL ks ++ b))) ≠ 0) := by
  have h := blanks_both a b ks hl hz
  cases ha : tokE a with
  | error e =>
    refine .inr ⟨.inl (by have := err_ne ha; rwa [ha] at this), ?_⟩
    rw [ha] at h
    have : shape (tokE (a ++ 10 :: (gapL ks ++ b))) = none := by rw [h]; exact both_none _
    obtain ⟨e', he'⟩ := shape_err this
    exact err_ne he'
  | ok x =>
    cases hb : tokE b with
    | error e =>
      refine .inr ⟨.inr (by have := err_ne hb; rwa [hb] at this), ?_⟩
      rw [ha, hb] at h
      have : shape (tokE (a ++ 10 :: (gapL ks ++ b))) = none := by rw [h]; rfl
      obtain ⟨e', he'⟩ := shape_err this
      exact err_ne he'
    | ok y =>
      rw [ha, hb] at h
      obtain ⟨z, hz1, hz2⟩ := shape_ok (l := x.map (fun t => (t.kind, t.text)) ++ y.map (fun t => (t.kind, t.text))) (by rw [h]; rfl)
      rw [hz1]
      exact .inl ⟨rfl, rfl, rfl, key_shape (by rw [List.map_append]; exact hz2.symm)⟩
theorem tokCells_app (a b : List Tok) : tokCells (a ++ b) = tokCells a ++ tokCells b := by simp [tokCells]
theorem tokCells_one (ts : List Tok) : ∀ u ∈ tokCells ts, u.oneCell' = true := by
  intro u hu
  obtain ⟨t, _, hu⟩ := List.mem_flatMap.1 hu
  exact tokRow_one t u hu
set_option maxRecDepth 100000 in
set_option maxHeartbeats 4000000 in
theorem lawBlanks (s1 s2 : ByteArray) (zs : List Int) (A : Option Addr) (n c : Nat) (w : World) (hE : Env w) (hr : Reads w w.heap.size 1 A n (zs.map (Value.int .u8))) (hz : ∀ z ∈ zs, 0 ≤ z ∧ z ≤ 255) (hn63 : n ≤ 9223372036854775807)
    (hs1 : s1.size ≤ 140737488351232) (hs2 : s2.size ≤ 140737488351232) :
    Calls Tryd.prog 5 #[.string s1, .string s2, .slice A n c] w fun e w' => e = .returned (.bool true) ∧ Below w.heap.size w w' := by
  obtain ⟨a, rfl⟩ : ∃ L : List UInt8, s1 = ⟨L.toArray⟩ := ⟨s1.data.toList, by simp⟩
  obtain ⟨b, rfl⟩ : ∃ L : List UInt8, s2 = ⟨L.toArray⟩ := ⟨s2.data.toList, by simp⟩
  rw [mk_size] at hs1 hs2
  have HR := Lib.hid hr
  have HZ := Lib.hid hz
  clear hr hz
  by_cases hbig : 3000 < a.length + b.length
  · have hd : decide (3000 < (a.length : Int) + (b.length : Int)) = true := by rw [decide_eq_true_eq]; omega
    go_enter Tryd.func5, Tryd.ntmps5
    go_wp2_with fail
    refine (awake_true _ hE).mono ?_
    rintro e w1 ⟨rfl, hb⟩
    go_wp2_with fail
    go_ret
    exact ⟨rfl, hb⟩
  have hd : decide (3000 < (a.length : Int) + (b.length : Int)) = false := by rw [decide_eq_false_iff_not]; omega
  have hab : a.length + b.length ≤ 3000 := by omega
  by_cases hg : 50 < n
  · have hd2 : decide (50 < (n : Int)) = true := by rw [decide_eq_true_eq]; omega
    clear hbig
    go_enter Tryd.func5, Tryd.ntmps5
    go_wp2_with fail
    refine (awake_true _ hE).mono ?_
    rintro e w1 ⟨rfl, hb⟩
    go_wp2_with fail
    go_ret
    exact ⟨rfl, hb⟩
  have hd2 : decide (50 < (n : Int)) = false := by rw [decide_eq_false_iff_not]; omega
  have hn50 : n ≤ 50 := by omega
  have ha3 : a.length ≤ 3000 := by omega
  have hb3 : b.length ≤ 3000 := by omega
  obtain ⟨ks, hks⟩ : ∃ ks : List Nat, ks = zs.map Int.toNat := ⟨_, rfl⟩
  have HKS := Lib.hid hks
  have HLN := Lib.hid HR.out.int_lenq
  have HKL : Hid (ks.length = n) := by show _ = _; rw [hks, List.length_map, HLN.out]
  have HBF := Lib.hid (blanks_facts a b ks (by omega) (by rw [HKL.out]; omega))
  have hgl : (gapL ks).length ≤ 450 := by have := gap_len ks; rw [HKL.out] at this; omega
  clear hbig hg hks
  go_enter Tryd.func5, Tryd.ntmps5
  go_wp2_with fail
  refine (awake_true _ hE).mono ?_
  rintro e w1 ⟨rfl, hb1⟩
  go_wp2_with fail
  refine (tokens_any a _ (hE.after hb1) (by omega)).mono ?_
  rintro e w2 ⟨v1, rfl, hown1, hb2⟩
  have hb12 := below_two hb1 hb2
  go_wp2_with fail
  refine (tokens_any b _ (hE.after hb12) (by omega)).mono ?_
  rintro e w3 ⟨v2, rfl, hown2, hb3'⟩
  have HB := Lib.hid (below_two hb12 hb3')
  have hown1' := own_below hown1 hb3'
  obtain ⟨A1, c1, rfl⟩ := own_slice hown1'
  obtain ⟨A2, c2, rfl⟩ := own_slice hown2
  have HO1 := Lib.hid (Reads.of_own hown1')
  have HO2 := Lib.hid (Reads.of_own hown2)
  have hE3 := hE.after HB.out
  have hbd1 := (tokE_bd a).1
  have hbd2 := (tokE_bd b).1
  clear hown1 hown1' hown2 hb1 hb2 hb12 hb3'
  generalize trAt (tokE a) = at1 at *
  generalize trAt (tokE b) = at2 at *
  generalize trErr (tokE a) = er1 at *
  generalize trErr (tokE b) = er2 at *
  generalize trToks (tokE a) = x at *
  generalize trToks (tokE b) = y at *
  go_wp2_with fail
  go_loopw [13, 14] (fun s i wr => ∃ k : Nat, k ≤ n ∧ i = .int .i64 k ∧ s = .string ⟨(a ++ 10 :: gapL (ks.take k)).toArray⟩ ∧ Below w3.heap.size w3 wr) (fun _ i _ => n - (intOf i).toNat)
  case atStart => exact ⟨0, by omega, rfl, by rw [cat_mk a [10]]; rfl, Below.refl _ _⟩
  case round =>
    obtain ⟨k, hk, rfl, rfl, hbr⟩ := hrel
    obtain ⟨wo, rfl⟩ : ∃ wo : World, wo = wr := ⟨_, rfl⟩
    have hglk : (gapL (ks.take k)).length ≤ 450 := by
      have := gap_len (ks.take k)
      have h2 := List.length_take_le k ks
      omega
    by_cases hlt : k < n
    · obtain ⟨ad, rfl, hbk, hcell⟩ := ((HR.out.below HB.out).low HB.out.size (Nat.le_refl _) (hbr.alloc hbr.size (Obj.cells #[Value.string { data := #[32] }, Value.string { data := #[9] }, Value.string { data := #[10] }, Value.string { data := #[13] }, Value.string { data := #[35, 32, 120, 32, 61, 32, 49, 59, 10] }, Value.string { data := #[35, 10] }] 9))).int_atq hlt
      obtain ⟨z1, z2⟩ := HZ.out (zs.getD k 0) (by
        have : k < zs.length := by rw [HLN.out]; exact hlt
        simp [List.getD, this])
      have HST : Hid (gapL (ks.take (k + 1)) = gapL (ks.take k) ++ chunk ((zs.getD k 0).toNat % 6)) := by
        show _ = _
        rw [gapL_step (by rw [HKL.out]; exact hlt)]
        have : ks.getD k 0 = (zs.getD k 0).toNat := by
          have h2 : k < zs.length := by rw [HLN.out]; exact hlt
          rw [HKS.out]
          simp [List.getD, h2]
        rw [this]
      generalize zs.getD k 0 = z at *
      generalize gapL (ks.take k) = G at *
      have h6 : z % 6 = 0 ∨ z % 6 = 1 ∨ z % 6 = 2 ∨ z % 6 = 3 ∨ z % 6 = 4 ∨ z % 6 = 5 := by omega
      have h7 : z.toNat % 6 = (z % 6).toNat := by omega
      rw [h7] at HST
      clear h7
      rcases h6 with h6 | h6 | h6 | h6 | h6 | h6
      all_goals
        rw [h6] at HST
        go_wp2_with fail
        exact ⟨⟨k + 1, by omega, by go_num, by rw [HST.out]; refine congrArg Value.string ((cat_mk _ _).trans (mk_congr ?_)); simp [chunk], hbr.alloc hbr.size _⟩, by simp [intOf]; omega⟩
    · have e : ks.take k = ks := List.take_of_length_le (by rw [HKL.out]; omega)
      rw [e]
      clear e hglk
      go_wp2_with fail
      rw [cat_mk, List.append_assoc, List.cons_append]
      have hE4 := hE3.after hbr
      have hLl : (a ++ 10 :: (gapL ks ++ b)).length ≤ 9000 := by simp; omega
      refine (tokens_any _ _ hE4 hLl).mono ?_
      rintro e w5 ⟨v3, rfl, hown3, hb5⟩
      have hbd3 := (tokE_bd (a ++ 10 :: (gapL ks ++ b))).1
      have HB5 := Lib.hid (below_two HB.out (below_two hbr hb5))
      have HO1' := Lib.hid (HO1.out.low (Nat.le_refl _) (Nat.le_refl _) (below_two hbr hb5))
      have HO2' := Lib.hid (HO2.out.low (Nat.le_refl _) (Nat.le_refl _) (below_two hbr hb5))
      have hsz : w3.heap.size ≤ w5.heap.size := (below_two hbr hb5).size
      obtain ⟨A3, c3, rfl⟩ := own_slice hown3
      have HO3 := Lib.hid (Reads.of_own hown3)
      clear hown3 hb5 hbr hgl
      generalize trAt (tokE (a ++ 10 :: (gapL ks ++ b))) = at3 at *
      generalize trErr (tokE (a ++ 10 :: (gapL ks ++ b))) = er3 at *
      generalize trToks (tokE (a ++ 10 :: (gapL ks ++ b))) = zt at *
      rcases HBF.out with ⟨rfl, rfl, rfl, hk⟩ | ⟨h1, h2⟩
      · have HKK := Lib.hid hk
        clear hk HBF
        go_wp2_with fail
        refine (from_any x A1 x.length c1 _ _ HO1'.out hsz (by omega)).mono ?_
        rintro e w6 ⟨v6, rfl, hown6, hb6⟩
        go_wp2_with fail
        refine (from_any y A2 y.length c2 _ _ (HO2'.out.low hsz (Nat.le_refl _) hb6) (by have := hb6.size; omega) (by omega)).mono ?_
        rintro e w7 ⟨v7, rfl, hown7, hb7⟩
        have hown6' := own_below hown6 hb7
        obtain ⟨A7, c7, rfl⟩ := own_slice hown7
        have HO7 := Lib.hid (Reads.of_own hown7)
        have HO6 := Lib.hid hown6'
        have HB7 := Lib.hid (below_two (below_two HB5.out hb6) hb7)
        have hsz7 : w5.heap.size ≤ w7.heap.size := Nat.le_trans hb6.size hb7.size
        clear hown6 hown6' hown7
        obtain ⟨i0, hi0, hz0, hz1, hz2⟩ := info_parts info_rtok
        go_wp2_with (at_builtin; refine wpList_append_want _ (by first | rfl | simp [Region.wanted, yielded]) (.tmp 81) (.tmp 83) _ rfl w5.heap.size 40 i0 _ 3 32 Tryd.underlying27 hi0 hz0 hz1 hz2 rfl (by omega) v6 x.length (tokCells x) rfl HO6.out w7.heap.size A7 y.length c7 (tokCells y) rfl HO7.out (tokCells_one y) (by simp only [maxLen]; omega) (by omega) hsz7 ?_; intro v8 w8 hown8 hg8 hat8)
        have hb8 : Below w5.heap.size w5 w8 := (below_two hb6 hb7).grown hg8 hsz7 (own_base HO6.out)
        have HB8 := Lib.hid (HB7.out.grown hg8 (by have := HB5.out.size; omega) (fun g hg => Nat.le_trans HB5.out.size (own_base HO6.out g hg)))
        rw [← tokCells_app] at hown8
        have HO8 := Lib.hid hown8
        have HB58 := Lib.hid hb8
        have hbd9 : zt.length ≤ 10000 := by omega
        clear hown8 hg8 hat8 hb8 hb6 hb7
        refine (from_any zt A3 zt.length c3 _ _ (HO3.out.low (Nat.le_refl _) (Nat.le_refl _) HB58.out) HB58.out.size hbd9).mono ?_
        rintro e w9 ⟨v9, rfl, hown9, hb9⟩
        have hown8' := own_below HO8.out hb9
        obtain ⟨A8, c8, rfl⟩ := own_slice hown8'
        obtain ⟨A9, c9, rfl⟩ := own_slice hown9
        have HR8 := Lib.hid (Reads.of_own hown8')
        have HR9 := Lib.hid (Reads.of_own hown9)
        clear hown8' hown9
        go_wp2_with fail
        refine (same_yes (x ++ y) zt false _ _ _ _ _ _ _ _ _ HR8.out HR9.out (Nat.le_refl _) (Nat.le_refl _) (by omega) HKK.out).mono ?_
        rintro e w10 ⟨rfl, hb10⟩
        go_wp2_with fail
        go_ret
        exact ⟨rfl, below_two (below_two HB8.out hb9) hb10⟩
      · have hne : (er3 != 0) = true := by rw [bne_iff_ne]; exact h2
        by_cases h0 : er1 = 0
        · have q1 : (er1 != 0) = false := by rw [h0]; rfl
          have q2 : (er2 != 0) = true := by
            rw [bne_iff_ne]
            rcases h1 with h | h
            · exact absurd h0 h
            · exact h
          clear h0 h1 h2 HBF
          go_wp2_with fail
          go_ret
          exact ⟨rfl, HB5.out⟩
        · have q1 : (er1 != 0) = true := by rw [bne_iff_ne]; exact h0
          clear h0 h1 h2 HBF
          go_wp2_with fail
          go_ret
          exact ⟨rfl, HB5.out⟩
end Go.Proofs.YtblpgdfjmkefkaaDoor
