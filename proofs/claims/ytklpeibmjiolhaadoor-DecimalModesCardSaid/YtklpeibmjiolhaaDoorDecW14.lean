/-
  The law DecimalModes.
-/
import Derived.Test.YtklpeibmjiolhaaDoorDecModes
import Derived.Test.YtklpeibmjiolhaaDoorMem
import Derived.Test.YtklpeibmjiolhaaDoorDecW10
namespace Go.Proofs.YtklpeibmjiolhaaDoor
open Go.RowKit
set_option linter.unusedVariables false
/-- what the reference's Size returns of any int: the least one is its own -/
def szF (n : Int) : Int := if n = -9223372036854775808 then n else absI n
theorem refSize_full (n : Int) (w : World) (h1 : -9223372036854775808 ≤ n) (h2 : n ≤ 9223372036854775807) : Calls Tryd.prog 15 #[.int .i64 n] w fun e w' => e = .returned (.int .i64 (szF n)) ∧ w = w' := by
  unfold szF absI
  by_cases h0 : n = -9223372036854775808
  · subst h0
    rw [if_pos rfl]
    go_enter Tryd.func15, Tryd.ntmps15
    go_wp2
    go_ret
    exact ⟨ret_int (by first | (unfold wrap64; omega) | (simp [wrap64])), rfl⟩
  · rw [if_neg h0]
    by_cases h : n < 0
    · rw [if_pos h]
      have h3 : -9223372036854775807 ≤ n := by omega
      clear h0
      go_enter Tryd.func15, Tryd.ntmps15
      go_wp2
      go_ret
      exact ⟨rfl, rfl⟩
    · rw [if_neg h]
      have hd : decide (n < 0) = false := by rw [decide_eq_false_iff_not]; exact h
      clear h h0
      go_enter Tryd.func15, Tryd.ntmps15
      go_wp2
      go_ret
      exact ⟨rfl, rfl⟩
theorem tmod_small {n : Int} (h1 : -1000000007 < n) (h2 : n < 1000000007) : n.tmod 1000000007 = n := by
  by_cases h : 0 ≤ n
  · rw [Int.tmod_eq_emod_of_nonneg h]; omega
  · have e : n = -(-n) := by omega
    rw [e, Int.neg_tmod, Int.tmod_eq_emod_of_nonneg (by omega)]
    omega
theorem tmod_bd (n : Int) : -1000000007 < n.tmod 1000000007 ∧ n.tmod 1000000007 < 1000000007 := by
  by_cases h : 0 ≤ n
  · rw [Int.tmod_eq_emod_of_nonneg h]; omega
  · have e : n = -(-n) := by omega
    rw [e, Int.neg_tmod, Int.tmod_eq_emod_of_nonneg (by omega)]
    omega
theorem szF_small {n : Int} (h1 : -1000000007 < n) (h2 : n < 1000000007) : szF n = absI n ∧ szF (n.tmod 1000000007) = absI n := by
  have : szF n = absI n := by unfold szF; rw [if_neg (by omega)]
  exact ⟨this, by rw [tmod_small h1 h2]; exact this⟩
theorem szF_big {n : Int} (h : ¬(-1000000007 < n ∧ n < 1000000007)) : szF (n.tmod 1000000007) ≠ szF n := by
  obtain ⟨t1, t2⟩ := tmod_bd n
  have : szF (n.tmod 1000000007) = absI (n.tmod 1000000007) := by unfold szF; rw [if_neg (by omega)]
  rw [this]
  generalize n.tmod 1000000007 = t at *
  unfold szF absI
  (repeat' split) <;> omega
/-- the results by mode -/
def fu (num den : Int) (i : Nat) : Int := rdI num den i
theorem modes_facts {num den : Int} (h1 : -1000000007 < num) (h2 : num < 1000000007) (h3 : -1000000007 < den) (h4 : den < 1000000007) (h0 : den ≠ 0) :
    (fu num den 5 - fu num den 4 ≤ 1 ∧ fu num den 4 ≤ fu num den 5) ∧ (fu num den 5 = fu num den 4 ↔ num.tmod den = 0) ∧ (∀ k, k < 6 → fu num den k = fu num den 4 ∨ fu num den k = fu num den 5) ∧
    (∀ k, k ≤ 3 → fu (-num) den k = -fu num den k) ∧ (fu (-num) den 4 = -fu num den 5 ∧ fu (-num) den 5 = -fu num den 4) ∧
    (∀ k, k < 2 → 2 * absI (num - fu num den k * den) ≤ absI den ∧ -4000000000 ≤ fu num den k * den ∧ fu num den k * den ≤ 4000000000) ∧
    (2 * absI (num - fu num den 1 * den) = absI den → (fu num den 1).tmod 2 = 0) ∧ (∀ k, k < 6 → -1000000008 ≤ fu num den k ∧ fu num den k ≤ 1000000008) := by
  refine ⟨md_ends num den, md_exact h0, fun k _ => md_either num den k, fun k hk => md_neg (by omega), md_swap num den, fun k hk => ?_, fun h => (md_near h0 (.inr rfl)).2 rfl h, fun k _ => ?_⟩
  · have hn := (md_near (num := num) h0 (show (k : Int) = 0 ∨ (k : Int) = 1 by omega)).1
    refine ⟨hn, ?_⟩
    have hn' : 2 * absI (num - fu num den k * den) ≤ absI den := hn
    have h5 := absI_bd (n := den) (A := 1000000007) ⟨by omega, by omega⟩
    generalize fu num den k * den = p at *
    have h6 : 0 ≤ absI (num - p) := by unfold absI; split <;> omega
    rcases absI_or (num - p) with h | h <;> omega
  · have := md_bd (num := num) h0 (k : Int) (M := 1000000007) ⟨by omega, by omega⟩
    exact ⟨by have := this.1; exact (show -1000000008 ≤ rdI num den k by omega), by have := this.2; exact (show rdI num den k ≤ 1000000008 by omega)⟩
/-- an array of six, of which k are written -/
def arr6 (f : Nat → Int) (k : Nat) : Array Value :=
  #[.int .i64 (if 0 < k then f 0 else 0), .int .i64 (if 1 < k then f 1 else 0), .int .i64 (if 2 < k then f 2 else 0), .int .i64 (if 3 < k then f 3 else 0), .int .i64 (if 4 < k then f 4 else 0), .int .i64 (if 5 < k then f 5 else 0)]
theorem arr6_set (f : Nat → Int) {k : Nat} (h : k < 6) : (arr6 f k).setIfInBounds k (.int .i64 (f k)) = arr6 f (k + 1) := by
  obtain rfl | rfl | rfl | rfl | rfl | rfl : k = 0 ∨ k = 1 ∨ k = 2 ∨ k = 3 ∨ k = 4 ∨ k = 5 := by omega
  all_goals simp [arr6]
theorem arr6_free (f : Nat → Int) {k : Nat} (h : k < 6) : (arr6 f k)[k]? = some (.int .i64 0) := by
  obtain rfl | rfl | rfl | rfl | rfl | rfl : k = 0 ∨ k = 1 ∨ k = 2 ∨ k = 3 ∨ k = 4 ∨ k = 5 := by omega
  all_goals simp [arr6]
theorem arr6_full (f : Nat → Int) {k : Nat} (h : k < 6) : (arr6 f 6)[k]? = some (.int .i64 (f k)) := by
  obtain rfl | rfl | rfl | rfl | rfl | rfl : k = 0 ∨ k = 1 ∨ k = 2 ∨ k = 3 ∨ k = 4 ∨ k = 5 := by omega
  all_goals simp [arr6]
theorem modes_round {n den : Int} (h1 : -1000000007 < n) (h2 : n < 1000000007) (h3 : -1000000007 < den) (h4 : den < 1000000007) (h0 : den ≠ 0) (k : Nat) (hk : k < 6) : rdE n den k = 0 ∧ rdV n den k = rdI n den k :=
  rdE_ok (okMode_iff.2 ⟨by omega, by omega⟩) ⟨by omega, by omega, by omega, by omega⟩ h0
set_option maxRecDepth 100000 in
set_option maxHeartbeats 40000000 in
theorem lawModes (num den : Int) (w : World) (hE : Env w) (hn : -9223372036854775808 ≤ num ∧ num ≤ 9223372036854775807) (hd : -9223372036854775808 ≤ den ∧ den ≤ 9223372036854775807) :
    Calls Tryd.prog 4 #[.int .i64 num, .int .i64 den] w fun e w' => e = .returned (.bool true) ∧ Below w.heap.size w w' := by
  obtain ⟨hn1, hn2⟩ := hn
  obtain ⟨hd1, hd2⟩ := hd
  by_cases h0 : den = 0
  · subst h0
    go_enter Tryd.func4, Tryd.ntmps4
    go_wp2_with fail
    refine (awake_true _ hE).mono ?_
    rintro e w1 ⟨rfl, hb⟩
    go_wp2_with fail
    refine (awake_true _ (hE.after hb)).mono ?_
    rintro e w2 ⟨rfl, hb2⟩
    go_wp2_with fail
    go_ret
    exact ⟨rfl, below_two hb hb2⟩
  have hd0 : (den == 0) = false := by rw [beq_eq_false_iff_ne]; exact h0
  have HD0 := Lib.hid h0
  clear h0
  obtain ⟨tn1, tn2⟩ := tmod_bd num
  obtain ⟨td1, td2⟩ := tmod_bd den
  by_cases hN : -1000000007 < num ∧ num < 1000000007
  case neg =>
    have ne := szF_big hN
    generalize hs1 : szF (num.tmod 1000000007) = s1 at *
    generalize hs2 : szF num = s2 at *
    have S1 := Lib.hid hs1
    have S2 := Lib.hid hs2
    have hne : (s1 == s2) = false := by rw [beq_eq_false_iff_ne]; exact ne
    clear hs1 hs2 hN
    go_enter Tryd.func4, Tryd.ntmps4
    go_wp2_with fail
    refine (awake_true _ hE).mono ?_
    rintro e w1 ⟨rfl, hb⟩
    go_wp2_with fail
    refine (refSize_full _ _ (by omega) (by omega)).mono ?_
    rintro e wx ⟨rfl, rfl⟩
    rw [S1.out]
    go_wp2_with fail
    refine (refSize_full _ _ (by omega) (by omega)).mono ?_
    rintro e wx ⟨rfl, rfl⟩
    rw [S2.out]
    go_wp2_with fail
    refine (awake_true _ (hE.after hb)).mono ?_
    rintro e w2 ⟨rfl, hb2⟩
    go_wp2_with fail
    go_ret
    exact ⟨rfl, below_two hb hb2⟩
  obtain ⟨sn1, sn2⟩ := szF_small hN.1 hN.2
  obtain ⟨hN1, hN2⟩ := hN
  have SN1 := Lib.hid sn1
  have SN2 := Lib.hid sn2
  clear sn1 sn2
  by_cases hD : -1000000007 < den ∧ den < 1000000007
  case neg =>
    have ne := szF_big hD
    generalize hs1 : szF (den.tmod 1000000007) = s1 at *
    generalize hs2 : szF den = s2 at *
    have S1 := Lib.hid hs1
    have S2 := Lib.hid hs2
    have hne : (s1 == s2) = false := by rw [beq_eq_false_iff_ne]; exact ne
    clear hs1 hs2 hD
    go_enter Tryd.func4, Tryd.ntmps4
    go_wp2_with fail
    refine (awake_true _ hE).mono ?_
    rintro e w1 ⟨rfl, hb⟩
    go_wp2_with fail
    refine (refSize_full _ _ (by omega) (by omega)).mono ?_
    rintro e wx ⟨rfl, rfl⟩
    rw [SN2.out]
    go_wp2_with fail
    refine (refSize_full _ _ (by omega) (by omega)).mono ?_
    rintro e wx ⟨rfl, rfl⟩
    rw [SN1.out]
    go_wp2_with fail
    refine (refSize_full _ _ (by omega) (by omega)).mono ?_
    rintro e wx ⟨rfl, rfl⟩
    rw [S1.out]
    go_wp2_with fail
    refine (refSize_full _ _ (by omega) (by omega)).mono ?_
    rintro e wx ⟨rfl, rfl⟩
    rw [S2.out]
    go_wp2_with fail
    refine (awake_true _ (hE.after hb)).mono ?_
    rintro e w2 ⟨rfl, hb2⟩
    go_wp2_with fail
    go_ret
    exact ⟨rfl, below_two hb hb2⟩
  obtain ⟨sd1, sd2⟩ := szF_small hD.1 hD.2
  obtain ⟨hD1, hD2⟩ := hD
  have SD1 := Lib.hid sd1
  have SD2 := Lib.hid sd2
  clear sd1 sd2
  · go_enter Tryd.func4, Tryd.ntmps4
    go_wp2_with fail
    refine (awake_true _ hE).mono ?_
    rintro e w1 ⟨rfl, hb⟩
    go_wp2_with fail
    refine (refSize_full _ _ (by omega) (by omega)).mono ?_
    rintro e wx ⟨rfl, rfl⟩
    rw [SN2.out]
    go_wp2_with fail
    refine (refSize_full _ _ (by omega) (by omega)).mono ?_
    rintro e wx ⟨rfl, rfl⟩
    rw [SN1.out]
    go_wp2_with fail
    refine (refSize_full _ _ (by omega) (by omega)).mono ?_
    rintro e wx ⟨rfl, rfl⟩
    rw [SD2.out]
    go_wp2_with fail
    refine (refSize_full _ _ (by omega) (by omega)).mono ?_
    rintro e wx ⟨rfl, rfl⟩
    rw [SD1.out]
    go_wp2_with fail
    have MN := Lib.hid (modes_round (n := num) hN1 hN2 hD1 hD2 HD0.out)
    have MM := Lib.hid (modes_round (n := -num) (by omega) (by omega) hD1 hD2 HD0.out)
    have hbz : Below w.heap.size w ((w1.alloc (Obj.cells #[Value.int IntKind.i64 0, Value.int IntKind.i64 0, Value.int IntKind.i64 0, Value.int IntKind.i64 0, Value.int IntKind.i64 0, Value.int IntKind.i64 0] 28)).alloc (Obj.cells #[Value.int IntKind.i64 0, Value.int IntKind.i64 0, Value.int IntKind.i64 0, Value.int IntKind.i64 0, Value.int IntKind.i64 0, Value.int IntKind.i64 0] 28)) := (hb.alloc hb.size _).alloc (by have := hb.size; simp; omega) _
    have hBu : Blk ((w1.alloc (Obj.cells #[Value.int IntKind.i64 0, Value.int IntKind.i64 0, Value.int IntKind.i64 0, Value.int IntKind.i64 0, Value.int IntKind.i64 0, Value.int IntKind.i64 0] 28)).alloc (Obj.cells #[Value.int IntKind.i64 0, Value.int IntKind.i64 0, Value.int IntKind.i64 0, Value.int IntKind.i64 0, Value.int IntKind.i64 0, Value.int IntKind.i64 0] 28)) w1.heap.size 28 (arr6 (fu num den) 0) := (Blk.new w1 _ _).alloc _
    have hBd : Blk ((w1.alloc (Obj.cells #[Value.int IntKind.i64 0, Value.int IntKind.i64 0, Value.int IntKind.i64 0, Value.int IntKind.i64 0, Value.int IntKind.i64 0, Value.int IntKind.i64 0] 28)).alloc (Obj.cells #[Value.int IntKind.i64 0, Value.int IntKind.i64 0, Value.int IntKind.i64 0, Value.int IntKind.i64 0, Value.int IntKind.i64 0, Value.int IntKind.i64 0] 28)) (w1.heap.size + 1) 28 (arr6 (fu (-num) den) 0) := by
      have := Blk.new (w1.alloc (Obj.cells #[Value.int IntKind.i64 0, Value.int IntKind.i64 0, Value.int IntKind.i64 0, Value.int IntKind.i64 0, Value.int IntKind.i64 0, Value.int IntKind.i64 0] 28)) 28 (arr6 (fu (-num) den) 0)
      rwa [World.size_alloc] at this
    generalize ((w1.alloc (Obj.cells #[Value.int IntKind.i64 0, Value.int IntKind.i64 0, Value.int IntKind.i64 0, Value.int IntKind.i64 0, Value.int IntKind.i64 0, Value.int IntKind.i64 0] 28)).alloc (Obj.cells #[Value.int IntKind.i64 0, Value.int IntKind.i64 0, Value.int IntKind.i64 0, Value.int IntKind.i64 0, Value.int IntKind.i64 0, Value.int IntKind.i64 0] 28)) = wz at *
    have hUb : w.heap.size ≤ w1.heap.size := hb.size
    generalize w1.heap.size = U at *
    have HZ := Lib.hid (And.intro hbz (And.intro hBu hBd))
    clear hbz hBu hBd hb
    go_loopw [7] (fun i wr => ∃ k : Nat, k ≤ 6 ∧ i = .int .i64 k ∧ Below w.heap.size w wr ∧ Blk wr U 28 (arr6 (fu num den) k) ∧ Blk wr (U + 1) 28 (arr6 (fu (-num) den) k)) (fun i _ => (6 - intOf i).toNat)
    case atStart => exact ⟨0, by omega, rfl, HZ.out⟩
    case round =>
      obtain ⟨k, hk, rfl, hbr, hBu, hBd⟩ := hrel
      obtain ⟨wo, rfl⟩ : ∃ wo : World, wo = wr := ⟨_, rfl⟩
      have BU := Lib.hid hBu
      have BD := Lib.hid hBd
      clear hBu hBd
      by_cases hlt : k < 6
      · obtain ⟨e1, e2⟩ := MN.out k hlt
        obtain ⟨e3, e4⟩ := MM.out k hlt
        have E1 := Lib.hid e1
        have E2 := Lib.hid e2
        have E3 := Lib.hid e3
        have E4 := Lib.hid e4
        clear e1 e2 e3 e4
        go_wp2_with fail
        refine (Round_any _ _ _ _).mono ?_
        rintro e w2 ⟨rfl, hb2⟩
        rw [E1.out, E2.out]
        go_wp2_with fail
        refine (Round_any _ _ _ _).mono ?_
        rintro e w3 ⟨rfl, hb3⟩
        rw [E3.out, E4.out]
        have BU3 := (BU.out.below hb2 BU.out.lt).below hb3 (BU.out.below hb2 BU.out.lt).lt
        have BD3 := (BD.out.below hb2 BD.out.lt).below hb3 (BD.out.below hb2 BD.out.lt).lt
        have cU := (BU3.cell k).trans (arr6_free _ hlt)
        have cD := (BD3.cell k).trans (arr6_free _ hlt)
        have fU := BU3.frozen k
        have fD := BD3.frozen k
        have HB3 := Lib.hid (And.intro BU3 BD3)
        clear BU3 BD3
        go_wp2_with fail
        refine ⟨⟨k + 1, by omega, by go_num, (((below_two hbr hb2).trans (hb3.mono (below_two hbr hb2).size)).setCell (p := ⟨U, k, none⟩) hUb _).setCell (p := ⟨U + 1, k, none⟩) (show w.heap.size ≤ U + 1 by omega) _, ?_, ?_⟩, by simp [intOf]; omega⟩
        · rw [← arr6_set _ hlt]
          exact (HB3.out.1.set_ k _).far (show U ≠ U + 1 by omega) _
        · rw [← arr6_set _ hlt]
          exact (HB3.out.2.far (show U + 1 ≠ U by omega) _).set_ k _
      · obtain rfl : k = 6 := by omega
        clear hlt
        obtain ⟨⟨a1, a2⟩, a3, a4, a5, ⟨a6, a7⟩, a8, a9, a10⟩ := modes_facts hN1 hN2 hD1 hD2 HD0.out
        have cu := Lib.hid (fun (i : Nat) (hi : i < 6) => (BU.out.cell i).trans (arr6_full (fu num den) hi))
        have cd := Lib.hid (fun (i : Nat) (hi : i < 6) => (BD.out.cell i).trans (arr6_full (fu (-num) den) hi))
        clear BU BD MN MM HZ
        generalize fu num den = f at *
        generalize fu (-num) den = g at *
        have A4 := Lib.hid a4
        have A5 := Lib.hid a5
        have A6 := Lib.hid a6
        have A7 := Lib.hid a7
        have A8 := Lib.hid a8
        have A9 := Lib.hid a9
        have A10 := Lib.hid a10
        obtain ⟨l1, l2⟩ := a10 4 (by omega)
        obtain ⟨l3, l4⟩ := a10 5 (by omega)
        obtain ⟨n1, n2⟩ := absI_bd (n := den) (A := 1000000007) ⟨by omega, by omega⟩
        have c4 := cu.out 4 (by omega)
        have c5 := cu.out 5 (by omega)
        have k4 := cd.out 4 (by omega)
        have k5 := cd.out 5 (by omega)
        rw [a6] at k4
        rw [a7] at k5
        have hhl : ((f 5 == f 4) = true ∧ (num.tmod den == 0) = true) ∨ ((f 5 == f 4) = false ∧ (num.tmod den == 0) = false) := by
          by_cases hx : num.tmod den = 0
          · exact .inl ⟨by rw [beq_iff_eq]; exact a3.2 hx, by rw [beq_iff_eq]; exact hx⟩
          · exact .inr ⟨by rw [beq_eq_false_iff_ne]; exact fun h => hx (a3.1 h), by rw [beq_eq_false_iff_ne]; exact hx⟩
        clear a3 a4 a5 a6 a7 a8 a9 a10
        rcases hhl with ⟨x1, x2⟩ | ⟨x1, x2⟩
        all_goals
          go_wp2_with fail
          go_quiet (fail)
          go_wp2_with fail
          go_loopw [14] (fun i wr => ∃ k : Nat, k ≤ 6 ∧ i = .int .i64 k ∧ Below w.heap.size w wr ∧ (∀ i, i < 6 → wr.cell? ⟨U, i, none⟩ = some (.int .i64 (f i))) ∧ (∀ i, i < 6 → wr.cell? ⟨U + 1, i, none⟩ = some (.int .i64 (g i)))) (fun i _ => (6 - intOf i).toNat)
          case atStart => exact ⟨0, by omega, rfl, by repeat (first | exact hbr | apply below_drewN), fun i hi => cu.out i hi, fun i hi => cd.out i hi⟩
          case round =>
            clear c4 c5 k4 k5 cu cd hbr hk
            obtain ⟨k, hk, rfl, hbr, hcu, hcd⟩ := hrel
            obtain ⟨wp, rfl⟩ : ∃ wp : World, wp = wr := ⟨_, rfl⟩
            have cu := Lib.hid hcu
            have cd := Lib.hid hcd
            clear hcu hcd
            by_cases hlt : k < 6
            · have c1 := cu.out k hlt
              have c2 := cd.out k hlt
              by_cases h4 : f k = f 4
              · rw [h4] at c1
                by_cases h3 : k ≤ 3
                · rw [A5.out k h3, h4] at c2
                  have h3d : decide ((k : Int) ≤ 3) = true := by rw [decide_eq_true_eq]; omega
                  clear h4
                  go_wp2_with fail
                  go_quiet (fail)
                  go_wp2_with fail
                  exact ⟨⟨k + 1, by omega, by go_num, by repeat (first | exact hbr | apply below_drewN), fun i hi => cu.out i hi, fun i hi => cd.out i hi⟩, by simp [intOf]; omega⟩
                · have h3d : decide ((k : Int) ≤ 3) = false := by rw [decide_eq_false_iff_not]; omega
                  clear h4
                  go_wp2_with fail
                  go_quiet (fail)
                  go_wp2_with fail
                  exact ⟨⟨k + 1, by omega, by go_num, by repeat (first | exact hbr | apply below_drewN), fun i hi => cu.out i hi, fun i hi => cd.out i hi⟩, by simp [intOf]; omega⟩
              · have h5 : f k = f 5 := by
                  rcases A4.out k hlt with h | h
                  · exact absurd h h4
                  · exact h
                have hne' : ¬ f 5 = f 4 := fun h => h4 (h5.trans h)
                have hne : (f 5 == f 4) = false := by rw [beq_eq_false_iff_ne]; exact hne'
                rw [h5] at c1
                clear x1
                by_cases h3 : k ≤ 3
                · rw [A5.out k h3, h5] at c2
                  have h3d : decide ((k : Int) ≤ 3) = true := by rw [decide_eq_true_eq]; omega
                  clear h4 h5
                  have qw : (-f 5 != IntKind.i64.wrap (-f 5)) = false := by rw [IntWalk.i64_in _ (by omega)]; simp
                  go_wp2_with fail
                  go_quiet (fail)
                  clear hne hne' c1 h3d
                  (try rw [qw])
                  clear qw
                  go_wp2_with fail
                  exact ⟨⟨k + 1, by omega, by go_num, by repeat (first | exact hbr | apply below_drewN), fun i hi => cu.out i hi, fun i hi => cd.out i hi⟩, by simp [intOf]; omega⟩
                · have h3d : decide ((k : Int) ≤ 3) = false := by rw [decide_eq_false_iff_not]; omega
                  have hq1 : (f 5 != f 4) = true := by rw [bne, hne]; rfl
                  have hq2 : (f 5 != f 5) = false := by simp
                  clear h4 h5 c2 hne' hne
                  go_wp2_with fail
                  go_quiet (fail)
                  clear hq1 hq2 c1 h3d
                  go_wp2_with fail
                  exact ⟨⟨k + 1, by omega, by go_num, by repeat (first | exact hbr | apply below_drewN), fun i hi => cu.out i hi, fun i hi => cd.out i hi⟩, by simp [intOf]; omega⟩
            · obtain rfl : k = 6 := by omega
              clear hlt hk
              rw [show ((6 : Nat) : Int) = 6 from rfl]
              go_wp2_with fail
              have hbp := Lib.hid hbr
              clear hbr
              go_loopw [15] (fun i wr => ∃ k : Nat, k ≤ 2 ∧ i = .int .i64 k ∧ Below w.heap.size w wr ∧ (∀ i, i < 6 → wr.cell? ⟨U, i, none⟩ = some (.int .i64 (f i))) ∧ (∀ i, i < 6 → wr.cell? ⟨U + 1, i, none⟩ = some (.int .i64 (g i)))) (fun i _ => (2 - intOf i).toNat)
              case atStart => exact ⟨0, by omega, rfl, by repeat (first | exact hbp.out | apply below_drewN), fun i hi => cu.out i hi, fun i hi => cd.out i hi⟩
              case round =>
                clear cu cd hbp
                obtain ⟨k, hk, rfl, hbr, hcu, hcd⟩ := hrel
                obtain ⟨wq, rfl⟩ : ∃ wq : World, wq = wr := ⟨_, rfl⟩
                have cu := Lib.hid hcu
                have cd := Lib.hid hcd
                clear hcu hcd
                by_cases hlt : k < 2
                · have c1 := cu.out k (by omega)
                  obtain ⟨y1, y2, y3⟩ := A8.out k hlt
                  obtain ⟨z1, z2⟩ := A10.out k (by omega)
                  obtain ⟨b1, b2⟩ := absI_bd (n := num - f k * den) (A := 10000000000) ⟨by omega, by omega⟩
                  have hgt : decide (absI den < 2 * absI (num - f k * den)) = false := by rw [decide_eq_false_iff_not]; omega
                  by_cases heq : 2 * absI (num - f k * den) = absI den
                  · have hq : (2 * absI (num - f k * den) == absI den) = true := by rw [beq_iff_eq]; exact heq
                    by_cases hk1 : k = 1
                    · have ht : (f k).tmod 2 = 0 := by subst hk1; exact A9.out heq
                      have hk1b : ((k : Int) == 1) = true := by rw [beq_iff_eq]; omega
                      have htb : ((f k).tmod 2 == 0) = true := by rw [beq_iff_eq]; exact ht
                      clear heq hk1 ht
                      go_wp2_with fail
                      refine (refSize_any _ _ (by omega) (by omega)).mono ?_
                      rintro e wx ⟨rfl, rfl⟩
                      go_wp2_with fail
                      refine (refSize_any _ _ (by omega) (by omega)).mono ?_
                      rintro e wx ⟨rfl, rfl⟩
                      go_wp2_with fail
                      refine (refSize_any _ _ (by omega) (by omega)).mono ?_
                      rintro e wx ⟨rfl, rfl⟩
                      go_wp2_with fail
                      go_round
                      case rel => exact ⟨k + 1, by omega, by go_num, by repeat (first | exact hbr | apply below_drewN), fun i hi => cu.out i hi, fun i hi => cd.out i hi⟩
                      case measure => simp [intOf]; omega
                    · have hk1b : ((k : Int) == 1) = false := by rw [beq_eq_false_iff_ne]; omega
                      clear heq hk1
                      go_wp2_with fail
                      refine (refSize_any _ _ (by omega) (by omega)).mono ?_
                      rintro e wx ⟨rfl, rfl⟩
                      go_wp2_with fail
                      refine (refSize_any _ _ (by omega) (by omega)).mono ?_
                      rintro e wx ⟨rfl, rfl⟩
                      go_wp2_with fail
                      refine (refSize_any _ _ (by omega) (by omega)).mono ?_
                      rintro e wx ⟨rfl, rfl⟩
                      go_wp2_with fail
                      go_round
                      case rel => exact ⟨k + 1, by omega, by go_num, by repeat (first | exact hbr | apply below_drewN), fun i hi => cu.out i hi, fun i hi => cd.out i hi⟩
                      case measure => simp [intOf]; omega
                  · have hq : (2 * absI (num - f k * den) == absI den) = false := by rw [beq_eq_false_iff_ne]; exact heq
                    clear heq
                    go_wp2_with fail
                    refine (refSize_any _ _ (by omega) (by omega)).mono ?_
                    rintro e wx ⟨rfl, rfl⟩
                    go_wp2_with fail
                    refine (refSize_any _ _ (by omega) (by omega)).mono ?_
                    rintro e wx ⟨rfl, rfl⟩
                    go_wp2_with fail
                    refine (refSize_any _ _ (by omega) (by omega)).mono ?_
                    rintro e wx ⟨rfl, rfl⟩
                    go_wp2_with fail
                    go_round
                    case rel => exact ⟨k + 1, by omega, by go_num, by repeat (first | exact hbr | apply below_drewN), fun i hi => cu.out i hi, fun i hi => cd.out i hi⟩
                    case measure => simp [intOf]; omega
                · obtain rfl : k = 2 := by omega
                  have k4 := cd.out 4 (by omega)
                  have k5 := cd.out 5 (by omega)
                  rw [A6.out] at k4
                  rw [A7.out] at k5
                  clear hlt hk
                  go_wp2_with fail
                  (try go_quiet (fail))
                  (try go_wp2_with fail)
                  go_ret
                  exact ⟨ret_bool (by simp), by repeat (first | exact hbr | apply below_drewN)⟩
end Go.Proofs.YtklpeibmjiolhaaDoor
