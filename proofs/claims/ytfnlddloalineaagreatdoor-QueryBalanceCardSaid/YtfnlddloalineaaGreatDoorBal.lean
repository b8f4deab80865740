/-
  The law QueryBalance.
-/
import Derived.Test.YtfnlddloalineaaGreatDoorTot2
import Derived.Test.YtfnlddloalineaaGreatDoorMemQ
namespace Go.Proofs.YtfnlddloalineaaGreatDoor
open Go.RowKit
set_option linter.unusedVariables false
set_option linter.unusedSimpArgs false
set_option maxRecDepth 100000
/-- a result in its box -/
structure ResS (w : World) (per : Int) (vi vp vt : Value) (x : World) : Prop where
  below : Below w.heap.size w x
  r0 : x.cell? ⟨w.heap.size, 0, none⟩ = some (.int .i64 per)
  r1 : x.cell? ⟨w.heap.size, 1, none⟩ = some vi
  r2 : x.cell? ⟨w.heap.size, 2, none⟩ = some vp
  r3 : x.cell? ⟨w.heap.size, 3, none⟩ = some vt
theorem ResS.same {w x y : World} {per : Int} {vi vp vt : Value} (h : ResS w per vi vp vt x) (hb : Below x.heap.size x y) : ResS w per vi vp vt y := by
  have k : ∀ {a : Addr} {v : Value}, x.cell? a = some v → y.cell? a = some v := fun hc => (hb.cell (World.block_lt_of_cell? _ _ hc)).trans hc
  exact ⟨below_two h.below hb, k h.r0, k h.r1, k h.r2, k h.r3⟩
theorem ResS.lt {w x : World} {per : Int} {vi vp vt : Value} (h : ResS w per vi vp vt x) : w.heap.size < x.heap.size := World.block_lt_of_cell? _ _ h.r0
set_option maxHeartbeats 8000000 in
theorem lawBalance (per : Int) (its : List SItem) (pos : List SPost) (Ai Ap At : Option Addr) (ni ci np cp nt ct : Nat) (zs : List Int) (A : Option Addr) (n c : Nat) (w : World) (hE : Env w) (hEE : EnvE w) (hri : Reads w w.heap.size 7 Ai ni (its.flatMap itemC)) (hli : its.length = ni) (hmi : ni ≤ 9223372036854775807) (hrp : Reads w w.heap.size 5 Ap np (pos.flatMap postC)) (hlp : pos.length = np) (hmp : np ≤ 9223372036854775807) (hpq : ∀ x ∈ pos, PostIn w w.heap.size x) (hoi : ∀ x ∈ its, okItem x) (hop : ∀ x ∈ pos, okPost x)
    (hr : Reads w w.heap.size 1 A n (zs.map (Value.int .u8))) (hz : ∀ z ∈ zs, 0 ≤ z ∧ z ≤ 255) (hn63 : n ≤ 9223372036854775807) :
    Calls Tryz.prog 10 #[.agg #[.int .i64 per, .slice Ai ni ci, .slice Ap np cp, .slice At nt ct], .slice A n c] w fun e w' => e = .returned (.bool true) ∧ Below w.heap.size w w' := by
  have HEB : Hid (∀ w_, Below w.heap.size w w_ → Env w_) := fun w_ h => hE.after h
  have HEEB : Hid (∀ w_, Below w.heap.size w w_ → EnvE w_) := fun w_ h => hEE.below h hE.size
  have HRI : Hid (∀ x, Below w.heap.size w x → Reads x w.heap.size 7 Ai ni (its.flatMap itemC)) := fun x h => hri.below h
  have HRP : Hid (∀ x, Below w.heap.size w x → Reads x w.heap.size 5 Ap np (pos.flatMap postC)) := fun x h => hrp.below h
  have HPI : Hid (∀ x, Below w.heap.size w x → ∀ p, p ∈ pos → PostIn x w.heap.size p) := fun x h p hp => ⟨(hpq p hp).1.below h, (hpq p hp).2⟩
  have HFW : Hid (∀ x, Below w.heap.size w x → Calls Tryz.prog 16 #[.agg #[.int .i64 per, .slice Ai ni ci, .slice Ap np cp, .slice At nt ct], .agg #[.int .i64 0, .slice none 0 0, .slice none 0 0]] x fun e w' => FewSays its pos 0 0 e ∧ Below x.heap.size x w') := fun x h => few_any per 0 its pos Ai Ap At none none ni ci np cp nt ct 0 0 0 0 w.heap.size x (HRI.out x h) (HRP.out x h) (HPI.out x h) h.size hli hlp hmi hmp
  have HLI := Lib.hid hli
  have HLP := Lib.hid hlp
  have HFK : Hid (FewR its pos 0 0 → ∀ f, f ∈ factsL its pos → okFct f) := fun h => facts_ok hoi hop h
  have HFA : Hid (FewR its pos 0 0 → ∀ x, Below w.heap.size w x → Calls Tryz.prog 23 #[.agg #[.int .i64 per, .slice Ai ni ci, .slice Ap np cp, .slice At nt ct]] x fun e w' => ∃ A c, e = .returned (.slice A (factsL its pos).length c) ∧ w'.ownsRow x.heap.size 55 6 (.slice A (factsL its pos).length c) (factsL its pos).length (fctsC (factsL its pos)) ∧ Below x.heap.size x w') := fun hf x h =>
    rfacts_any per its pos Ai Ap At ni ci np cp nt ct w.heap.size x (HRI.out x h) (HRP.out x h) (HPI.out x h) h.size HLI.out HLP.out (by have := hf.li; have := HLI.out; omega) (by have := hf.lp; have := HLP.out; omega) hf.lq
  have HTOT : Hid (FewR its pos 0 0 → ∀ (bl : List Int) (Ab : Option Addr) (nb cb : Nat) (okb : Bool) (y : World), Below w.heap.size w y → RdBy y y.heap.size Ab bl → bl.length = nb → nb ≤ cb → nb ≤ 10000 → (okb = true ↔ OkQ ⟨0, bl, []⟩) → Calls Tryz.prog 31 #[.agg #[.int .i64 per, .slice Ai ni ci, .slice Ap np cp, .slice At nt ct], .agg #[.int .i64 0, .slice Ab nb cb, .slice none 0 0]] y fun e w' => e = .returned (.tuple #[.int .i64 (totV okb nb (sumsQ ⟨0, bl, []⟩ (factsL its pos))), .bool (okV okb nb (sumsQ ⟨0, bl, []⟩ (factsL its pos)))]) ∧ Below y.heap.size y w') := fun hf bl Ab nb cb okb y h hb hnb hcb hn1 hok =>
    total_any per its pos Ai Ap At ni ci np cp nt ct ⟨0, bl, []⟩ Ab none nb cb 0 0 0 0 y.heap.size okb y (Nat.le_refl _) ((HRI.out y h).more h.size) HLI.out ((HRP.out y h).more h.size) HLP.out (fun p hp => ⟨(HPI.out y h p hp).1.more h.size, (HPI.out y h p hp).2⟩) hf (HFK.out hf) hb hnb hcb (reads_nil _ _ _ _ rfl) hn1 (by omega) hok
  have HR := Lib.hid hr
  have HZ := Lib.hid hz
  have hzl : zs.length = n := by have h := hr.1; rw [List.length_map] at h; omega
  have HZL := Lib.hid hzl
  have h1 := (Below.refl w.heap.size w).alloc (Nat.le_refl _) (.cells (#[.int .i64 per, .slice Ai ni ci, .slice Ap np cp, .slice At nt ct] : Array Value) 43)
  have k1 := Blk.new w 43 #[.int .i64 per, .slice Ai ni ci, .slice Ap np cp, .slice At nt ct]
  obtain ⟨wy, hwy⟩ : ∃ wy, w.alloc (.cells (#[.int .i64 per, .slice Ai ni ci, .slice Ap np cp, .slice At nt ct] : Array Value) 43) = wy := ⟨_, rfl⟩
  rw [hwy] at h1 k1
  have HS0 : Hid (ResS w per (.slice Ai ni ci) (.slice Ap np cp) (.slice At nt ct) wy) := ⟨h1, k1.cell 0, k1.cell 1, k1.cell 2, k1.cell 3⟩
  have hfl : FewR its pos 0 0 → (factsL its pos).length ≤ 900 := fun hf => by have := facts_len hf.li hf.lp hf.lq; omega
  have HFL := Lib.hid hfl
  clear hE hEE hri hrp hpq hoi hop hli hlp hr hz hzl hfl h1 k1 HRI HRP HPI HLI HLP
  generalize factsL its pos = F at *
  have r0 := HS0.out.r0
  have r1 := HS0.out.r1
  have r2 := HS0.out.r2
  have r3 := HS0.out.r3
  have l1 := HS0.out.lt
  obtain ⟨j0, hj00, hy0, hy1, hy2⟩ := info_parts info_int5
  go_enter Tryz.func10, Tryz.ntmps10
  go_wp2_with fail
  refine (awake_true _ (HEB.out _ HS0.out.below) (HEEB.out _ HS0.out.below)).mono ?_
  rintro e w1 ⟨rfl, hb⟩
  have HS := Lib.hid (HS0.out.same hb)
  clear hb HS0 r0 r1 r2 r3 l1 hwy
  have r0 := HS.out.r0
  have r1 := HS.out.r1
  have r2 := HS.out.r2
  have r3 := HS.out.r3
  have l1 := HS.out.lt
  by_cases hn5 : n ≤ 5
  · have k5 : decide ((5 : Int) < (n : Int)) = false := by rw [decide_eq_false_iff_not]; omega
    go_wp2_with fail
    refine (HFW.out _ HS.out.below).mono ?_
    rintro e w2 ⟨⟨fb, rfl, hfr⟩, hb⟩
    have HS2 := Lib.hid (HS.out.same hb)
    clear hb HS r0 r1 r2 r3 l1
    have r0 := HS2.out.r0
    have r1 := HS2.out.r1
    have r2 := HS2.out.r2
    have r3 := HS2.out.r3
    have l1 := HS2.out.lt
    cases fb with
    | false =>
      go_wp2_with fail
      refine (awake_true _ (HEB.out _ HS2.out.below) (HEEB.out _ HS2.out.below)).mono ?_
      rintro e w3 ⟨rfl, hb⟩
      have HSF := Lib.hid (HS2.out.same hb).below
      clear hb
      go_wp2_with fail
      go_ret
      exact ⟨rfl, HSF.out⟩
    | true =>
      have HFR := Lib.hid (hfr rfl)
      have hm900 := HFL.out HFR.out
      have HOK := Lib.hid (HFK.out HFR.out)
      have HFA2 := Lib.hid (HFA.out HFR.out)
      have HTOT2 := Lib.hid (HTOT.out HFR.out)
      clear hfr HFL HFK HFA HTOT HFW
      obtain ⟨m, hm⟩ : ∃ m, F.length = m := ⟨_, rfl⟩
      rw [hm] at HFA2 hm900
      have HM := Lib.hid hm
      clear hm
      go_wp2_with fail
      refine (HFA2.out _ HS2.out.below).mono ?_
      rintro e w3 ⟨AF, cF, rfl, ho, hb⟩
      have HRF := Lib.hid (Reads.of_own ho)
      have HS3 := Lib.hid (HS2.out.same hb)
      clear ho hb HS2 r0 r1 r2 r3 l1
      go_wp2_with fail
      go_loopw [5, 30] (fun s i y => ∃ k : Nat, k ≤ m ∧ i = .int .i64 (k : Int) ∧ s = .int .i64 (sumA (F.take k)) ∧ Below w3.heap.size w3 y) (fun _ i _ => m - (intOf i).toNat)
      case atStart => exact ⟨0, Nat.zero_le _, rfl, rfl, Below.refl _ _⟩
      case round =>
        obtain ⟨k, hk, rfl, rfl, hb⟩ := hrel
        have HB := Lib.hid hb
        by_cases hlk : k < m
        · have k3 : decide ((k : Int) < (m : Int)) = true := by rw [decide_eq_true_eq]; omega
          obtain ⟨ad, rfl, had, hkl, a0, aj⟩ := (HRF.out.below hb).row_at fctC (fun _ => rfl) (by decide) hlk
          have hmem : F.getD k default ∈ F := by
            have e : F.getD k default = F[k] := by simp [List.getD, hkl]
            rw [e]; exact List.getElem_mem hkl
          have hsm := (HOK.out _ hmem).2.2.2.2.2
          have hss := sumA_small HOK.out k (by have := HM.out; omega)
          have HTK := Lib.hid (sumA_take hkl)
          have a1 := aj 1 (by decide) (by decide)
          have a2 := aj 2 (by decide) (by decide)
          have a3 := aj 3 (by decide) (by decide)
          have a4 := aj 4 (by decide) (by decide)
          have a5 := aj 5 (by decide) (by decide)
          clear aj hmem hb
          generalize F.getD k default = ft at *
          obtain ⟨acc, ent, par, kind, dat, amt⟩ := ft
          replace a0 : wr.cell? (ad.add (k * 6)) = some (.int .i64 acc) := a0
          replace a1 : wr.cell? ⟨(ad.add (k * 6)).block, (ad.add (k * 6)).off + 1, none⟩ = some (.int .i64 ent) := a1
          replace a2 : wr.cell? ⟨(ad.add (k * 6)).block, (ad.add (k * 6)).off + 2, none⟩ = some (.int .i64 par) := a2
          replace a3 : wr.cell? ⟨(ad.add (k * 6)).block, (ad.add (k * 6)).off + 3, none⟩ = some (.int .i64 kind) := a3
          replace a4 : wr.cell? ⟨(ad.add (k * 6)).block, (ad.add (k * 6)).off + 4, none⟩ = some (.int .i64 dat) := a4
          replace a5 : wr.cell? ⟨(ad.add (k * 6)).block, (ad.add (k * 6)).off + 5, none⟩ = some (.int .i64 amt) := a5
          unfold smallA at hsm
          simp only [] at hsm
          generalize sumA (F.take k) = s at *
          have hwr : IntKind.i64.wrap (s + amt) = s + amt := Go.IntWalk.i64_in _ ⟨by omega, by omega⟩
          have HBN := Lib.hid (HB.out.alloc HB.out.size (.cells #[.int .i64 acc, .int .i64 ent, .int .i64 par, .int .i64 kind, .int .i64 dat, .int .i64 amt] 55))
          clear hss
          go_wp2_with fail
          go_roundw
          case rel => exact ⟨k + 1, by omega, by go_num, by rw [HTK.out], HBN.out⟩
          case measure => simp [intOf]; omega
        · have k3 : decide ((k : Int) < (m : Int)) = false := by rw [decide_eq_false_iff_not]; omega
          obtain rfl : k = m := by omega
          have hall : sumA (F.take k) = sumA F := by rw [List.take_of_length_le (by rw [HM.out]; exact Nat.le_refl _)]
          rw [hall]
          have HS4 := Lib.hid (HS3.out.same hb)
          clear hall hb HB HRF HS3
          have HZR : Hid (∀ y, Below w.heap.size w y → Reads y w.heap.size 1 A n (zs.map (Value.int .u8))) := fun y h => HR.out.below h
          clear HR
          obtain ⟨x4, hx4⟩ : ∃ x4, x4 = wr := ⟨_, rfl⟩
          rw [← hx4] at HS4 ⊢
          clear hx4
          have r0 := HS4.out.r0
          have r1 := HS4.out.r1
          have r2 := HS4.out.r2
          have r3 := HS4.out.r3
          have l1 := HS4.out.lt
          obtain ⟨X, hX⟩ : ∃ X, x4.heap.size = X := ⟨_, rfl⟩
          have HQB := Lib.hid (Blk.new x4 32 #[.int .i64 0, .slice none 0 0, .slice none 0 0])
          have HBQ := Lib.hid ((Below.refl x4.heap.size x4).alloc (Nat.le_refl _) (.cells #[.int .i64 0, .slice none 0 0, .slice none 0 0] 32))
          obtain ⟨wq, hwq⟩ : ∃ wq, x4.alloc (.cells #[.int .i64 0, .slice none 0 0, .slice none 0 0] 32) = wq := ⟨_, rfl⟩
          rw [hwq] at HQB HBQ
          rw [hX] at HQB HBQ
          have hXs : X < wq.heap.size := HQB.out.lt
          go_wp2_with fail
          go_loopw [41] (fun i y => ∃ (j : Nat) (bv : Value), j ≤ n ∧ i = .int .i64 (j : Int) ∧ Blk y X 32 #[.int .i64 0, bv, .slice none 0 0] ∧ y.ownsRow X 3 1 bv j (((zs.take j).map (fun z => z % 5)).map intV) ∧ Below X x4 y) (fun i _ => n - (intOf i).toNat)
          case atStart => exact ⟨0, _, Nat.zero_le _, rfl, HQB.out, World.ownsRow_nil _ _ _ _, HBQ.out⟩
          case round =>
            obtain ⟨j, bv, hj, rfl, hqk, hrow, hbj⟩ := hrel
            have HQK := Lib.hid hqk
            have HROW := Lib.hid hrow
            have HBJ := Lib.hid hbj
            have HBW : Hid (Below w.heap.size w wr) := by rw [← hX] at hbj; exact below_two HS4.out.below hbj
            clear hqk hrow hbj
            have q0 := HQK.out.cell 0
            have q1 := HQK.out.cell 1
            have q2 := HQK.out.cell 2
            simp only [List.getElem?_toArray, List.getElem?_cons_zero, List.getElem?_cons_succ] at q0 q1 q2
            have l2 : X < wr.heap.size := HQK.out.lt
            by_cases hlj : j < n
            · have k4 : decide ((j : Int) < (n : Int)) = true := by rw [decide_eq_true_eq]; omega
              have hjz : j < zs.length := by rw [HZL.out]; exact hlj
              obtain ⟨ab, rfl, hab, hcb⟩ := (HZR.out wr HBW.out).2 (by omega)
              have hcz := hcb j (.int .u8 (zs.getD j 0)) (by rw [List.getElem?_map, List.getElem?_eq_getElem hjz]; simp [List.getD, hjz])
              have hzb := HZ.out (zs.getD j 0) (by
                have e : zs.getD j 0 = zs[j] := by simp [List.getD, hjz]
                rw [e]; exact List.getElem_mem hjz)
              have htk : ((zs.take (j + 1)).map (fun z => z % 5)).map intV = ((zs.take j).map (fun z => z % 5)).map intV ++ [.int .i64 (zs.getD j 0 % 5)] := by
                rw [List.take_succ_eq_append_getElem hjz, List.map_append, List.map_append]
                simp [List.getD, hjz, intV]
              have HTK := Lib.hid htk
              clear hcb htk
              generalize zs.getD j 0 = z at *
              obtain ⟨z0, z255⟩ := hzb
              go_wp2_with (at_builtin; refine wpList_append_any _ rfl (.tmp 46) (.tmp 50) _ rfl X 3 j0 _ 1 8 Tryz.underlying23 hj00 hy0 hy1 hy2 rfl (by omega) _ j (((zs.take j).map (fun z => z % 5)).map intV) rfl (HROW.out.alloc _) (wr.heap.size + 1) (some ⟨wr.heap.size, 0, none⟩) 1 1 [.int .i64 (z % 5)] rfl (reads_one wr #[.int .i64 (z % 5)] 3 1 rfl) (by simp [Value.oneCell']) (by simp only [maxLen]; omega) (by omega) (by simp only [World.size_alloc]; omega) ?_; intro v6 w6 hown6 hg6 hat6; obtain ⟨A6, c6, rfl⟩ := own_slice hown6; have hqb6 := (HQK.out.alloc (.cells #[.int .i64 (z % 5)] 3)).grown hg6 (fun e => own_blk_ne HROW.out HQK.out (by decide) e.symm); have s1 := hqb6.cell 1; have sf := hqb6.frozen 1; simp only [List.getElem?_toArray, List.getElem?_cons_zero, List.getElem?_cons_succ] at s1; have HF6 := Lib.hid (And.intro hown6 (And.intro hg6 hqb6)); clear hown6 hg6 hqb6 hat6)
              obtain ⟨hown6, hg6, hqb6⟩ := HF6.out
              have hb6 : Below X x4 w6 := (HBJ.out.alloc (by omega) (.cells #[.int .i64 (z % 5)] 3)).grown hg6 (by simp only [World.size_alloc]; omega) (fun r e => own_base HROW.out r e)
              have HFIN : Hid (Blk (w6.setCell ⟨X, 1, none⟩ (.slice A6 (j + 1) c6)) X 32 #[.int .i64 0, .slice A6 (j + 1) c6, .slice none 0 0] ∧ (w6.setCell ⟨X, 1, none⟩ (.slice A6 (j + 1) c6)).ownsRow X 3 1 (.slice A6 (j + 1) c6) (j + 1) (((zs.take (j + 1)).map (fun z => z % 5)).map intV) ∧ Below X x4 (w6.setCell ⟨X, 1, none⟩ (.slice A6 (j + 1) c6))) :=
                ⟨hqb6.set_ 1 _, by rw [HTK.out]; exact ownsRow_setCell_other hown6 (a := ⟨X, 1, none⟩) (own_blk_ne hown6 hqb6 (by decide)) _, hb6.setCell (p := ⟨X, 1, none⟩) (Nat.le_refl _) _⟩
              clear hown6 hg6 hqb6 hb6 HF6
              go_wp2_with fail
              go_roundw
              case rel => exact ⟨j + 1, _, by omega, by go_num, HFIN.out.1, HFIN.out.2.1, HFIN.out.2.2⟩
              case measure => simp [intOf]; omega
            · have k4 : decide ((j : Int) < (n : Int)) = false := by rw [decide_eq_false_iff_not]; omega
              obtain rfl : j = n := by omega
              have hall : (zs.take j).map (fun z => z % 5) = zs.map (fun z => z % 5) := by rw [List.take_of_length_le (by rw [HZL.out]; exact Nat.le_refl _)]
              rw [hall] at HROW
              have hbl : (zs.map (fun z => z % 5)).length = j := by rw [List.length_map]; exact HZL.out
              have HBL := Lib.hid hbl
              obtain ⟨A6, c6, rfl⟩ := own_slice HROW.out
              have HS5 := Lib.hid (HS4.out.same (show Below x4.heap.size x4 wr by rw [hX]; exact HBJ.out))
              have hcap : j ≤ c6 := own_capQ HROW.out
              have hrd := rdby_own HROW.out hbl
              have HRD := Lib.hid hrd
              generalize zs.map (fun z => z % 5) = bl at *
              have HVV : Hid (Calls Tryz.prog 21 #[.agg #[.int .i64 0, .slice A6 j c6, .slice none 0 0]] wr fun e w' => (∃ b : Bool, e = .returned (.bool b) ∧ (b = true ↔ OkQ ⟨0, bl, []⟩)) ∧ Below wr.heap.size wr w') := rvalid_any ⟨0, bl, []⟩ A6 none j 0 c6 0 wr.heap.size wr hrd hbl.symm hcap (reads_nil _ _ _ _ rfl) (Nat.le_refl _) (by omega) (by omega)
              clear hall hrd hbl HROW HQK HBJ r0 r1 r2 r3 l1 HS4 HZR HZ HZL HQB HBQ
              have r0 := HS5.out.r0
              have r1 := HS5.out.r1
              have r2 := HS5.out.r2
              have r3 := HS5.out.r3
              have l1 := HS5.out.lt
              have HAM : Hid (sumA F = 0 → ∀ okb : Bool, okV okb j (sumsQ ⟨0, bl, []⟩ F) = true → totV okb j (sumsQ ⟨0, bl, []⟩ F) = 0) := fun h0 okb h => by
                have h1 := (tot_amt h).2
                rw [h1]
                show amtQ 0 (predQ []) F = 0
                rw [amt_all 0 rfl F, h0]
              have HTOT3 : Hid (∀ (okb : Bool) (y : World), Below w.heap.size w y → RdBy y y.heap.size A6 bl → (okb = true ↔ OkQ ⟨0, bl, []⟩) → Calls Tryz.prog 31 #[.agg #[.int .i64 per, .slice Ai ni ci, .slice Ap np cp, .slice At nt ct], .agg #[.int .i64 0, .slice A6 j c6, .slice none 0 0]] y fun e w' => e = .returned (.tuple #[.int .i64 (totV okb j (sumsQ ⟨0, bl, []⟩ F)), .bool (okV okb j (sumsQ ⟨0, bl, []⟩ F))]) ∧ Below y.heap.size y w') := fun okb y h hb hok => HTOT2.out bl A6 j c6 okb y h hb HBL.out hcap (by omega) hok
              clear HTOT2
              generalize sumA F = sA at *
              by_cases hs0 : sA = 0
              · subst hs0
                have HAM2 := Lib.hid (HAM.out rfl)
                clear HAM
                go_wp2_with fail
                refine HVV.out.mono ?_
                rintro e w7 ⟨⟨vb, rfl, hvb⟩, hb7⟩
                have HVB := Lib.hid hvb
                have HS7 := Lib.hid (HS5.out.same hb7)
                have HRD7 := Lib.hid (HRD.out.any (Nat.le_refl _) hb7)
                have m0 := (hb7.cell (p := ⟨X, 0, none⟩) l2).trans q0
                have m1 := (hb7.cell (p := ⟨X, 1, none⟩) l2).trans q1
                have m2 := (hb7.cell (p := ⟨X, 2, none⟩) l2).trans q2
                have l3 : X < w7.heap.size := World.block_lt_of_cell? _ _ m0
                clear hvb hb7 HVV HRD HS5 q0 q1 q2 l2 r0 r1 r2 r3 l1
                have r0 := HS7.out.r0
                have r1 := HS7.out.r1
                have r2 := HS7.out.r2
                have r3 := HS7.out.r3
                have l1 := HS7.out.lt
                cases vb with
                | false =>
                  go_wp2_with fail
                  go_ret
                  exact ⟨rfl, HS7.out.below⟩
                | true =>
                  go_wp2_with fail
                  refine (HTOT3.out true w7 HS7.out.below HRD7.out (by first | exact HVB.out | simpa using HVB.out)).mono ?_
                  rintro e w8 ⟨rfl, hb8⟩
                  have HS8 := Lib.hid (HS7.out.same hb8).below
                  have HAM3 := Lib.hid (HAM2.out true)
                  clear hb8 HTOT3 HAM2
                  generalize totV true j (sumsQ ⟨0, bl, []⟩ F) = tv at *
                  generalize okV true j (sumsQ ⟨0, bl, []⟩ F) = ov at *
                  cases ov with
                  | false =>
                    go_wp2_with fail
                    go_ret
                    exact ⟨rfl, HS8.out⟩
                  | true =>
                    obtain rfl : tv = 0 := HAM3.out (by first | exact rfl | trivial)
                    go_wp2_with fail
                    go_ret
                    exact ⟨rfl, HS8.out⟩
              · have k6 : (sA != 0) = true := by simp [hs0]
                go_wp2_with fail
                go_ret
                exact ⟨rfl, HS5.out.below⟩
  · have k5 : decide ((5 : Int) < (n : Int)) = true := by rw [decide_eq_true_eq]; omega
    go_wp2_with fail
    refine (awake_true _ (HEB.out _ HS.out.below) (HEEB.out _ HS.out.below)).mono ?_
    rintro e w3 ⟨rfl, hb⟩
    have HSF := Lib.hid (HS.out.same hb).below
    clear hb
    go_wp2_with fail
    go_ret
    exact ⟨rfl, HSF.out⟩
end Go.Proofs.YtfnlddloalineaaGreatDoor
