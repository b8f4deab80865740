/-
  The reference's Run. (regions 10 and 15 printed by wip/tools/gen_runi.py)
-/
import Derived.Test.YtfnlddloalineaaGreatDoorRunG
namespace Go.Proofs.YtfnlddloalineaaGreatDoor
open Go.RowKit
set_option linter.unusedVariables false
set_option linter.unusedSimpArgs false
set_option maxRecDepth 100000
theorem info_rrow2 : (Tryz.prog.info? 128).map (fun i => (i.zero, i.size, i.bytes)) = some (some (.agg #[.slice none 0 0, .int .i64 0]), 2, 32) := by kernel_rfl
set_option maxHeartbeats 8000000 in
theorem rrun_core (per verb : Int) (vi vp vt : Value) (byl : List Int) (Ab Aw : Option Addr) (nb cb nw cw : Nat) (F : List SFact) (okb : Bool) (pf : SFact → Bool) (w : World)
    (hV : ∀ x, Below w.heap.size w x → Calls Tryz.prog 21 #[.agg #[.int .i64 verb, .slice Ab nb cb, .slice Aw nw cw]] x fun e w' => e = .returned (.bool okb) ∧ Below x.heap.size x w')
    (hH : okb = true → ∀ f x, Below w.heap.size w x → Calls Tryz.prog 25 #[.agg #[.int .i64 verb, .slice Ab nb cb, .slice Aw nw cw], fctV f] x fun e w' => e = .returned (.bool (pf f)) ∧ Below x.heap.size x w')
    (hFa : okb = true → ∀ x, Below w.heap.size w x → Calls Tryz.prog 23 #[.agg #[.int .i64 per, vi, vp, vt]] x fun e w' => ∃ A c, e = .returned (.slice A F.length c) ∧ w'.ownsRow x.heap.size 55 6 (.slice A F.length c) F.length (fctsC F) ∧ Below x.heap.size x w')
    (hby : RdBy w w.heap.size Ab byl) (hnb : byl.length = nb) (hcb : nb ≤ cb) (hb5 : okb = true → nb ≤ 5 ∧ ∀ k, k < nb → 0 ≤ byl.getD k 0 ∧ byl.getD k 0 ≤ 4) (hF : ∀ f, f ∈ F → okFct f) (hFl : F.length ≤ 900) :
    Calls Tryz.prog 27 #[.agg #[.int .i64 per, vi, vp, vt], .agg #[.int .i64 verb, .slice Ab nb cb, .slice Aw nw cw]] w fun e w' => RunSays okb nb (sumsI verb byl pf F) e w' ∧ Below w.heap.size w w' := by
  have HV := Lib.hid hV
  have HH := Lib.hid hH
  have HFA := Lib.hid hFa
  have HBY := Lib.hid hby
  have HNB := Lib.hid hnb
  have HB5 := Lib.hid hb5
  have HF := Lib.hid hF
  have h1 := (Below.refl w.heap.size w).alloc (Nat.le_refl _) (.cells (#[.int .i64 per, vi, vp, vt] : Array Value) 43)
  have k1 := Blk.new w 43 #[.int .i64 per, vi, vp, vt]
  obtain ⟨wy, hwy⟩ : ∃ wy, w.alloc (.cells (#[.int .i64 per, vi, vp, vt] : Array Value) 43) = wy := ⟨_, rfl⟩
  rw [hwy] at h1 k1
  have h2 := h1.alloc h1.size (.cells (#[.int .i64 verb, .slice Ab nb cb, .slice Aw nw cw] : Array Value) 32)
  have k2 := Blk.new wy 32 #[.int .i64 verb, .slice Ab nb cb, .slice Aw nw cw]
  have k3 := k1.alloc (.cells (#[.int .i64 verb, .slice Ab nb cb, .slice Aw nw cw] : Array Value) 32)
  obtain ⟨wz, hwz⟩ : ∃ wz, wy.alloc (.cells (#[.int .i64 verb, .slice Ab nb cb, .slice Aw nw cw] : Array Value) 32) = wz := ⟨_, rfl⟩
  rw [hwz] at h2 k2 k3
  obtain ⟨X, hX⟩ : ∃ X, wy.heap.size = X := ⟨_, rfl⟩
  rw [hX] at k2
  have HS0 : Hid (QfS w X per vi vp vt verb (.slice Ab nb cb) (.slice Aw nw cw) wz) := ⟨h2, k3.cell 0, k3.cell 1, k3.cell 2, k3.cell 3, k2.cell 0, k2.cell 1, k2.cell 2⟩
  have HQB := Lib.hid k2
  clear hV hH hFa hby hnb hb5 hF h1 k1 h2 k2 k3
  have r0 := HS0.out.r0
  have r1 := HS0.out.r1
  have r2 := HS0.out.r2
  have r3 := HS0.out.r3
  have q0 := HS0.out.q0
  have q1 := HS0.out.q1
  have q2 := HS0.out.q2
  obtain ⟨l1, l2⟩ := HS0.out.lt
  generalize hl0 : sumsI verb byl pf F = LL
  have HLL := Lib.hid hl0
  clear hl0
  obtain ⟨i0, hi0, hz0, hz1, hz2⟩ := info_parts info_rrow2
  go_enter Tryz.func27, Tryz.ntmps27
  go_wp2_with fail
  refine (HV.out _ HS0.out.below).mono ?_
  rintro e w1 ⟨rfl, hb⟩
  have HS := Lib.hid (HS0.out.same hb)
  have HQ1 := Lib.hid (HQB.out.below hb HQB.out.lt)
  clear hb HS0 r0 r1 r2 r3 q0 q1 q2 l1 l2 hwz hwy HV HQB
  cases okb with
  | false =>
    go_wp2_with fail
    refine bodyPost_ret (v := .tuple #[.slice none 0 0, .int .i64 1]) ?_ rfl ?_
    · simp [results, Tryz.results27, go_sem]
    · exact ⟨.inl ⟨rfl, rfl⟩, HS.out.below⟩
  | true =>
    have q1 := HS.out.q1
    obtain ⟨l1, l2⟩ := HS.out.lt
    have HH2 := Lib.hid (HH.out rfl)
    have HFA2 := Lib.hid (HFA.out rfl)
    have HB52 := Lib.hid (HB5.out rfl)
    clear HH HFA HB5
    go_upto_if 19 with fail
    go_cut [6] from 19 to 21 (fun s6 wx => Below w1.heap.size w1 wx ∧ ∃ rs : List RRow, RelS nb rs (startR byl) ∧ wx.ownsRow w1.heap.size 128 2 s6 rs.length (rrowsC rs) ∧ ∀ r, r ∈ rs → r = ⟨none, 0, 0, [], 0⟩ ∧ nb = 0)
    case first =>
      by_cases h0 : nb = 0
      · subst h0
        have e0 : byl = [] := List.length_eq_zero_iff.1 HNB.out
        have hrn := row_new w1 128 w1.heap.size 2 #[.slice none 0 0, .int .i64 0] rfl (Nat.le_refl _)
        have hbn := (Below.refl w1.heap.size w1).alloc (Nat.le_refl _) (.cells #[.slice none 0 0, .int .i64 0] 128)
        have HF2 := Lib.hid (And.intro hrn hbn)
        have E0 := Lib.hid e0
        clear hrn hbn e0
        go_wp2_with fail
        go_meet
        refine ⟨HF2.out.2, [⟨none, 0, 0, [], 0⟩], ?_, HF2.out.1, fun r hr => ⟨List.mem_singleton.1 hr, by first | rfl | trivial⟩⟩
        rw [E0.out]
        exact start_rel (byl := [])
      · have e0 : ((nb : Int) == 0) = false := by simp; exact h0
        have E0 : Hid (byl ≠ []) := fun e => h0 (by rw [← HNB.out, e]; rfl)
        go_wp2_with fail
        go_meet
        refine ⟨Below.refl _ _, [], ?_, World.ownsRow_nil _ _ _ _, fun r hr => by cases hr⟩
        have h := start_rel (byl := byl)
        rw [if_neg E0.out] at h
        rw [← HNB.out]; exact h
    case rest =>
      obtain ⟨hbx, rs0, hrel0, hrow0, hrs0⟩ := hcut
      obtain ⟨b0, hb0⟩ : ∃ b0, w1.heap.size = b0 := ⟨_, rfl⟩
      have hwb : w.heap.size ≤ b0 := by omega
      have hbs : b0 ≤ wc.heap.size := by have := hbx.size; omega
      rw [hb0] at hrow0
      have HSc := Lib.hid (HS.out.same hbx)
      have HQc := Lib.hid (HQ1.out.below hbx HQ1.out.lt)
      have HR0 := Lib.hid (And.intro hrel0 (And.intro hrow0 hrs0))
      clear hbx hrel0 hrow0 hrs0 q1 l1 l2 HS HQ1 hb0
      have r0 := HSc.out.r0
      have r1 := HSc.out.r1
      have r2 := HSc.out.r2
      have r3 := HSc.out.r3
      obtain ⟨l1, l2⟩ := HSc.out.lt
      obtain ⟨n, hn⟩ : ∃ n, F.length = n := ⟨_, rfl⟩
      rw [hn] at HFA2 hFl
      have HFN := Lib.hid hn
      clear hn
      go_wp2_with fail
      refine (HFA2.out _ HSc.out.below).mono ?_
      rintro e w3 ⟨AF, cF, rfl, ho, hb⟩
      have HS3 : Hid (RfS w X b0 verb (.slice Ab nb cb) (.slice Aw nw cw) AF n cF F nb (startR byl) rs0 u6 w3) := by
        obtain ⟨h1, h2, h3⟩ := HR0.out
        refine ⟨below_two HSc.out.below hb, hwb, by have := hb.size; omega, HQc.out.below hb HQc.out.lt, own_low ho hbs, own_below h2 hb, h1, fun r hr => ?_⟩
        obtain ⟨e1, e2⟩ := h3 r hr
        subst e1
        exact ⟨e2.symm, e2.symm, World.ownsRow_nil _ _ _ _⟩
      clear ho hb HR0 HSc HQc r0 r1 r2 r3 l1 l2 HFA2 hbs
      go_wp2_with fail
      go_loopw [6, 8] (fun v i y => ∃ (k : Nat) (rs : List RRow), k ≤ n ∧ i = .int .i64 (k : Int) ∧ RfS w X b0 verb (.slice Ab nb cb) (.slice Aw nw cw) AF n cF F nb (sumsI verb byl pf (F.take k)) rs v y) (fun _ i _ => n - (intOf i).toNat)
      case atStart => exact ⟨0, rs0, Nat.zero_le _, rfl, HS3.out⟩
      case round =>
        obtain ⟨k, rs, hk, rfl, hs⟩ := hrel
        have HR := Lib.hid hs
        clear hs
        by_cases hlk : k < n
        · have k3 : decide ((k : Int) < (n : Int)) = true := by rw [decide_eq_true_eq]; omega
          obtain ⟨ad, rfl, had, hkl, a0, aj⟩ := (Reads.of_own HR.out.fct).row_at fctC (fun _ => rfl) (by decide) hlk
          have hmem : F.getD k default ∈ F := by
            have e : F.getD k default = F[k] := by simp [List.getD, hkl]
            rw [e]; exact List.getElem_mem hkl
          have HOKF := Lib.hid (HF.out _ hmem)
          have HST := Lib.hid (sumsI_step (verb := verb) (byl := byl) (p := pf) (F := F) hkl)
          have HSM := Lib.hid (fun (q : K5 × Int) (hq : q ∈ sumsI verb byl pf (F.take k)) => sumsI_small (verb := verb) (byl := byl) (p := pf) (F := F) (fun j hj => (HF.out _ (by
            have e : F.getD j default = F[j] := by simp [List.getD, hj]
            rw [e]; exact List.getElem_mem hj)).2.2.2.2.2) (by have := HFN.out; omega) hq)
          have HLE := Lib.hid (sumsI_len (verb := verb) (byl := byl) (p := pf) (F := F) k (by have := HFN.out; omega))
          have a1 := aj 1 (by decide) (by decide)
          have a2 := aj 2 (by decide) (by decide)
          have a3 := aj 3 (by decide) (by decide)
          have a4 := aj 4 (by decide) (by decide)
          have a5 := aj 5 (by decide) (by decide)
          have q0 := HR.out.qb.cell 0
          have q1 := HR.out.qb.cell 1
          have q2 := HR.out.qb.cell 2
          simp only [List.getElem?_toArray, List.getElem?_cons_zero, List.getElem?_cons_succ] at q0 q1 q2
          have hXl0 : X < wr.heap.size := HR.out.qb.lt
          clear aj hmem
          generalize hft : F.getD k default = ft at *
          clear hft
          have HH3 : Hid (∀ x, Below w.heap.size w x → Calls Tryz.prog 25 #[.agg #[.int .i64 verb, .slice Ab nb cb, .slice Aw nw cw], fctV ft] x fun e w' => e = .returned (.bool (pf ft)) ∧ Below x.heap.size x w') := fun x h => HH2.out ft x h
          have HFLD : Hid (∀ (x : Int) y, 0 ≤ x → x ≤ 4 → Calls Tryz.prog 59 #[fctV ft, .int .i64 x] y fun e w' => e = .returned (.int .i64 (fldF ft x)) ∧ Below y.heap.size y w') := fun x y h0 h4 => rfield_any ft x y h0 h4
          generalize hlk2 : sumsI verb byl pf (F.take k) = lk at *
          generalize hlk3 : sumsI verb byl pf (F.take (k + 1)) = lk1 at *
          have HLK3 := Lib.hid hlk3
          clear hlk2 hlk3
          generalize hpv : pf ft = pv at *
          clear hpv
          obtain ⟨acc, ent, par, kind, dat, amt⟩ := ft
          replace a0 : wr.cell? (ad.add (k * 6)) = some (.int .i64 acc) := a0
          replace a1 : wr.cell? ⟨(ad.add (k * 6)).block, (ad.add (k * 6)).off + 1, none⟩ = some (.int .i64 ent) := a1
          replace a2 : wr.cell? ⟨(ad.add (k * 6)).block, (ad.add (k * 6)).off + 2, none⟩ = some (.int .i64 par) := a2
          replace a3 : wr.cell? ⟨(ad.add (k * 6)).block, (ad.add (k * 6)).off + 3, none⟩ = some (.int .i64 kind) := a3
          replace a4 : wr.cell? ⟨(ad.add (k * 6)).block, (ad.add (k * 6)).off + 4, none⟩ = some (.int .i64 dat) := a4
          replace a5 : wr.cell? ⟨(ad.add (k * 6)).block, (ad.add (k * 6)).off + 5, none⟩ = some (.int .i64 amt) := a5
          replace HH3 : Hid (∀ x, Below w.heap.size w x → Calls Tryz.prog 25 #[.agg #[.int .i64 verb, .slice Ab nb cb, .slice Aw nw cw], .agg #[.int .i64 acc, .int .i64 ent, .int .i64 par, .int .i64 kind, .int .i64 dat, .int .i64 amt]] x fun e w' => e = .returned (.bool pv) ∧ Below x.heap.size x w') := HH3
          replace HFLD : Hid (∀ (x : Int) y, 0 ≤ x → x ≤ 4 → Calls Tryz.prog 59 #[.agg #[.int .i64 acc, .int .i64 ent, .int .i64 par, .int .i64 kind, .int .i64 dat, .int .i64 amt], .int .i64 x] y fun e w' => e = .returned (.int .i64 (fldF ⟨acc, ent, par, kind, dat, amt⟩ x)) ∧ Below y.heap.size y w') := HFLD
          -- REGION 10
          go_upto_region 10 with fail
          refine wp_region_held_drew (S := fun y : World => y.cell? ⟨X, 0, none⟩ = some (.int .i64 verb) ∧ y.cell? ⟨X, 1, none⟩ = some (.slice Ab nb cb) ∧ y.cell? ⟨X, 2, none⟩ = some (.slice Aw nw cw) ∧ y.cell? (ad.add (k * 6)) = some (.int .i64 acc) ∧ y.cell? ⟨(ad.add (k * 6)).block, (ad.add (k * 6)).off + 1, none⟩ = some (.int .i64 ent) ∧ y.cell? ⟨(ad.add (k * 6)).block, (ad.add (k * 6)).off + 2, none⟩ = some (.int .i64 par) ∧ y.cell? ⟨(ad.add (k * 6)).block, (ad.add (k * 6)).off + 3, none⟩ = some (.int .i64 kind) ∧ y.cell? ⟨(ad.add (k * 6)).block, (ad.add (k * 6)).off + 4, none⟩ = some (.int .i64 dat) ∧ y.cell? ⟨(ad.add (k * 6)).block, (ad.add (k * 6)).off + 5, none⟩ = some (.int .i64 amt)) (by kernel_rfl) ⟨q0, q1, q2, a0, a1, a2, a3, a4, a5⟩ (fun hHeld => ?_)
          refine wpAnyH_take (i := 0) (v := ?vt0) rfl (by kernel_rfl) (by kernel_rfl) (by kernel_rfl) (fun _ _ _ h => h) (Or.inl ⟨by rfl, ?hyt0⟩) (by assumption) ?restt0
          case hyt0 => (intro w_ hSw; (try dsimp only at hSw); obtain ⟨q0_, q1_, q2_, a0_, a1_, a2_, a3_, a4_, a5_⟩ := hSw; go_simp; (try with_reducible rfl))
          (try simp only [Act.put, List.setIfInBounds_toArray, List.set_cons_zero, List.set_cons_succ, List.getElem_toArray, List.getElem_cons_zero, List.getElem_cons_succ])
          refine wpAnyH_take (i := 1) (v := ?vt1) rfl (by kernel_rfl) (by kernel_rfl) (by kernel_rfl) (fun _ _ _ h => h) (Or.inl ⟨by rfl, ?hyt1⟩) (by assumption) ?restt1
          case hyt1 => (intro w_ hSw; (try dsimp only at hSw); obtain ⟨q0_, q1_, q2_, a0_, a1_, a2_, a3_, a4_, a5_⟩ := hSw; go_simp; (try with_reducible rfl))
          (try simp only [Act.put, List.setIfInBounds_toArray, List.set_cons_zero, List.set_cons_succ, List.getElem_toArray, List.getElem_cons_zero, List.getElem_cons_succ])
          refine wpAnyH_take (i := 2) (v := ?vt2) rfl (by kernel_rfl) (by kernel_rfl) (by kernel_rfl) (fun _ _ _ h => h) (Or.inl ⟨by rfl, ?hyt2⟩) (by assumption) ?restt2
          case hyt2 => (intro w_ hSw; (try dsimp only at hSw); obtain ⟨q0_, q1_, q2_, a0_, a1_, a2_, a3_, a4_, a5_⟩ := hSw; go_simp; (try with_reducible rfl))
          (try simp only [Act.put, List.setIfInBounds_toArray, List.set_cons_zero, List.set_cons_succ, List.getElem_toArray, List.getElem_cons_zero, List.getElem_cons_succ])
          refine wpAnyH_take (i := 3) (v := ?vt3) rfl (by kernel_rfl) (by kernel_rfl) (by kernel_rfl) (fun _ _ _ h => h) (Or.inl ⟨by rfl, ?hyt3⟩) (by assumption) ?restt3
          case hyt3 => (intro w_ hSw; (try dsimp only at hSw); obtain ⟨q0_, q1_, q2_, a0_, a1_, a2_, a3_, a4_, a5_⟩ := hSw; go_simp; (try with_reducible rfl))
          (try simp only [Act.put, List.setIfInBounds_toArray, List.set_cons_zero, List.set_cons_succ, List.getElem_toArray, List.getElem_cons_zero, List.getElem_cons_succ])
          refine wpAnyH_take (i := 4) (v := ?vt4) rfl (by kernel_rfl) (by kernel_rfl) (by kernel_rfl) (fun _ _ _ h => h) (Or.inl ⟨by rfl, ?hyt4⟩) (by assumption) ?restt4
          case hyt4 => (intro w_ hSw; (try dsimp only at hSw); obtain ⟨q0_, q1_, q2_, a0_, a1_, a2_, a3_, a4_, a5_⟩ := hSw; go_simp; (try with_reducible rfl))
          (try simp only [Act.put, List.setIfInBounds_toArray, List.set_cons_zero, List.set_cons_succ, List.getElem_toArray, List.getElem_cons_zero, List.getElem_cons_succ])
          refine wpAnyH_ready (rs := [5]) (by kernel_rfl) (by simp) ?_
          refine (AllReadyH.cons rfl (fun K hK => ?_) AllReadyH.nil)
          go_simp
          refine (HH3.out _ (below_two HR.out.below (Below.refl _ _).drew)).mono ?_
          rintro e x1 ⟨rfl, hb⟩
          have HR1 := Lib.hid (HR.out.same ((Below.refl wr.heap.size wr).drew.trans hb))
          have hk1 := KeepC.of_below hb
          dsimp only
          refine hK.out _ _ ?hSt5 (fun hHeld1 => ?_)
          case hSt5 => (obtain ⟨s0, s1, s2, s3, s4, s5, s6, s7, s8⟩ := hHeld; exact ⟨hk1.2 _ _ s0, hk1.2 _ _ s1, hk1.2 _ _ s2, hk1.2 _ _ s3, hk1.2 _ _ s4, hk1.2 _ _ s5, hk1.2 _ _ s6, hk1.2 _ _ s7, hk1.2 _ _ s8⟩)
          clear hK K hb hk1
          (try simp only [Act.put, List.setIfInBounds_toArray, List.set_cons_zero, List.set_cons_succ, List.getElem_toArray, List.getElem_cons_zero, List.getElem_cons_succ])
          refine wpAnyH_take (i := 6) (v := ?vt6) rfl (by kernel_rfl) (by kernel_rfl) (by kernel_rfl) (fun _ _ _ h => h) (Or.inl ⟨by rfl, ?hyt6⟩) (by assumption) ?restt6
          case hyt6 => (intro w_ hSw; (try dsimp only at hSw); obtain ⟨q0_, q1_, q2_, a0_, a1_, a2_, a3_, a4_, a5_⟩ := hSw; go_simp; (try with_reducible rfl))
          (try simp only [Act.put, List.setIfInBounds_toArray, List.set_cons_zero, List.set_cons_succ, List.getElem_toArray, List.getElem_cons_zero, List.getElem_cons_succ])
          refine wpAnyH_done (by kernel_rfl) ?_ _
          obtain ⟨q0, q1, q2, a0, a1, a2, a3, a4, a5⟩ := hHeld1
          -- END 10
          cases pv with
          | false =>
            go_wp2_with fail
            go_roundw
            case rel => exact ⟨k + 1, rs, by omega, by go_num, by rw [HLK3.out, HST.out, if_neg (by decide)]; exact HR1.out⟩
            case measure => simp [intOf]; omega
          | true =>
            have hXl : X < x1.heap.size := HR1.out.qb.lt
            have hadl : (ad.add (k * 6)).block < x1.heap.size := World.block_lt_of_cell? _ _ a0
            have HKX : Hid (∀ (y y' : World) (a : Addr), Below x1.heap.size y y' → a.block < x1.heap.size → ∀ {u : Value}, y.cell? a = some u → y'.cell? a = some u) := fun y y' a hb ha u hc => (hb.cell ha).trans hc
            obtain ⟨j0, hj00, hy0, hy1, hy2⟩ := info_parts info_int5
            clear HR hXl0
            go_wp2_with fail
            go_loopw [9, 10] (fun v i y => ∃ j : Nat, j ≤ nb ∧ i = .int .i64 (j : Int) ∧ y.ownsRow x1.heap.size 3 1 v j (((byl.take j).map (fldF ⟨acc, ent, par, kind, dat, amt⟩)).map intV) ∧ Below x1.heap.size x1 y) (fun _ i _ => nb - (intOf i).toNat)
            case atStart => exact ⟨0, Nat.zero_le _, rfl, World.ownsRow_nil _ _ _ _, Below.refl _ _⟩
            case round =>
              obtain ⟨j, hj, rfl, hkr, hbw⟩ := hrel
              have HKR := Lib.hid hkr
              have HBW := Lib.hid hbw
              clear hkr hbw
              have hbx := HBW.out.size
              replace q0 := HKX.out _ _ ⟨X, 0, none⟩ HBW.out hXl q0
              replace q1 := HKX.out _ _ ⟨X, 1, none⟩ HBW.out hXl q1
              replace q2 := HKX.out _ _ ⟨X, 2, none⟩ HBW.out hXl q2
              replace a0 := HKX.out _ _ (ad.add (k * 6)) HBW.out hadl a0
              replace a1 := HKX.out _ _ ⟨(ad.add (k * 6)).block, (ad.add (k * 6)).off + 1, none⟩ HBW.out hadl a1
              replace a2 := HKX.out _ _ ⟨(ad.add (k * 6)).block, (ad.add (k * 6)).off + 2, none⟩ HBW.out hadl a2
              replace a3 := HKX.out _ _ ⟨(ad.add (k * 6)).block, (ad.add (k * 6)).off + 3, none⟩ HBW.out hadl a3
              replace a4 := HKX.out _ _ ⟨(ad.add (k * 6)).block, (ad.add (k * 6)).off + 4, none⟩ HBW.out hadl a4
              replace a5 := HKX.out _ _ ⟨(ad.add (k * 6)).block, (ad.add (k * 6)).off + 5, none⟩ HBW.out hadl a5
              obtain ⟨nb5, hfr⟩ := HB52.out
              by_cases hlj : j < nb
              · have k4 : decide ((j : Int) < (nb : Int)) = true := by rw [decide_eq_true_eq]; omega
                obtain ⟨hj0, hj4⟩ := hfr j hlj
                obtain ⟨g, o, rfl, hg, hc⟩ := HBY.out (by rw [HNB.out]; omega)
                have b0x := (HR1.out.below.cell (World.block_lt_of_cell? _ _ (hc j (by rw [HNB.out]; exact hlj)))).trans (hc j (by rw [HNB.out]; exact hlj))
                have hgl : g < x1.heap.size := World.block_lt_of_cell? _ _ b0x
                have b0 := HKX.out _ _ ⟨g, o + j, none⟩ HBW.out hgl b0x
                have htk : (byl.take (j + 1)).map (fldF ⟨acc, ent, par, kind, dat, amt⟩) = (byl.take j).map (fldF ⟨acc, ent, par, kind, dat, amt⟩) ++ [fldF ⟨acc, ent, par, kind, dat, amt⟩ (byl.getD j 0)] := by
                  have hjl : j < byl.length := by rw [HNB.out]; exact hlj
                  rw [List.take_succ_eq_append_getElem hjl, List.map_append]
                  simp [List.getD, hjl]
                have HTK := Lib.hid htk
                clear hc b0x htk
                generalize hby : byl.getD j 0 = bj at *
                clear hby hfr
                -- REGION 15
                go_upto_region 15 with fail
                refine wp_region_held_drew (S := fun y : World => y.cell? ⟨X, 0, none⟩ = some (.int .i64 verb) ∧ y.cell? ⟨X, 1, none⟩ = some (.slice (some ⟨g, o, none⟩) nb cb) ∧ y.cell? ⟨X, 2, none⟩ = some (.slice Aw nw cw) ∧ y.cell? (ad.add (k * 6)) = some (.int .i64 acc) ∧ y.cell? ⟨(ad.add (k * 6)).block, (ad.add (k * 6)).off + 1, none⟩ = some (.int .i64 ent) ∧ y.cell? ⟨(ad.add (k * 6)).block, (ad.add (k * 6)).off + 2, none⟩ = some (.int .i64 par) ∧ y.cell? ⟨(ad.add (k * 6)).block, (ad.add (k * 6)).off + 3, none⟩ = some (.int .i64 kind) ∧ y.cell? ⟨(ad.add (k * 6)).block, (ad.add (k * 6)).off + 4, none⟩ = some (.int .i64 dat) ∧ y.cell? ⟨(ad.add (k * 6)).block, (ad.add (k * 6)).off + 5, none⟩ = some (.int .i64 amt) ∧ y.cell? ⟨g, o + j, none⟩ = some (.int .i64 bj)) (by kernel_rfl) ⟨q0, q1, q2, a0, a1, a2, a3, a4, a5, b0⟩ (fun hHeld => ?_)
                refine wpAnyH_take (i := 0) (v := ?vu0) rfl (by kernel_rfl) (by kernel_rfl) (by kernel_rfl) (fun _ _ _ h => h) (Or.inl ⟨by rfl, ?hyu0⟩) (by assumption) ?restu0
                case hyu0 => (intro w_ hSw; (try dsimp only at hSw); obtain ⟨q0_, q1_, q2_, a0_, a1_, a2_, a3_, a4_, a5_, b0_⟩ := hSw; go_simp; (try with_reducible rfl))
                (try simp only [Act.put, List.setIfInBounds_toArray, List.set_cons_zero, List.set_cons_succ, List.getElem_toArray, List.getElem_cons_zero, List.getElem_cons_succ])
                refine wpAnyH_take (i := 1) (v := ?vu1) rfl (by kernel_rfl) (by kernel_rfl) (by kernel_rfl) (fun _ _ _ h => h) (Or.inl ⟨by rfl, ?hyu1⟩) (by assumption) ?restu1
                case hyu1 => (intro w_ hSw; (try dsimp only at hSw); obtain ⟨q0_, q1_, q2_, a0_, a1_, a2_, a3_, a4_, a5_, b0_⟩ := hSw; go_simp; (try with_reducible rfl))
                (try simp only [Act.put, List.setIfInBounds_toArray, List.set_cons_zero, List.set_cons_succ, List.getElem_toArray, List.getElem_cons_zero, List.getElem_cons_succ])
                refine wpAnyH_take (i := 2) (v := ?vu2) rfl (by kernel_rfl) (by kernel_rfl) (by kernel_rfl) (fun _ _ _ h => h) (Or.inl ⟨by rfl, ?hyu2⟩) (by assumption) ?restu2
                case hyu2 => (intro w_ hSw; (try dsimp only at hSw); obtain ⟨q0_, q1_, q2_, a0_, a1_, a2_, a3_, a4_, a5_, b0_⟩ := hSw; go_simp; (try with_reducible rfl))
                (try simp only [Act.put, List.setIfInBounds_toArray, List.set_cons_zero, List.set_cons_succ, List.getElem_toArray, List.getElem_cons_zero, List.getElem_cons_succ])
                refine wpAnyH_take (i := 3) (v := ?vu3) rfl (by kernel_rfl) (by kernel_rfl) (by kernel_rfl) (fun _ _ _ h => h) (Or.inl ⟨by rfl, ?hyu3⟩) (by assumption) ?restu3
                case hyu3 => (intro w_ hSw; (try dsimp only at hSw); obtain ⟨q0_, q1_, q2_, a0_, a1_, a2_, a3_, a4_, a5_, b0_⟩ := hSw; go_simp; (try with_reducible rfl))
                (try simp only [Act.put, List.setIfInBounds_toArray, List.set_cons_zero, List.set_cons_succ, List.getElem_toArray, List.getElem_cons_zero, List.getElem_cons_succ])
                refine wpAnyH_take (i := 4) (v := ?vu4) rfl (by kernel_rfl) (by kernel_rfl) (by kernel_rfl) (fun _ _ _ h => h) (Or.inl ⟨by rfl, ?hyu4⟩) (by assumption) ?restu4
                case hyu4 => (intro w_ hSw; (try dsimp only at hSw); obtain ⟨q0_, q1_, q2_, a0_, a1_, a2_, a3_, a4_, a5_, b0_⟩ := hSw; go_simp; (try with_reducible rfl))
                (try simp only [Act.put, List.setIfInBounds_toArray, List.set_cons_zero, List.set_cons_succ, List.getElem_toArray, List.getElem_cons_zero, List.getElem_cons_succ])
                refine wpAnyH_take (i := 5) (v := ?vu5) rfl (by kernel_rfl) (by kernel_rfl) (by kernel_rfl) (fun _ _ _ h => h) (Or.inl ⟨by rfl, ?hyu5⟩) (by assumption) ?restu5
                case hyu5 => (intro w_ hSw; (try dsimp only at hSw); obtain ⟨q0_, q1_, q2_, a0_, a1_, a2_, a3_, a4_, a5_, b0_⟩ := hSw; go_simp; (try with_reducible rfl))
                (try simp only [Act.put, List.setIfInBounds_toArray, List.set_cons_zero, List.set_cons_succ, List.getElem_toArray, List.getElem_cons_zero, List.getElem_cons_succ])
                refine wpAnyH_take (i := 6) (v := ?vu6) rfl (by kernel_rfl) (by kernel_rfl) (by kernel_rfl) (fun _ _ _ h => h) (Or.inl ⟨by rfl, ?hyu6⟩) (by assumption) ?restu6
                case hyu6 => (intro w_ hSw; (try dsimp only at hSw); obtain ⟨q0_, q1_, q2_, a0_, a1_, a2_, a3_, a4_, a5_, b0_⟩ := hSw; go_simp; (try with_reducible rfl))
                (try simp only [Act.put, List.setIfInBounds_toArray, List.set_cons_zero, List.set_cons_succ, List.getElem_toArray, List.getElem_cons_zero, List.getElem_cons_succ])
                refine wpAnyH_take (i := 7) (v := ?vu7) rfl (by kernel_rfl) (by kernel_rfl) (by kernel_rfl) (fun _ _ _ h => h) (Or.inl ⟨by rfl, ?hyu7⟩) (by assumption) ?restu7
                case hyu7 => (intro w_ hSw; (try dsimp only at hSw); obtain ⟨q0_, q1_, q2_, a0_, a1_, a2_, a3_, a4_, a5_, b0_⟩ := hSw; go_simp; (try with_reducible rfl))
                (try simp only [Act.put, List.setIfInBounds_toArray, List.set_cons_zero, List.set_cons_succ, List.getElem_toArray, List.getElem_cons_zero, List.getElem_cons_succ])
                refine wpAnyH_take (i := 8) (v := ?vu8) rfl (by kernel_rfl) (by kernel_rfl) (by kernel_rfl) (fun _ _ _ h => h) (Or.inl ⟨by rfl, ?hyu8⟩) (by assumption) ?restu8
                case hyu8 => (intro w_ hSw; (try dsimp only at hSw); obtain ⟨q0_, q1_, q2_, a0_, a1_, a2_, a3_, a4_, a5_, b0_⟩ := hSw; go_simp; (try with_reducible rfl))
                (try simp only [Act.put, List.setIfInBounds_toArray, List.set_cons_zero, List.set_cons_succ, List.getElem_toArray, List.getElem_cons_zero, List.getElem_cons_succ])
                refine wpAnyH_take (i := 9) (v := ?vu9) rfl (by kernel_rfl) (by kernel_rfl) (by kernel_rfl) (fun _ _ _ h => h) (Or.inl ⟨by rfl, ?hyu9⟩) (by assumption) ?restu9
                case hyu9 => (intro w_ hSw; (try dsimp only at hSw); obtain ⟨q0_, q1_, q2_, a0_, a1_, a2_, a3_, a4_, a5_, b0_⟩ := hSw; go_simp; (try with_reducible rfl))
                (try simp only [Act.put, List.setIfInBounds_toArray, List.set_cons_zero, List.set_cons_succ, List.getElem_toArray, List.getElem_cons_zero, List.getElem_cons_succ])
                refine wpAnyH_ready (rs := [10]) (by kernel_rfl) (by simp) ?_
                refine (AllReadyH.cons rfl (fun K hK => ?_) AllReadyH.nil)
                go_simp
                refine (HFLD.out bj _ hj0 hj4).mono ?_
                rintro e w6 ⟨rfl, hb⟩
                have HB6 := Lib.hid ((Below.refl wr.heap.size wr).drew.trans hb)
                have hk1 := KeepC.of_below hb
                dsimp only
                refine hK.out _ _ ?hSu10 (fun hHeld1 => ?_)
                case hSu10 => (obtain ⟨s0, s1, s2, s3, s4, s5, s6, s7, s8, s9⟩ := hHeld; exact ⟨hk1.2 _ _ s0, hk1.2 _ _ s1, hk1.2 _ _ s2, hk1.2 _ _ s3, hk1.2 _ _ s4, hk1.2 _ _ s5, hk1.2 _ _ s6, hk1.2 _ _ s7, hk1.2 _ _ s8, hk1.2 _ _ s9⟩)
                clear hK K hb hk1
                (try simp only [Act.put, List.setIfInBounds_toArray, List.set_cons_zero, List.set_cons_succ, List.getElem_toArray, List.getElem_cons_zero, List.getElem_cons_succ])
                refine wpAnyH_ready (rs := [11]) (by kernel_rfl) (by simp) ?_
                refine (AllReadyH.cons rfl (fun K hK => ?_) AllReadyH.nil)
                go_simp
                have hk2 := KeepC.of_below ((Below.refl w6.heap.size w6).alloc (Nat.le_refl _) (.cells (#[.int .i64 (fldF ⟨acc, ent, par, kind, dat, amt⟩ bj)] : Array Value) 3))
                refine hK.out _ _ ?hSu11 (fun hHeld2 => ?_)
                case hSu11 => (obtain ⟨s0, s1, s2, s3, s4, s5, s6, s7, s8, s9⟩ := hHeld1; exact ⟨hk2.2 _ _ s0, hk2.2 _ _ s1, hk2.2 _ _ s2, hk2.2 _ _ s3, hk2.2 _ _ s4, hk2.2 _ _ s5, hk2.2 _ _ s6, hk2.2 _ _ s7, hk2.2 _ _ s8, hk2.2 _ _ s9⟩)
                clear hK K hk2
                (try simp only [Act.put, List.setIfInBounds_toArray, List.set_cons_zero, List.set_cons_succ, List.getElem_toArray, List.getElem_cons_zero, List.getElem_cons_succ])
                refine wpAnyH_ready (rs := [12]) (by kernel_rfl) (by simp) ?_
                refine (AllReadyH.cons rfl (fun K hK => ?_) AllReadyH.nil)
                have hb6 := HB6.out
                have hs6 := hb6.size
                have hbw := HBW.out.size
                have hrow6 := own_below HKR.out hb6
                (refine step_append_any _ rfl (.tmp 44) (.tmp 55) _ rfl x1.heap.size 3 j0 _ 1 8 Tryz.underlying23 hj00 hy0 hy1 hy2 rfl (by omega) _ j (((byl.take j).map (fldF ⟨acc, ent, par, kind, dat, amt⟩)).map intV) (by simp [Act.eval]) (hrow6.alloc _) (w6.heap.size + 1) (some ⟨w6.heap.size, 0, none⟩) 1 1 [.int .i64 (fldF ⟨acc, ent, par, kind, dat, amt⟩ bj)] (by simp [Act.eval]) (reads_one w6 #[.int .i64 (fldF ⟨acc, ent, par, kind, dat, amt⟩ bj)] 3 1 rfl) (by simp [Value.oneCell']) (by simp only [maxLen]; omega) (by omega) (by simp only [World.size_alloc]; omega) ?_; intro v8 w8 hown8 hg8 hat8)
                have hb8 := ((Below.refl x1.heap.size w6).alloc (by omega) (.cells (#[.int .i64 (fldF ⟨acc, ent, par, kind, dat, amt⟩ bj)] : Array Value) 3)).grown hg8 (by simp only [World.size_alloc]; omega) (fun r e => own_base hrow6 r e)
                have HFIN := Lib.hid (And.intro hown8 (HBW.out.trans ((hb6.mono (by omega)).trans hb8)))
                refine hK.out _ _ ?hSu12 (fun hHeld3 => ?_)
                case hSu12 => (obtain ⟨s0, s1, s2, s3, s4, s5, s6, s7, s8, s9⟩ := hHeld1; exact ⟨HKX.out _ _ ⟨X, 0, none⟩ hb8 (by first | exact hXl | exact hadl | exact hgl) s0, HKX.out _ _ ⟨X, 1, none⟩ hb8 (by first | exact hXl | exact hadl | exact hgl) s1, HKX.out _ _ ⟨X, 2, none⟩ hb8 (by first | exact hXl | exact hadl | exact hgl) s2, HKX.out _ _ (ad.add (k * 6)) hb8 (by first | exact hXl | exact hadl | exact hgl) s3, HKX.out _ _ ⟨(ad.add (k * 6)).block, (ad.add (k * 6)).off + 1, none⟩ hb8 (by first | exact hXl | exact hadl | exact hgl) s4, HKX.out _ _ ⟨(ad.add (k * 6)).block, (ad.add (k * 6)).off + 2, none⟩ hb8 (by first | exact hXl | exact hadl | exact hgl) s5, HKX.out _ _ ⟨(ad.add (k * 6)).block, (ad.add (k * 6)).off + 3, none⟩ hb8 (by first | exact hXl | exact hadl | exact hgl) s6, HKX.out _ _ ⟨(ad.add (k * 6)).block, (ad.add (k * 6)).off + 4, none⟩ hb8 (by first | exact hXl | exact hadl | exact hgl) s7, HKX.out _ _ ⟨(ad.add (k * 6)).block, (ad.add (k * 6)).off + 5, none⟩ hb8 (by first | exact hXl | exact hadl | exact hgl) s8, HKX.out _ _ ⟨g, o + j, none⟩ hb8 (by first | exact hXl | exact hadl | exact hgl) s9⟩)
                clear hK K hown8 hg8 hat8 hb8 hrow6 hHeld hHeld1 hHeld2
                (try simp only [Act.put, List.setIfInBounds_toArray, List.set_cons_zero, List.set_cons_succ, List.getElem_toArray, List.getElem_cons_zero, List.getElem_cons_succ])
                refine wpAnyH_take (i := 13) (v := ?vu13) rfl (by kernel_rfl) (by kernel_rfl) (by kernel_rfl) (fun _ _ _ h => h) (Or.inl ⟨by rfl, ?hyu13⟩) (by assumption) ?restu13
                case hyu13 => (intro w_ hSw; (try dsimp only at hSw); obtain ⟨q0_, q1_, q2_, a0_, a1_, a2_, a3_, a4_, a5_, b0_⟩ := hSw; go_simp; (try with_reducible rfl))
                (try simp only [Act.put, List.setIfInBounds_toArray, List.set_cons_zero, List.set_cons_succ, List.getElem_toArray, List.getElem_cons_zero, List.getElem_cons_succ])
                refine wpAnyH_done (by kernel_rfl) ?_ _
                -- END 15
                go_wp2_with fail
                go_roundw
                case rel =>
                  refine ⟨j + 1, by omega, by go_num, ?_, HFIN.out.2⟩
                  rw [HTK.out, List.map_append]
                  exact HFIN.out.1
                case measure => simp [intOf]; omega
              · have k4 : decide ((j : Int) < (nb : Int)) = false := by rw [decide_eq_false_iff_not]; omega
                obtain rfl : j = nb := by omega
                have HR2 := Lib.hid (HR1.out.same HBW.out)
                have hkt := keyF_tail (byl := byl) ⟨acc, ent, par, kind, dat, amt⟩ (by rw [HNB.out]; exact nb5)
                rw [HNB.out] at hkt
                have HKT := Lib.hid hkt
                have HKR2 : Hid (wr.ownsRow b0 3 1 u9 j (((keyF byl ⟨acc, ent, par, kind, dat, amt⟩).l.take j).map intV)) := by
                  have h := HKR.out
                  rw [List.take_of_length_le (by rw [HNB.out]; exact Nat.le_refl _)] at h
                  have h2 := own_low h (HR1.out.hx)
                  rw [hkt.2]
                  exact h2
                have hamt : smallA amt := HOKF.out.2.2.2.2.2
                have HSTEP : Hid (lk1 = putS lk (keyF byl ⟨acc, ent, par, kind, dat, amt⟩) (addF verb ⟨acc, ent, par, kind, dat, amt⟩)) := by have h := HST.out; first | (rw [if_pos rfl] at h; exact h) | (rw [if_pos trivial] at h; exact h)
                obtain ⟨A, c, rfl⟩ := own_slice HKR2.out
                obtain ⟨Al, cl, rfl⟩ := own_slice HR2.out.row
                have hsm : ∀ i, i < rs.length → (rs.getD i default).val ≤ 1013309916158361600 ∧ -1013309916158361600 ≤ (rs.getD i default).val := fun i hi => by
                  have hl : i < lk.length := by rw [← HR2.out.rel.len]; exact hi
                  have h1 := HR2.out.rel.at (List.getElem?_eq_getElem hl)
                  have h2 := HSM.out _ (List.getElem_mem hl)
                  rw [h1.2.2]
                  omega
                have hrl : rs.length ≤ 100000 := by have h1 := HR2.out.rel.len; have h2 := HLE.out; omega
                have hki : ((keyF byl ⟨acc, ent, par, kind, dat, amt⟩).l.take j).length = j := by rw [List.length_take, l_len]; omega
                have HPUT : Hid (∀ x : Int, x ≤ 1125899906842624 → -1125899906842624 ≤ x → Calls Tryz.prog 67 #[.slice Al rs.length cl, .slice A j c, .int .i64 x] wr fun e w' => PutSays rs ((keyF byl ⟨acc, ent, par, kind, dat, amt⟩).l.take j) x A j c b0 (.slice Al rs.length cl) wr e w') := fun x h1 h2 =>
                  put_any rs Al rs.length cl b0 j A c _ x wr HR2.out.row rfl hrl HR2.out.rin (rdby_own HKR2.out hki) hki (by omega) (fun i hi => by have := hsm i hi; omega)
                generalize hkey : keyF byl ⟨acc, ent, par, kind, dat, amt⟩ = key at *
                obtain ⟨rn, hrn⟩ : ∃ rn, rs.length = rn := ⟨_, rfl⟩
                rw [hrn] at HPUT ⊢
                have HRN := Lib.hid hrn
                clear hkey hkt HKR HBW HR1 HSM HST HOKF HFLD HH3 hsm hrn hki hfr hrl
                by_cases hvb : verb = 1
                · subst hvb
                  have hadd : addF 1 (⟨acc, ent, par, kind, dat, amt⟩ : SFact) = 1 := rfl
                  rw [hadd] at HSTEP
                  clear hadd
                  go_wp2_with fail
                  refine (HPUT.out 1 (by omega) (by omega)).mono ?_
                  rintro e w9 hps
                  rw [← HRN.out] at hps
                  obtain ⟨v', rs', rfl, hfin⟩ := HR2.out.put HKT.out.1 nb5 HKR2.out hps
                  have HFIN := Lib.hid hfin
                  clear hfin hps
                  go_wp2_with fail
                  go_roundw
                  case rel => exact ⟨k + 1, rs', by omega, by go_num, by rw [HLK3.out, HSTEP.out]; exact HFIN.out⟩
                  case measure => simp [intOf]; omega
                · have k5 : (verb == 1) = false := by simp; exact hvb
                  have hadd : addF verb (⟨acc, ent, par, kind, dat, amt⟩ : SFact) = amt := if_neg hvb
                  rw [hadd] at HSTEP
                  clear hadd
                  go_wp2_with fail
                  refine (HPUT.out amt hamt.1 hamt.2).mono ?_
                  rintro e w9 hps
                  rw [← HRN.out] at hps
                  obtain ⟨v', rs', rfl, hfin⟩ := HR2.out.put HKT.out.1 nb5 HKR2.out hps
                  have HFIN := Lib.hid hfin
                  clear hfin hps
                  go_wp2_with fail
                  go_roundw
                  case rel => exact ⟨k + 1, rs', by omega, by go_num, by rw [HLK3.out, HSTEP.out]; exact HFIN.out⟩
                  case measure => simp [intOf]; omega
        · have k3 : decide ((k : Int) < (n : Int)) = false := by rw [decide_eq_false_iff_not]; omega
          obtain rfl : k = n := by omega
          have hlen := sumsI_len (verb := verb) (byl := byl) (p := pf) (F := F) k (by rw [HFN.out]; exact Nat.le_refl _)
          have hall : sumsI verb byl pf (F.take k) = LL := by rw [List.take_of_length_le (by rw [HFN.out]; exact Nat.le_refl _)]; exact HLL.out
          rw [hall] at HR hlen
          clear hall
          obtain ⟨Al, cl, rfl⟩ := own_slice HR.out.row
          obtain ⟨rn, hrn⟩ : ∃ rn, rs.length = rn := ⟨_, rfl⟩
          have HRW : Hid (wr.ownsRow b0 128 2 (.slice Al rn cl) rn (rrowsC rs)) := by rw [← hrn]; exact HR.out.row
          have hrn1 : rn ≤ 1000 := by have h := HR.out.rel.len; omega
          have HRN := Lib.hid hrn
          rw [hrn]
          clear hrn hlen
          go_wp2_with fail
          go_loopw [12] (fun i y => ∃ p : Nat, p ≤ rn ∧ i = .int .i64 (p : Int) ∧ y = wr ∧ ∀ q, q ∈ LL.take p → moneyB q.2 = true) (fun i _ => rn - (intOf i).toNat)
          case atStart => exact ⟨0, Nat.zero_le _, rfl, rfl, fun q hq => by simp at hq⟩
          case round =>
            obtain ⟨p, hp, rfl, hw, hok⟩ := hrel
            subst hw
            have HOK := Lib.hid hok
            clear hok
            by_cases hlp : p < rn
            · have k4 : decide ((p : Int) < (rn : Int)) = true := by rw [decide_eq_true_eq]; omega
              obtain ⟨ar, rfl, har, hrl, _, aj⟩ := (Reads.of_own HRW.out).row_at rrowC (fun _ => rfl) (by decide) hlp
              have a1 := aj 1 (by decide) (by decide)
              replace a1 : wr.cell? ⟨(ar.add (p * 2)).block, (ar.add (p * 2)).off + 1, none⟩ = some (.int .i64 (rs.getD p default).val) := a1
              clear aj
              have hll : p < LL.length := by have h := HR.out.rel.len; have h2 := HRN.out; omega
              have hat := HR.out.rel.at (List.getElem?_eq_getElem hll)
              have HEL : Hid (LL[p] ∈ LL ∧ LL[p].2 = (rs.getD p default).val ∧ LL.take (p + 1) = LL.take p ++ [LL[p]]) := ⟨List.getElem_mem hll, hat.2.2.symm, List.take_succ_eq_append_getElem hll⟩
              clear hat
              generalize LL[p] = ll at *
              generalize (rs.getD p default).val = s at *
              have HMV : Hid (Calls Tryz.prog 68 #[.int .i64 s] wr fun e w' => e = .returned (.bool (moneyB s)) ∧ wr = w') := rmoneyv_any s wr
              generalize hmb : moneyB s = mb at *
              have HMB := Lib.hid hmb
              clear hmb
              go_wp2_with fail
              refine HMV.out.mono ?_
              rintro e w9 ⟨rfl, rfl⟩
              cases mb with
              | false =>
                go_wp2_with fail
                refine bodyPost_ret (v := .tuple #[.slice none 0 0, .int .i64 2]) ?_ rfl ?_
                · simp [results, Tryz.results27, go_sem]
                · exact ⟨.inr (.inl ⟨rfl, ⟨ll, HEL.out.1, by rw [HEL.out.2.1]; exact HMB.out⟩, rfl⟩), HR.out.below⟩
              | true =>
                go_wp2_with fail
                go_roundw
                case rel =>
                  refine ⟨p + 1, by omega, by go_num, (by first | rfl | trivial), fun q hq => ?_⟩
                  rw [HEL.out.2.2] at hq
                  rcases List.mem_append.1 hq with hq | hq
                  · exact HOK.out q hq
                  · rw [List.mem_singleton] at hq
                    rw [hq, HEL.out.2.1]; exact HMB.out
                case measure => simp [intOf]; omega
            · have k4 : decide ((p : Int) < (rn : Int)) = false := by rw [decide_eq_false_iff_not]; omega
              obtain rfl : p = rn := by omega
              go_wp2_with fail
              refine bodyPost_ret (v := .tuple #[.slice Al p cl, .int .i64 0]) ?_ rfl ?_
              · simp [results, Tryz.results27, go_sem]
              · have hlp2 : p = LL.length := by have h := HR.out.rel.len; have h2 := HRN.out; omega
                refine ⟨.inr (.inr ⟨rfl, fun q hq => HOK.out q (by rw [List.take_of_length_le (by omega)]; exact hq), Al, p, cl, rfl, hlp2, rs, HR.out.rel.1, Reads.of_own HRW.out, fun j hj => ?_⟩), HR.out.below⟩
                have h := HR.out.rin j (by rw [HRN.out]; exact hj)
                have hjl : j < rs.length := by rw [HRN.out]; exact hj
                have hmem : rs.getD j default ∈ rs := by
                  have e : rs.getD j default = rs[j] := by simp [List.getD, hjl]
                  rw [e]; exact List.getElem_mem hjl
                exact ⟨⟨h.2.2, by rw [h.2.1, h.1], by rw [h.1]; have := HB52.out.1; omega⟩, own_capQ (HR.out.ks _ hmem).2.2⟩
end Go.Proofs.YtfnlddloalineaaGreatDoor
