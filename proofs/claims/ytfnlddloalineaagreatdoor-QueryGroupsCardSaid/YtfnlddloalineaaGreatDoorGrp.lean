/-
  The law QueryGroups.
-/
import Derived.Test.YtfnlddloalineaaGreatDoorGrp0
namespace Go.Proofs.YtfnlddloalineaaGreatDoor
open Go.RowKit
set_option linter.unusedVariables false
set_option linter.unusedSimpArgs false
set_option maxRecDepth 100000
theorem okQ_more {verb : Int} {bl : List Int} {wh : List SCond} {k : Int} (h : OkQ ⟨verb, bl, wh⟩) (h0 : 0 ≤ k) (h4 : k ≤ 4) (hn : k ∉ bl) : OkQ ⟨verb, bl ++ [k], wh⟩ := by
  obtain ⟨a, b, c, d, e, f⟩ := h
  simp only [] at a b c d e f
  have hg : ∀ j, j < bl.length → (bl ++ [k]).getD j 0 = bl.getD j 0 := fun j hj => by simp [List.getD, List.getElem?_append_left hj]
  have hl : (bl ++ [k]).getD bl.length 0 = k := by simp [List.getD]
  refine ⟨a, b, c, fun j hj => ?_, fun j hj => ?_, f⟩
  · simp only [List.length_append, List.length_singleton] at hj
    by_cases h1 : j < bl.length
    · show 0 ≤ (bl ++ [k]).getD j 0 ∧ (bl ++ [k]).getD j 0 ≤ 4
      rw [hg j h1]; exact d j h1
    · obtain rfl : j = bl.length := by omega
      show 0 ≤ (bl ++ [k]).getD bl.length 0 ∧ (bl ++ [k]).getD bl.length 0 ≤ 4
      rw [hl]; exact ⟨h0, h4⟩
  · simp only [List.length_append, List.length_singleton] at hj
    by_cases h1 : j < bl.length
    · show ((bl ++ [k]).take j).contains ((bl ++ [k]).getD j 0) = false
      rw [hg j h1, List.take_append_of_le_length (by omega)]; exact e j h1
    · obtain rfl : j = bl.length := by omega
      show ((bl ++ [k]).take bl.length).contains ((bl ++ [k]).getD bl.length 0) = false
      rw [hl, List.take_left]
      cases hc : bl.contains k with
      | false => rfl
      | true => exact absurd (List.contains_iff_mem.1 hc) hn
/-- the boxes of a result, a query and a further query -/
structure GrS (w : World) (X X2 : Nat) (per : Int) (vi vp vt : Value) (verb : Int) (vb vw vb2 : Value) (x : World) : Prop where
  below : Below w.heap.size w x
  r0 : x.cell? ⟨w.heap.size, 0, none⟩ = some (.int .i64 per)
  r1 : x.cell? ⟨w.heap.size, 1, none⟩ = some vi
  r2 : x.cell? ⟨w.heap.size, 2, none⟩ = some vp
  r3 : x.cell? ⟨w.heap.size, 3, none⟩ = some vt
  q0 : x.cell? ⟨X, 0, none⟩ = some (.int .i64 verb)
  q1 : x.cell? ⟨X, 1, none⟩ = some vb
  q2 : x.cell? ⟨X, 2, none⟩ = some vw
  m0 : x.cell? ⟨X2, 0, none⟩ = some (.int .i64 verb)
  m1 : x.cell? ⟨X2, 1, none⟩ = some vb2
  m2 : x.cell? ⟨X2, 2, none⟩ = some vw
theorem GrS.same {w : World} {X X2 : Nat} {per : Int} {vi vp vt : Value} {verb : Int} {vb vw vb2 : Value} {x y : World} (h : GrS w X X2 per vi vp vt verb vb vw vb2 x) (hb : Below x.heap.size x y) : GrS w X X2 per vi vp vt verb vb vw vb2 y := by
  have k : ∀ {a : Addr} {v : Value}, x.cell? a = some v → y.cell? a = some v := fun hc => (hb.cell (World.block_lt_of_cell? _ _ hc)).trans hc
  exact ⟨below_two h.below hb, k h.r0, k h.r1, k h.r2, k h.r3, k h.q0, k h.q1, k h.q2, k h.m0, k h.m1, k h.m2⟩
theorem gr_step {w w9 : World} {X X2 : Nat} {per : Int} {vi vp vt : Value} {verb : Int} {vb vw vb2 : Value} {x y : World} (h : GrS w X X2 per vi vp vt verb vb vw vb2 x ∧ Below w9.heap.size w9 x) (hb : Below x.heap.size x y) : GrS w X X2 per vi vp vt verb vb vw vb2 y ∧ Below w9.heap.size w9 y := ⟨h.1.same hb, below_two h.2 hb⟩
theorem gr_step2 {w w9 wg : World} {X X2 : Nat} {per : Int} {vi vp vt : Value} {verb : Int} {vb vw vb2 : Value} {x y : World} (h : (GrS w X X2 per vi vp vt verb vb vw vb2 x ∧ Below w9.heap.size w9 x) ∧ Below wg.heap.size wg x) (hb : Below x.heap.size x y) : (GrS w X X2 per vi vp vt verb vb vw vb2 y ∧ Below w9.heap.size w9 y) ∧ Below wg.heap.size wg y := ⟨gr_step h.1 hb, below_two h.2 hb⟩
set_option maxHeartbeats 16000000 in
theorem lawGroups (per : Int) (its : List SItem) (pos : List SPost) (Ai Ap At : Option Addr) (ni ci np cp nt ct : Nat) (q : SQry) (Ab Aw : Option Addr) (nb cb nw cw : Nat) (fz : Int) (hf0 : 0 ≤ fz) (hf1 : fz ≤ 255) (w : World) (hE : Env w) (hEE : EnvE w) (hri : Reads w w.heap.size 7 Ai ni (its.flatMap itemC)) (hli : its.length = ni) (hmi : ni ≤ 9223372036854775807) (hrp : Reads w w.heap.size 5 Ap np (pos.flatMap postC)) (hlp : pos.length = np) (hmp : np ≤ 9223372036854775807) (hpq : ∀ x ∈ pos, PostIn w w.heap.size x) (hoi : ∀ x ∈ its, okItem x) (hop : ∀ x ∈ pos, okPost x)
    (hb : RdBy w w.heap.size Ab q.by_) (hnb : q.by_.length = nb) (hcb : nb ≤ cb) (hw : Reads w w.heap.size 3 Aw nw (cndC q.wh)) (hn1 : nb ≤ 9223372036854775807) (hn2 : nw ≤ 9223372036854775807) (hn3 : nw ≤ cw) :
    Calls Tryz.prog 8 #[.agg #[.int .i64 per, .slice Ai ni ci, .slice Ap np cp, .slice At nt ct], .agg #[.int .i64 q.verb, .slice Ab nb cb, .slice Aw nw cw], .int .u8 fz] w fun e w' => e = .returned (.bool true) ∧ Below w.heap.size w w' := by
  have HEB : Hid (∀ w_, Below w.heap.size w w_ → Env w_) := fun w_ h => hE.after h
  have HEEB : Hid (∀ w_, Below w.heap.size w w_ → EnvE w_) := fun w_ h => hEE.below h hE.size
  have hnw : q.wh.length = nw := by have := hw.1; rw [cndC_len] at this; omega
  have HNW := Lib.hid hnw
  have HNB := Lib.hid hnb
  have HBY : Hid (∀ x, Below w.heap.size w x → RdBy x w.heap.size Ab q.by_) := fun x h => hb.low (Nat.le_refl _) (Nat.le_refl _) h
  have HWH : Hid (∀ x, Below w.heap.size w x → Reads x w.heap.size 3 Aw nw (cndC q.wh)) := fun x h => hw.lowQ (Nat.le_refl _) (Nat.le_refl _) h
  have HRI : Hid (∀ x, Below w.heap.size w x → Reads x w.heap.size 7 Ai ni (its.flatMap itemC)) := fun x h => hri.lowQ (Nat.le_refl _) (Nat.le_refl _) h
  have HRP : Hid (∀ x, Below w.heap.size w x → Reads x w.heap.size 5 Ap np (pos.flatMap postC)) := fun x h => hrp.lowQ (Nat.le_refl _) (Nat.le_refl _) h
  have HPI : Hid (∀ x, Below w.heap.size w x → ∀ p, p ∈ pos → PostIn x w.heap.size p) := fun x h p hp => ⟨(hpq p hp).1.lowQ (Nat.le_refl _) (Nat.le_refl _) h, (hpq p hp).2⟩
  have HFW : Hid (∀ x, Below w.heap.size w x → Calls Tryz.prog 16 #[.agg #[.int .i64 per, .slice Ai ni ci, .slice Ap np cp, .slice At nt ct], .agg #[.int .i64 q.verb, .slice Ab nb cb, .slice Aw nw cw]] x fun e w' => FewSays its pos nb nw e ∧ Below x.heap.size x w') := fun x h => few_any per q.verb its pos Ai Ap At Ab Aw ni ci np cp nt ct nb cb nw cw w.heap.size x (HRI.out x h) (HRP.out x h) (HPI.out x h) h.size hli hlp hmi hmp
  have HLI := Lib.hid hli
  have HLP := Lib.hid hlp
  obtain ⟨okb, hokb⟩ : ∃ b : Bool, (b = true ↔ OkQ q) := by
    by_cases h : OkQ q
    · exact ⟨true, b_yes h⟩
    · exact ⟨false, b_no h⟩
  have HOKB := Lib.hid hokb
  have h1 := (Below.refl w.heap.size w).alloc (Nat.le_refl _) (.cells (#[.int .i64 per, .slice Ai ni ci, .slice Ap np cp, .slice At nt ct] : Array Value) 43)
  have k1 := Blk.new w 43 #[.int .i64 per, .slice Ai ni ci, .slice Ap np cp, .slice At nt ct]
  obtain ⟨wy, hwy⟩ : ∃ wy, w.alloc (.cells (#[.int .i64 per, .slice Ai ni ci, .slice Ap np cp, .slice At nt ct] : Array Value) 43) = wy := ⟨_, rfl⟩
  rw [hwy] at h1 k1
  have h2 := h1.alloc h1.size (.cells (#[.int .i64 q.verb, .slice Ab nb cb, .slice Aw nw cw] : Array Value) 32)
  have k2 := Blk.new wy 32 #[.int .i64 q.verb, .slice Ab nb cb, .slice Aw nw cw]
  have k3 := k1.alloc (.cells (#[.int .i64 q.verb, .slice Ab nb cb, .slice Aw nw cw] : Array Value) 32)
  obtain ⟨wz, hwz⟩ : ∃ wz, wy.alloc (.cells (#[.int .i64 q.verb, .slice Ab nb cb, .slice Aw nw cw] : Array Value) 32) = wz := ⟨_, rfl⟩
  rw [hwz] at h2 k2 k3
  obtain ⟨X, hX⟩ : ∃ X, wy.heap.size = X := ⟨_, rfl⟩
  rw [hX] at k2
  have HS0 : Hid (QfS w X per (.slice Ai ni ci) (.slice Ap np cp) (.slice At nt ct) q.verb (.slice Ab nb cb) (.slice Aw nw cw) wz) := ⟨h2, k3.cell 0, k3.cell 1, k3.cell 2, k3.cell 3, k2.cell 0, k2.cell 1, k2.cell 2⟩
  clear hE hEE hri hrp hpq hb hw hnw hli hlp hnb hokb h1 k1 h2 k2 k3
  have HTO : Hid (nw ≤ 30 → ∀ x, Below w.heap.size w x → Calls Tryz.prog 18 #[.agg #[.int .i64 q.verb, .slice Ab nb cb, .slice Aw nw cw]] x fun e w' => ∃ A' c', e = .returned (.agg #[.int .i64 q.verb, .slice Ab nb cb, .slice A' nw c']) ∧ w'.ownsRow x.heap.size 95 3 (.slice A' nw c') nw (cndC q.wh) ∧ Below x.heap.size x w') := fun hf x h =>
    to_any q.verb q.wh Ab Aw nb nw cb cw w.heap.size x (HWH.out x h) h.size (by omega)
  have HVA : Hid (nb ≤ 10 → ∀ A2 c2 x b, Below w.heap.size w x → x.ownsRow b 95 3 (.slice A2 nw c2) nw (cndC q.wh) → Calls Tryz.prog 20 #[.agg #[.int .i64 q.verb, .slice Ab nb cb, .slice A2 nw c2]] x fun e w' => e = .returned (.bool okb) ∧ Below x.heap.size x w') := fun hf A2 c2 x b h ho => by
    by_cases hok : OkQ q
    · rw [HOKB.out.2 hok]
      exact valid_yes q Ab A2 nb nw cb c2 x.heap.size x hok ((HBY.out x h).more h.size) HNB.out.symm hcb (Reads.of_own ho) (Nat.le_refl _) (by omega)
    · rw [bfalse HOKB.out hok]
      exact valid_no q Ab A2 nb nw cb c2 x.heap.size x hok ((HBY.out x h).more h.size) HNB.out.symm hcb (Reads.of_own ho) (Nat.le_refl _) (by omega)
  have HRV : Hid (nb ≤ 10 ∧ nw ≤ 30 → ∀ x, Below w.heap.size w x → Calls Tryz.prog 21 #[.agg #[.int .i64 q.verb, .slice Ab nb cb, .slice Aw nw cw]] x fun e w' => e = .returned (.bool okb) ∧ Below x.heap.size x w') := fun hf x h => by
    refine (rvalid_any q Ab Aw nb nw cb cw w.heap.size x (HBY.out x h) HNB.out.symm hcb (HWH.out x h) h.size (by omega) (by omega)).mono ?_
    rintro e w' ⟨⟨b, rfl, hbq⟩, hb⟩
    refine ⟨?_, hb⟩
    by_cases hok : OkQ q
    · rw [HOKB.out.2 hok, hbq.2 hok]
    · rw [bfalse HOKB.out hok, bfalse hbq hok]
  have HOC : Hid (okb = true → ∀ c, c ∈ q.wh → okCnd c) := fun h => (HOKB.out.1 h).cn
  have HFK : Hid (FewR its pos nb nw → ∀ f, f ∈ factsL its pos → okFct f) := fun h => facts_ok hoi hop h
  have HRUN : Hid (FewR its pos nb nw → ∀ (bl : List Int) (A1 : Option Addr) (m c1 : Nat) (ob : Bool) A2 c2 y b, Below w.heap.size w y → RdBy y y.heap.size A1 bl → bl.length = m → m ≤ c1 → m ≤ 10000 → (ob = true ↔ OkQ ⟨q.verb, bl, q.wh⟩) → y.ownsRow b 95 3 (.slice A2 nw c2) nw (cndC q.wh) → Calls Tryz.prog 26 #[.agg #[.int .i64 per, .slice Ai ni ci, .slice Ap np cp, .slice At nt ct], .agg #[.int .i64 q.verb, .slice A1 m c1, .slice A2 nw c2]] y fun e w' => RunSays ob m (sumsI q.verb bl (predQ q.wh) (factsL its pos)) e w' ∧ Below y.heap.size y w') := fun hf bl A1 m c1 ob A2 c2 y b h hby hm hmc hm1 hob ho =>
    runq_any per its pos Ai Ap At ni ci np cp nt ct ⟨q.verb, bl, q.wh⟩ A1 A2 m c1 nw c2 nb nw ob y ((HRI.out y h).more h.size) HLI.out ((HRP.out y h).more h.size) HLP.out (fun p hp => ⟨(HPI.out y h p hp).1.more h.size, (HPI.out y h p hp).2⟩) hf (HFK.out hf) hby hm hmc (Reads.of_own ho) hm1 (by have := hf.lw; omega) hob
  have HTOX : Hid (nw ≤ 30 → ∀ (A1 : Option Addr) (m c1 : Nat) x, Below w.heap.size w x → Calls Tryz.prog 18 #[.agg #[.int .i64 q.verb, .slice A1 m c1, .slice Aw nw cw]] x fun e w' => ∃ A' c', e = .returned (.agg #[.int .i64 q.verb, .slice A1 m c1, .slice A' nw c']) ∧ w'.ownsRow x.heap.size 95 3 (.slice A' nw c') nw (cndC q.wh) ∧ Below x.heap.size x w') := fun hf A1 m c1 x h =>
    to_any q.verb q.wh A1 Aw m nw c1 cw w.heap.size x (HWH.out x h) h.size (by omega)
  have HLN : Hid (FewR its pos nb nw → ∀ bl, (sumsI q.verb bl (predQ q.wh) (factsL its pos)).length ≤ 1000) := fun hf bl => by
    have h1 := sumsI_len (verb := q.verb) (byl := bl) (p := predQ q.wh) (F := factsL its pos) (factsL its pos).length (Nat.le_refl _)
    rw [List.take_of_length_le (Nat.le_refl _)] at h1
    have h2 := facts_len hf.li hf.lp hf.lq
    omega
  have HOQ : Hid (okb = true ↔ OkQ ⟨q.verb, q.by_, q.wh⟩) := HOKB.out
  have HBND : Hid (OkQ ⟨q.verb, q.by_, q.wh⟩ → nb ≤ 5) := fun h => by have := by_len h; rw [← HNB.out]; exact this
  clear HVA HOC HWH HOKB HNW HFK HRI HRP HPI HLI HLP hoi hop HTO
  generalize cndC q.wh = LW at *
  generalize q.wh = wh at *
  generalize q.by_ = bl0 at *
  generalize factsL its pos = F at *
  generalize q.verb = verb at *
  have r0 := HS0.out.r0
  have r1 := HS0.out.r1
  have r2 := HS0.out.r2
  have r3 := HS0.out.r3
  have q0 := HS0.out.q0
  have q1 := HS0.out.q1
  have q2 := HS0.out.q2
  obtain ⟨l1, l2⟩ := HS0.out.lt
  go_enter Tryz.func8, Tryz.ntmps8
  go_wp2_with fail
  refine (awake_true _ (HEB.out _ HS0.out.below) (HEEB.out _ HS0.out.below)).mono ?_
  rintro e w1 ⟨rfl, hb⟩
  have HS := Lib.hid (HS0.out.same hb)
  clear hb HS0 r0 r1 r2 r3 q0 q1 q2 l1 l2 hwz hwy
  have r0 := HS.out.r0
  have r1 := HS.out.r1
  have r2 := HS.out.r2
  have r3 := HS.out.r3
  have q0 := HS.out.q0
  have q1 := HS.out.q1
  have q2 := HS.out.q2
  obtain ⟨l1, l2⟩ := HS.out.lt
  go_wp2_with fail
  refine (HFW.out _ HS.out.below).mono ?_
  rintro e w2 ⟨hfew, hb⟩
  obtain ⟨fb, rfl, hfr⟩ := hfew
  have HS2 := Lib.hid (HS.out.same hb)
  clear hb HS r0 r1 r2 r3 q0 q1 q2 l1 l2
  have HS := HS2
  clear HS2
  have r0 := HS.out.r0
  have r1 := HS.out.r1
  have r2 := HS.out.r2
  have r3 := HS.out.r3
  have q0 := HS.out.q0
  have q1 := HS.out.q1
  have q2 := HS.out.q2
  obtain ⟨l1, l2⟩ := HS.out.lt
  cases fb with
  | false =>
    go_wp2_with fail
    refine (awake_true _ (HEB.out _ HS.out.below) (HEEB.out _ HS.out.below)).mono ?_
    rintro e w3 ⟨rfl, hb⟩
    have HSF := Lib.hid (HS.out.same hb).below
    clear hb
    go_wp2_with fail
    go_ret
    exact ⟨rfl, HSF.out⟩
  | true =>
    have HFR := Lib.hid (hfr rfl)
    clear hfr
    go_wp2_with fail
    refine (HRV.out ⟨HFR.out.lb, HFR.out.lw⟩ _ HS.out.below).mono ?_
    rintro e w3 ⟨rfl, hb⟩
    have HS3 := Lib.hid (HS.out.same hb)
    clear hb HS r0 r1 r2 r3 q0 q1 q2 l1 l2 HRV
    have r0 := HS3.out.r0
    have r1 := HS3.out.r1
    have r2 := HS3.out.r2
    have r3 := HS3.out.r3
    have q0 := HS3.out.q0
    have q1 := HS3.out.q1
    have q2 := HS3.out.q2
    obtain ⟨l1, l2⟩ := HS3.out.lt
    cases okb with
    | false =>
      go_wp2_with fail
      refine (awake_true _ (HEB.out _ HS3.out.below) (HEEB.out _ HS3.out.below)).mono ?_
      rintro e w4 ⟨rfl, hb⟩
      have HSF := Lib.hid (HS3.out.same hb).below
      clear hb
      go_wp2_with fail
      go_ret
      exact ⟨rfl, HSF.out⟩
    | true =>
      have HQOK := Lib.hid (HOQ.out.1 rfl)
      have hnb5 := HBND.out HQOK.out
      have HRUN2 := Lib.hid (HRUN.out HFR.out)
      have HTO2 := Lib.hid (HTOX.out HFR.out.lw)
      have HLN2 := Lib.hid (HLN.out HFR.out)
      clear HRUN HTOX HLN HOQ HBND HFW
      go_wp2_with fail
      obtain ⟨kz, hkz⟩ : ∃ kz, fz % 5 = kz := ⟨_, rfl⟩
      have hk0 : 0 ≤ kz ∧ kz ≤ 4 := by omega
      rw [hkz]
      clear hkz
      go_loopw [40] (fun i y => ∃ j : Nat, j ≤ nb ∧ i = .int .i64 (j : Int) ∧ y = w3 ∧ ∀ a, a < j → bl0.getD a 0 ≠ kz) (fun i _ => nb - (intOf i).toNat)
      case atStart => exact ⟨0, Nat.zero_le _, rfl, rfl, fun a h => absurd h (Nat.not_lt_zero _)⟩
      case round =>
        obtain ⟨j, hj, rfl, hw3, hne⟩ := hrel
        subst hw3
        have HNE := Lib.hid hne
        clear hne
        by_cases hlj : j < nb
        · have k4 : decide ((j : Int) < (nb : Int)) = true := by rw [decide_eq_true_eq]; omega
          obtain ⟨g, o, rfl, hg, hc⟩ := (HBY.out _ HS3.out.below) (by rw [HNB.out]; omega)
          have b0 := hc j (by rw [HNB.out]; exact hlj)
          have HNX : Hid (bl0.getD j 0 ≠ kz → ∀ a, a < j + 1 → bl0.getD a 0 ≠ kz) := fun h a ha => by
            by_cases e : a = j
            · rw [e]; exact h
            · exact HNE.out a (by omega)
          clear hc
          generalize bl0.getD j 0 = bj at *
          by_cases hbk : bj = kz
          · subst hbk
            have k5 : (bj == bj) = true := by simp
            go_wp2_with fail
            go_ret
            exact ⟨rfl, HS3.out.below⟩
          · have k5 : (bj == kz) = false := by simp [hbk]
            have HNY := Lib.hid (HNX.out hbk)
            go_wp2_with fail
            go_roundw
            case rel => exact ⟨j + 1, by omega, by go_num, (by first | rfl | trivial), HNY.out⟩
            case measure => simp [intOf]; omega
        · have k4 : decide ((j : Int) < (nb : Int)) = false := by rw [decide_eq_false_iff_not]; omega
          obtain rfl : j = nb := by omega
          have hnot : kz ∉ bl0 := fun hm => by
            obtain ⟨a, ha⟩ := List.getElem?_of_mem hm
            have hal := (List.getElem?_eq_some_iff.1 ha).1
            refine HNE.out a (by have := HNB.out; omega) ?_
            simp [List.getD, ha]
          have HQM := Lib.hid (okQ_more HQOK.out hk0.1 hk0.2 hnot)
          have hj4 : j + 1 ≤ 5 := by
            have h := by_len HQM.out
            simp only [List.length_append, List.length_singleton] at h
            have h2 := HNB.out
            omega
          clear hnot HNE hk0
          obtain ⟨X2, hX2⟩ : ∃ X2, wr.heap.size = X2 := ⟨_, rfl⟩
          have hb4 := (Below.refl wr.heap.size wr).alloc (Nat.le_refl _) (.cells #[.int .i64 verb, .slice Ab j cb, .slice Aw nw cw] 32)
          have hk4 := Blk.new wr 32 #[.int .i64 verb, .slice Ab j cb, .slice Aw nw cw]
          obtain ⟨w4, hw4⟩ : ∃ w4, wr.alloc (.cells #[.int .i64 verb, .slice Ab j cb, .slice Aw nw cw] 32) = w4 := ⟨_, rfl⟩
          rw [hw4] at hb4 hk4
          rw [hX2] at hk4
          have HS4 := Lib.hid (HS3.out.same hb4)
          have HK4 := Lib.hid hk4
          have hrd := rdby_reads (HBY.out _ HS4.out.below)
          rw [HNB.out] at hrd
          have HRD := Lib.hid (hrd.more HS4.out.below.size)
          have hlw : w.heap.size ≤ w4.heap.size := HS4.out.below.size
          have HOE := Lib.hid (row_emptyU w4 3 1)
          have HBE := Lib.hid ((Below.refl w4.heap.size w4).alloc (Nat.le_refl _) (.cells #[] 3))
          have hX4 : X2 < w4.heap.size := hk4.lt
          obtain ⟨l3, l4⟩ := HS4.out.lt
          have q1 := HS4.out.q1
          clear hb4 hk4 hrd
          obtain ⟨j0, hj00, hy0, hy1, hy2⟩ := info_parts info_int5
          have HONE : Hid (∀ u, u ∈ bl0.map intV → u.oneCell' = true) := ints_one bl0
          go_wp2_with (first
            | (at_builtin; refine wpList_append_any _ rfl (.tmp 49) (.tmp 51) _ rfl w4.heap.size 3 j0 _ 1 8 Tryz.underlying23 hj00 hy0 hy1 hy2 rfl (by omega) _ 0 [] rfl HOE.out w4.heap.size Ab j cb (bl0.map intV) rfl (HRD.out.below HBE.out) HONE.out (by simp only [maxLen]; omega) (by omega) (by simp only [World.size_alloc]; omega) ?_; intro v6 w6 hown6 hg6 hat6; have HF6 := Lib.hid (And.intro hown6 hg6); have hs6 := hg6.size; simp only [World.size_alloc] at hs6; clear hown6 hg6 hat6)
            | (at_builtin; refine wpList_append_any _ rfl (.tmp 52) (.tmp 54) _ rfl w4.heap.size 3 j0 _ 1 8 Tryz.underlying23 hj00 hy0 hy1 hy2 rfl (by omega) _ (0 + j) ([] ++ bl0.map intV) rfl (HF6.out.1.alloc _) (w6.heap.size + 1) (some ⟨w6.heap.size, 0, none⟩) 1 1 [.int .i64 kz] rfl (reads_one w6 #[.int .i64 kz] 3 1 rfl) (by simp [Value.oneCell']) (by simp only [maxLen]; omega) (by omega) (by simp only [World.size_alloc]; omega) ?_; intro v8 w8 hown8 hg8 hat8; obtain ⟨A8, c8, rfl⟩ := own_slice hown8; have HF8 := Lib.hid (And.intro hown8 hg8); have hs8 := hg8.size; simp only [World.size_alloc] at hs8; have hk8 := (((HK4.out.alloc (.cells #[] 3)).grown HF6.out.2 (fun e => own_blk_ne HOE.out (HK4.out.alloc (.cells #[] 3)) (by decide) e.symm)).alloc (.cells #[.int .i64 kz] 3)).grown hg8 (fun e => own_blk_ne HF6.out.1 (((HK4.out.alloc (.cells #[] 3)).grown HF6.out.2 (fun e => own_blk_ne HOE.out (HK4.out.alloc (.cells #[] 3)) (by decide) e.symm))) (by decide) e.symm); have HK8 := Lib.hid hk8; have s1 := hk8.cell 1; have sf := hk8.frozen 1; simp only [List.getElem?_toArray, List.getElem?_cons_zero, List.getElem?_cons_succ] at s1; clear hown8 hg8 hat8 hk8))
          obtain ⟨w9, hw9⟩ : ∃ w9, w8.setCell ⟨X2, 1, none⟩ (.slice A8 (j + 1) c8) = w9 := ⟨_, rfl⟩
          rw [hw9]
          have hb6 : Below w4.heap.size w4 w6 := HBE.out.grown HF6.out.2 (by simp only [World.size_alloc]; omega) (fun r e => by replace e : some w4.heap.size = some r := e; injection e with e; omega)
          have hb8 : Below w4.heap.size w4 w8 := (hb6.alloc (by omega) (.cells #[.int .i64 kz] 3)).grown HF8.out.2 (by simp only [World.size_alloc]; omega) (fun r e => own_base HF6.out.1 r e)
          have HS8 := HS4.out.same hb8
          have hkc : ∀ {a : Addr} {v : Value}, a.block ≠ X2 → w8.cell? a = some v → w9.cell? a = some v := fun ha hc => by
            rw [← hw9]
            exact (World.cell?_of_block (Below.heap_setCell w8 ⟨X2, 1, none⟩ _ _ ha)).trans hc
          have hk9 := HK8.out.set_ 1 (.slice A8 (j + 1) c8)
          rw [hw9] at hk9
          have hb9 : Below w.heap.size w w9 := by rw [← hw9]; exact HS8.below.setCell (p := ⟨X2, 1, none⟩) (by show w.heap.size ≤ X2; omega) _
          have HG : Hid (GrS w X X2 per (.slice Ai ni ci) (.slice Ap np cp) (.slice At nt ct) verb (.slice Ab j cb) (.slice Aw nw cw) (.slice A8 (j + 1) c8) w9 ∧ Below w9.heap.size w9 w9) :=
            ⟨⟨hb9, hkc (by show w.heap.size ≠ X2; omega) HS8.r0, hkc (by show w.heap.size ≠ X2; omega) HS8.r1, hkc (by show w.heap.size ≠ X2; omega) HS8.r2, hkc (by show w.heap.size ≠ X2; omega) HS8.r3, hkc (by show X ≠ X2; omega) HS8.q0, hkc (by show X ≠ X2; omega) HS8.q1, hkc (by show X ≠ X2; omega) HS8.q2, hk9.cell 0, hk9.cell 1, hk9.cell 2⟩, Below.refl _ _⟩
          have hrow8 : w8.ownsRow w4.heap.size 3 1 (.slice A8 (j + 1) c8) (j + 1) ((bl0 ++ [kz]).map intV) := by
            have h := HF8.out.1
            rw [Nat.zero_add, List.nil_append] at h
            rw [List.map_append]
            exact h
          have hrow9 : w9.ownsRow w4.heap.size 3 1 (.slice A8 (j + 1) c8) (j + 1) ((bl0 ++ [kz]).map intV) := by
            rw [← hw9]
            exact ownsRow_setCell_other hrow8 (a := ⟨X2, 1, none⟩) (own_blk_ne hrow8 HK8.out (by decide)) _
          have hc8 : j + 1 ≤ c8 := own_capQ hrow9
          have hml : (bl0 ++ [kz]).length = j + 1 := by rw [List.length_append, List.length_singleton, HNB.out]
          have HML := Lib.hid hml
          have HR9 : Hid (∀ y, Below w9.heap.size w9 y → RdBy y y.heap.size A8 (bl0 ++ [kz])) := fun y hy => (rdby_own hrow9 hml).any (Nat.le_refl _) hy
          clear hb6 hb8 HS8 hkc hk9 hb9 hrow8 hrow9 hml HF6 HF8 HK8 HOE HBE HRD HK4 HS4 HS3 hw4 hw9 hs6 hs8 s1 sf q1 r0 r1 r2 r3 q0 q2 hX4 l1 l2 l3 l4 hX2
          -- RUNREG g 12 | ⟨⟨_, r0_, r1_, r2_, r3_, q0_, q1_, q2_, m0_, m1_, m2_⟩, _⟩ | fun w' => GrS w X X2 per (.slice Ai ni ci) (.slice Ap np cp) (.slice At nt ct) verb (.slice Ab j cb) (.slice Aw nw cw) (.slice A8 (j + 1) c8) w' ∧ Below w9.heap.size w9 w' | (gr_step HG.out (Below.refl _ _).drew) | HTO2.out Ab j cb _ hHeld.1.below | HRUN2.out bl0 Ab j cb true A2 c2 _ _ hHeld1.1.below ((HBY.out _ hHeld1.1.below).more hHeld1.1.below.size) HNB.out hcb (by omega) (b_yes HQOK.out) HO2.out | gr_step
          go_upto_region 12 with fail
          refine wp_region_held_drew (S := fun w' => GrS w X X2 per (.slice Ai ni ci) (.slice Ap np cp) (.slice At nt ct) verb (.slice Ab j cb) (.slice Aw nw cw) (.slice A8 (j + 1) c8) w' ∧ Below w9.heap.size w9 w') (by kernel_rfl) (gr_step HG.out (Below.refl _ _).drew) (fun hHeld => ?_)
          refine wpAnyH_take (i := 0) (v := ?vg0) rfl (by kernel_rfl) (by kernel_rfl) (by kernel_rfl) (fun _ _ _ h => h) (Or.inl ⟨by rfl, ?hyg0⟩) (by assumption) ?restg0
          case hyg0 => (intro w_ hSw; (try dsimp only at hSw); obtain ⟨⟨_, r0_, r1_, r2_, r3_, q0_, q1_, q2_, m0_, m1_, m2_⟩, _⟩ := hSw; go_simp; (try with_reducible rfl))
          (try simp only [Act.put, List.setIfInBounds_toArray, List.set_cons_zero, List.set_cons_succ, List.getElem_toArray, List.getElem_cons_zero, List.getElem_cons_succ])
          refine wpAnyH_take (i := 1) (v := ?vg1) rfl (by kernel_rfl) (by kernel_rfl) (by kernel_rfl) (fun _ _ _ h => h) (Or.inl ⟨by rfl, ?hyg1⟩) (by assumption) ?restg1
          case hyg1 => (intro w_ hSw; (try dsimp only at hSw); obtain ⟨⟨_, r0_, r1_, r2_, r3_, q0_, q1_, q2_, m0_, m1_, m2_⟩, _⟩ := hSw; go_simp; (try with_reducible rfl))
          (try simp only [Act.put, List.setIfInBounds_toArray, List.set_cons_zero, List.set_cons_succ, List.getElem_toArray, List.getElem_cons_zero, List.getElem_cons_succ])
          refine wpAnyH_ready (rs := [2]) (by kernel_rfl) (by simp) ?_
          refine (AllReadyH.cons rfl (fun K hK => ?_) AllReadyH.nil)
          go_simp
          refine (HTO2.out Ab j cb _ hHeld.1.below).mono ?_
          rintro e wtg ⟨A2, c2, rfl, ho2, hb3⟩
          have HO2 := Lib.hid ho2
          dsimp only
          refine hK.out _ _ ?hSg2 (fun hHeld1 => ?_)
          case hSg2 => exact gr_step hHeld hb3
          clear hK K hb3 ho2
          (try simp only [Act.put, List.setIfInBounds_toArray, List.set_cons_zero, List.set_cons_succ, List.getElem_toArray, List.getElem_cons_zero, List.getElem_cons_succ])
          refine wpAnyH_ready (rs := [3]) (by kernel_rfl) (by simp) ?_
          refine (AllReadyH.cons rfl (fun K hK => ?_) AllReadyH.nil)
          go_simp
          refine (HRUN2.out bl0 Ab j cb true A2 c2 _ _ hHeld1.1.below ((HBY.out _ hHeld1.1.below).more hHeld1.1.below.size) HNB.out hcb (by omega) (b_yes HQOK.out) HO2.out).mono ?_
          rintro e wrg ⟨hsay, hb4⟩
          obtain ⟨Ag, ng, cg, Eg, rsg, rfl, hs3⟩ := run_res hsay
          have HSg := Lib.hid hs3
          dsimp only
          refine hK.out _ _ ?hSg3 (fun hHeld2 => ?_)
          case hSg3 => exact gr_step hHeld1 hb4
          have HDg := Lib.hid hHeld2
          clear hK K hb4 hsay hs3
          (try simp only [Act.put, List.setIfInBounds_toArray, List.set_cons_zero, List.set_cons_succ, List.getElem_toArray, List.getElem_cons_zero, List.getElem_cons_succ])
          refine wpAnyH_take (i := 4) (v := ?vg4) rfl (by kernel_rfl) (by kernel_rfl) (by kernel_rfl) (fun _ _ _ h => h) (Or.inl ⟨by rfl, ?hyg4⟩) (by assumption) ?restg4
          case hyg4 => (intro w_ hSw; (try dsimp only at hSw); obtain ⟨⟨_, r0_, r1_, r2_, r3_, q0_, q1_, q2_, m0_, m1_, m2_⟩, _⟩ := hSw; go_simp; (try with_reducible rfl))
          (try simp only [Act.put, List.setIfInBounds_toArray, List.set_cons_zero, List.set_cons_succ, List.getElem_toArray, List.getElem_cons_zero, List.getElem_cons_succ])
          refine wpAnyH_take (i := 5) (v := ?vg5) rfl (by kernel_rfl) (by kernel_rfl) (by kernel_rfl) (fun _ _ _ h => h) (Or.inl ⟨by rfl, ?hyg5⟩) (by assumption) ?restg5
          case hyg5 => (intro w_ hSw; (try dsimp only at hSw); obtain ⟨⟨_, r0_, r1_, r2_, r3_, q0_, q1_, q2_, m0_, m1_, m2_⟩, _⟩ := hSw; go_simp; (try with_reducible rfl))
          (try simp only [Act.put, List.setIfInBounds_toArray, List.set_cons_zero, List.set_cons_succ, List.getElem_toArray, List.getElem_cons_zero, List.getElem_cons_succ])
          refine wpAnyH_take (i := 6) (v := ?vg6) rfl (by kernel_rfl) (by kernel_rfl) (by kernel_rfl) (fun _ _ _ h => h) (Or.inl ⟨by rfl, ?hyg6⟩) (by assumption) ?restg6
          case hyg6 => (intro w_ hSw; (try dsimp only at hSw); obtain ⟨⟨_, r0_, r1_, r2_, r3_, q0_, q1_, q2_, m0_, m1_, m2_⟩, _⟩ := hSw; go_simp; (try with_reducible rfl))
          (try simp only [Act.put, List.setIfInBounds_toArray, List.set_cons_zero, List.set_cons_succ, List.getElem_toArray, List.getElem_cons_zero, List.getElem_cons_succ])
          refine wpAnyH_take (i := 7) (v := ?vg7) rfl (by kernel_rfl) (by kernel_rfl) (by kernel_rfl) (fun _ _ _ h => h) (Or.inl ⟨by rfl, ?hyg7⟩) (by assumption) ?restg7
          case hyg7 => (intro w_ hSw; (try dsimp only at hSw); obtain ⟨⟨_, r0_, r1_, r2_, r3_, q0_, q1_, q2_, m0_, m1_, m2_⟩, _⟩ := hSw; go_simp; (try with_reducible rfl))
          (try simp only [Act.put, List.setIfInBounds_toArray, List.set_cons_zero, List.set_cons_succ, List.getElem_toArray, List.getElem_cons_zero, List.getElem_cons_succ])
          refine wpAnyH_take (i := 8) (v := ?vg8) rfl (by kernel_rfl) (by kernel_rfl) (by kernel_rfl) (fun _ _ _ h => h) (Or.inl ⟨by rfl, ?hyg8⟩) (by assumption) ?restg8
          case hyg8 => (intro w_ hSw; (try dsimp only at hSw); obtain ⟨⟨_, r0_, r1_, r2_, r3_, q0_, q1_, q2_, m0_, m1_, m2_⟩, _⟩ := hSw; go_simp; (try with_reducible rfl))
          (try simp only [Act.put, List.setIfInBounds_toArray, List.set_cons_zero, List.set_cons_succ, List.getElem_toArray, List.getElem_cons_zero, List.getElem_cons_succ])
          refine wpAnyH_done (by kernel_rfl) ?_ _
          clear hHeld hHeld1 hHeld2 HO2
          -- ENDREG g
          -- RUNREG h 13 | ⟨⟨⟨_, r0_, r1_, r2_, r3_, q0_, q1_, q2_, m0_, m1_, m2_⟩, _⟩, _⟩ | fun w' => (GrS w X X2 per (.slice Ai ni ci) (.slice Ap np cp) (.slice At nt ct) verb (.slice Ab j cb) (.slice Aw nw cw) (.slice A8 (j + 1) c8) w' ∧ Below w9.heap.size w9 w') ∧ Below wrg.heap.size wrg w' | ⟨gr_step HDg.out (Below.refl _ _).drew, (Below.refl _ _).drew⟩ | HTO2.out A8 (j + 1) c8 _ hHeld.1.1.below | HRUN2.out (bl0 ++ [kz]) A8 (j + 1) c8 true A2 c2 _ _ hHeld1.1.1.below (HR9.out _ hHeld1.1.2) HML.out hc8 (by omega) (b_yes HQM.out) HO2.out | gr_step2
          go_upto_region 13 with fail
          refine wp_region_held_drew (S := fun w' => (GrS w X X2 per (.slice Ai ni ci) (.slice Ap np cp) (.slice At nt ct) verb (.slice Ab j cb) (.slice Aw nw cw) (.slice A8 (j + 1) c8) w' ∧ Below w9.heap.size w9 w') ∧ Below wrg.heap.size wrg w') (by kernel_rfl) ⟨gr_step HDg.out (Below.refl _ _).drew, (Below.refl _ _).drew⟩ (fun hHeld => ?_)
          refine wpAnyH_take (i := 0) (v := ?vh0) rfl (by kernel_rfl) (by kernel_rfl) (by kernel_rfl) (fun _ _ _ h => h) (Or.inl ⟨by rfl, ?hyh0⟩) (by assumption) ?resth0
          case hyh0 => (intro w_ hSw; (try dsimp only at hSw); obtain ⟨⟨⟨_, r0_, r1_, r2_, r3_, q0_, q1_, q2_, m0_, m1_, m2_⟩, _⟩, _⟩ := hSw; go_simp; (try with_reducible rfl))
          (try simp only [Act.put, List.setIfInBounds_toArray, List.set_cons_zero, List.set_cons_succ, List.getElem_toArray, List.getElem_cons_zero, List.getElem_cons_succ])
          refine wpAnyH_take (i := 1) (v := ?vh1) rfl (by kernel_rfl) (by kernel_rfl) (by kernel_rfl) (fun _ _ _ h => h) (Or.inl ⟨by rfl, ?hyh1⟩) (by assumption) ?resth1
          case hyh1 => (intro w_ hSw; (try dsimp only at hSw); obtain ⟨⟨⟨_, r0_, r1_, r2_, r3_, q0_, q1_, q2_, m0_, m1_, m2_⟩, _⟩, _⟩ := hSw; go_simp; (try with_reducible rfl))
          (try simp only [Act.put, List.setIfInBounds_toArray, List.set_cons_zero, List.set_cons_succ, List.getElem_toArray, List.getElem_cons_zero, List.getElem_cons_succ])
          refine wpAnyH_ready (rs := [2]) (by kernel_rfl) (by simp) ?_
          refine (AllReadyH.cons rfl (fun K hK => ?_) AllReadyH.nil)
          go_simp
          refine (HTO2.out A8 (j + 1) c8 _ hHeld.1.1.below).mono ?_
          rintro e wth ⟨A2, c2, rfl, ho2, hb3⟩
          have HO2 := Lib.hid ho2
          dsimp only
          refine hK.out _ _ ?hSh2 (fun hHeld1 => ?_)
          case hSh2 => exact gr_step2 hHeld hb3
          clear hK K hb3 ho2
          (try simp only [Act.put, List.setIfInBounds_toArray, List.set_cons_zero, List.set_cons_succ, List.getElem_toArray, List.getElem_cons_zero, List.getElem_cons_succ])
          refine wpAnyH_ready (rs := [3]) (by kernel_rfl) (by simp) ?_
          refine (AllReadyH.cons rfl (fun K hK => ?_) AllReadyH.nil)
          go_simp
          refine (HRUN2.out (bl0 ++ [kz]) A8 (j + 1) c8 true A2 c2 _ _ hHeld1.1.1.below (HR9.out _ hHeld1.1.2) HML.out hc8 (by omega) (b_yes HQM.out) HO2.out).mono ?_
          rintro e wrh ⟨hsay, hb4⟩
          obtain ⟨Ah, nh, ch, Eh, rsh, rfl, hs3⟩ := run_res hsay
          have HSh := Lib.hid hs3
          dsimp only
          refine hK.out _ _ ?hSh3 (fun hHeld2 => ?_)
          case hSh3 => exact gr_step2 hHeld1 hb4
          have HDh := Lib.hid hHeld2
          clear hK K hb4 hsay hs3
          (try simp only [Act.put, List.setIfInBounds_toArray, List.set_cons_zero, List.set_cons_succ, List.getElem_toArray, List.getElem_cons_zero, List.getElem_cons_succ])
          refine wpAnyH_take (i := 4) (v := ?vh4) rfl (by kernel_rfl) (by kernel_rfl) (by kernel_rfl) (fun _ _ _ h => h) (Or.inl ⟨by rfl, ?hyh4⟩) (by assumption) ?resth4
          case hyh4 => (intro w_ hSw; (try dsimp only at hSw); obtain ⟨⟨⟨_, r0_, r1_, r2_, r3_, q0_, q1_, q2_, m0_, m1_, m2_⟩, _⟩, _⟩ := hSw; go_simp; (try with_reducible rfl))
          (try simp only [Act.put, List.setIfInBounds_toArray, List.set_cons_zero, List.set_cons_succ, List.getElem_toArray, List.getElem_cons_zero, List.getElem_cons_succ])
          refine wpAnyH_take (i := 5) (v := ?vh5) rfl (by kernel_rfl) (by kernel_rfl) (by kernel_rfl) (fun _ _ _ h => h) (Or.inl ⟨by rfl, ?hyh5⟩) (by assumption) ?resth5
          case hyh5 => (intro w_ hSw; (try dsimp only at hSw); obtain ⟨⟨⟨_, r0_, r1_, r2_, r3_, q0_, q1_, q2_, m0_, m1_, m2_⟩, _⟩, _⟩ := hSw; go_simp; (try with_reducible rfl))
          (try simp only [Act.put, List.setIfInBounds_toArray, List.set_cons_zero, List.set_cons_succ, List.getElem_toArray, List.getElem_cons_zero, List.getElem_cons_succ])
          refine wpAnyH_take (i := 6) (v := ?vh6) rfl (by kernel_rfl) (by kernel_rfl) (by kernel_rfl) (fun _ _ _ h => h) (Or.inl ⟨by rfl, ?hyh6⟩) (by assumption) ?resth6
          case hyh6 => (intro w_ hSw; (try dsimp only at hSw); obtain ⟨⟨⟨_, r0_, r1_, r2_, r3_, q0_, q1_, q2_, m0_, m1_, m2_⟩, _⟩, _⟩ := hSw; go_simp; (try with_reducible rfl))
          (try simp only [Act.put, List.setIfInBounds_toArray, List.set_cons_zero, List.set_cons_succ, List.getElem_toArray, List.getElem_cons_zero, List.getElem_cons_succ])
          refine wpAnyH_take (i := 7) (v := ?vh7) rfl (by kernel_rfl) (by kernel_rfl) (by kernel_rfl) (fun _ _ _ h => h) (Or.inl ⟨by rfl, ?hyh7⟩) (by assumption) ?resth7
          case hyh7 => (intro w_ hSw; (try dsimp only at hSw); obtain ⟨⟨⟨_, r0_, r1_, r2_, r3_, q0_, q1_, q2_, m0_, m1_, m2_⟩, _⟩, _⟩ := hSw; go_simp; (try with_reducible rfl))
          (try simp only [Act.put, List.setIfInBounds_toArray, List.set_cons_zero, List.set_cons_succ, List.getElem_toArray, List.getElem_cons_zero, List.getElem_cons_succ])
          refine wpAnyH_take (i := 8) (v := ?vh8) rfl (by kernel_rfl) (by kernel_rfl) (by kernel_rfl) (fun _ _ _ h => h) (Or.inl ⟨by rfl, ?hyh8⟩) (by assumption) ?resth8
          case hyh8 => (intro w_ hSw; (try dsimp only at hSw); obtain ⟨⟨⟨_, r0_, r1_, r2_, r3_, q0_, q1_, q2_, m0_, m1_, m2_⟩, _⟩, _⟩ := hSw; go_simp; (try with_reducible rfl))
          (try simp only [Act.put, List.setIfInBounds_toArray, List.set_cons_zero, List.set_cons_succ, List.getElem_toArray, List.getElem_cons_zero, List.getElem_cons_succ])
          refine wpAnyH_done (by kernel_rfl) ?_ _
          clear hHeld hHeld1 hHeld2 HO2
          -- ENDREG h
          obtain ⟨ga1, ga2, ga3, ga4, ga5⟩ := HSg.out
          obtain ⟨gb1, gb2, gb3, gb4, gb5⟩ := HSh.out
          have hgh : Below wrg.heap.size wrg wrh := HDh.out.2
          have HBW := Lib.hid HDh.out.1.1.below
          have q1 := HDh.out.1.1.q1
          have hXl : X < wrh.heap.size := World.block_lt_of_cell? _ _ q1
          have HRA := Lib.hid ((ga1.below hgh).more hgh.size)
          have HRB := Lib.hid gb1
          have hia : ∀ i, i < ng → RowIn wrh wrh.heap.size (rsg.getD i default) := fun i hi => ((ga4 i hi).1.keep (Nat.le_refl _) hgh).more hgh.size
          have hlaw : ∀ x v, (x, v) ∈ sumsI verb bl0 (predQ wh) F → grpV j (sumsI verb (bl0 ++ [kz]) (predQ wh) F) (x.l.take j) = v := fun x v hm => by
            have h := grp_law (verb := verb) (bl := bl0) (k := kz) (p := predQ wh) (F := F) (by rw [HNB.out]; exact hj4) hm
            rw [HNB.out] at h
            exact h
          have hlong : j ≠ 0 → (sumsI verb bl0 (predQ wh) F).length ≤ (sumsI verb (bl0 ++ [kz]) (predQ wh) F).length := fun h => grp_len (by rw [HNB.out]; exact hj4) (fun e => h (by rw [← HNB.out, e]; rfl))
          have hlm := HLN2.out (bl0 ++ [kz])
          have hng : ng ≤ 1000 := Nat.le_trans ga3 (HLN2.out bl0)
          have c1 := res_cases ga5
          have c2 := res_cases gb5
          clear ga1 ga4 ga5 gb1 gb5 HSg HSh HDg HDh HG HR9 HTO2 HRUN2 HLN2 HQOK HQM hgh
          generalize sumsI verb bl0 (predQ wh) F = lq at *
          generalize sumsI verb (bl0 ++ [kz]) (predQ wh) F = lm at *
          rcases c1 with ⟨rfl, _⟩ | ⟨rfl, hma, hsa⟩
          · clear ga2 ga3 gb2 gb3 gb4 hia hlaw hlong hlm c2
            go_wp2_with fail
            go_ret
            exact ⟨rfl, HBW.out⟩
          · rcases c2 with ⟨rfl, _⟩ | ⟨rfl, hmb, hsb⟩
            · clear ga2 ga3 gb2 gb3 gb4 hia hlaw hlong hlm hma hsa
              go_wp2_with fail
              go_ret
              exact ⟨rfl, HBW.out⟩
            · have hnl : ng = lq.length := by
                have h := congrArg List.length hma
                simp only [List.length_map] at h
                omega
              have hml : nh = lm.length := by
                have h := congrArg List.length hmb
                simp only [List.length_map] at h
                omega
              have HA : Hid (∀ i, i < ng → (rsg.getD i default).n = j ∧ grpV j lm (rsg.getD i default).ks = (rsg.getD i default).val ∧ RdBy wrh wrh.heap.size (rsg.getD i default).A (rsg.getD i default).ks ∧ (rsg.getD i default).ks.length = j) := fun i hi => by
                obtain ⟨p, hp, h1, h2⟩ := row_of hma (j := i) (by omega)
                have h3 := hia i hi
                have h4 : (rsg.getD i default).ks.length = j := by rw [h1, List.length_take, l_len]; omega
                refine ⟨by rw [← h3.2.1, h4], ?_, h3.1, h4⟩
                rw [h1, h2]
                exact hlaw p.1 p.2 (List.mem_of_getElem? hp)
              have HB : Hid (∀ u, u < nh → (rsh.getD u default).n = j + 1 ∧ RdBy wrh wrh.heap.size (rsh.getD u default).A (rsh.getD u default).ks ∧ (rsh.getD u default).ks.length = j + 1 ∧ okM (rsh.getD u default).val ∧ j + 1 ≤ (rsh.getD u default).c ∧ ∀ ks, grpV j (lm.take (u + 1)) ks = grpV j (lm.take u) ks + if (rsh.getD u default).ks.take j = ks then (rsh.getD u default).val else 0) := fun u hu => by
                obtain ⟨p, hp, h1, h2⟩ := row_of hmb (j := u) (by omega)
                have h3 := gb4 u hu
                have h4 : (rsh.getD u default).ks.length = j + 1 := by rw [h1, List.length_take, l_len]; omega
                have h5 : (rsh.getD u default).n = j + 1 := by rw [← h3.1.2.1, h4]
                refine ⟨h5, h3.1.1, h4, by rw [h2]; exact hsb p (List.mem_of_getElem? hp), by rw [← h5]; exact h3.2, fun ks => ?_⟩
                have h6 : lm.take (u + 1) = lm.take u ++ [p] := by rw [List.take_add_one, hp]; rfl
                rw [h6, grpV_app, grpV_cons, h1, h2, List.take_take, Nat.min_eq_left (Nat.le_succ j)]
                show grpV j (lm.take u) ks + ((if p.1.l.take j = ks then p.2 else 0) + (0 : Int)) = _
                rw [Int.add_zero]
              have HSML : Hid (∀ u ks, u ≤ nh → grpV j (lm.take u) ks ≤ (u : Int) * 1000000000000 ∧ -((u : Int) * 1000000000000) ≤ grpV j (lm.take u) ks) := fun u ks hu => by
                have h := grpV_small j ks (l := lm.take u) (fun p hp => hsb p (List.mem_of_mem_take hp))
                rw [List.length_take, Nat.min_eq_left (by omega)] at h
                exact h
              have HLG : Hid (j ≠ 0 → ng ≤ nh) := fun h => by have := hlong h; omega
              have HMF : Hid (lm.take nh = lm) := List.take_of_length_le (by omega)
              have hnh : nh ≤ 1000 := by omega
              clear ga2 ga3 gb2 gb3 gb4 hia hlaw hlong hlm hma hsa hmb hsb hnl hml
              go_wp2_with fail
              go_loopw [85] (fun i y => ∃ p : Nat, p ≤ ng ∧ i = .int .i64 (p : Int) ∧ Below wrh.heap.size wrh y) (fun i _ => ng - (intOf i).toNat)
              case atStart => exact ⟨0, Nat.zero_le _, rfl, Below.refl _ _⟩
              case round =>
                obtain ⟨p, hp, rfl, hb⟩ := hrel
                have HBP := Lib.hid hb
                by_cases hlp : p < ng
                · have k4 : decide ((p : Int) < (ng : Int)) = true := by rw [decide_eq_true_eq]; omega
                  obtain ⟨ea1, ea2, ea3, ea4⟩ := HA.out p hlp
                  obtain ⟨ar, rfl, har, hrl, a0, aj⟩ := (HRA.out.below hb).row_at rrowC (fun _ => rfl) (by decide) hlp
                  have a1 := aj 1 (by decide) (by decide)
                  replace a0 : wr.cell? (ar.add (p * 2)) = some (.slice (rsg.getD p default).A (rsg.getD p default).n (rsg.getD p default).c) := a0
                  replace a1 : wr.cell? ⟨(ar.add (p * 2)).block, (ar.add (p * 2)).off + 1, none⟩ = some (.int .i64 (rsg.getD p default).val) := a1
                  clear aj hb
                  rw [ea1] at a0
                  generalize rsg.getD p default = ra at *
                  obtain ⟨rA, rn, rc, rks, rv⟩ := ra
                  simp only [] at a0 a1 ea1 ea2 ea3 ea4
                  have HE2 := Lib.hid ea2
                  have HE3 := Lib.hid ea3
                  have HE4 := Lib.hid ea4
                  clear ea1 ea2 ea3 ea4
                  have hbx := HBP.out.alloc HBP.out.size (.cells #[.slice rA j rc, .int .i64 rv] 68)
                  have hkx := Blk.new wr 68 #[.slice rA j rc, .int .i64 rv]
                  obtain ⟨yx, hyx⟩ : ∃ yx, wr.alloc (.cells #[.slice rA j rc, .int .i64 rv] 68) = yx := ⟨_, rfl⟩
                  rw [hyx] at hbx hkx
                  obtain ⟨XR, hXR⟩ : ∃ XR, wr.heap.size = XR := ⟨_, rfl⟩
                  rw [hXR] at hkx
                  have HBX := Lib.hid hbx
                  have HKX := Lib.hid hkx
                  have hXR2 := hkx.lt
                  clear hbx hkx
                  go_wp2_with fail
                  go_loopw [17, 91] (fun s i z => ∃ u : Nat, u ≤ nh ∧ i = .int .i64 (u : Int) ∧ s = .int .i64 (grpV j (lm.take u) rks) ∧ Below yx.heap.size yx z) (fun _ i _ => nh - (intOf i).toNat)
                  case atStart => exact ⟨0, Nat.zero_le _, rfl, rfl, Below.refl _ _⟩
                  case round =>
                    obtain ⟨u, hu, rfl, rfl, hz⟩ := hrel
                    have HBZ := Lib.hid (HBX.out.trans (hz.mono HBX.out.size))
                    have HKZ := Lib.hid (HKX.out.below hz HKX.out.lt)
                    have HZY := Lib.hid hz
                    clear hz
                    have c0 := HKZ.out.cell 0
                    have c1 := HKZ.out.cell 1
                    simp only [List.getElem?_toArray, List.getElem?_cons_zero, List.getElem?_cons_succ] at c0 c1
                    by_cases hlu : u < nh
                    · have k5 : decide ((u : Int) < (nh : Int)) = true := by rw [decide_eq_true_eq]; omega
                      obtain ⟨eb1, eb2, eb3, eb4, eb5, eb6⟩ := HB.out u hlu
                      obtain ⟨br, rfl, hbr, hrl2, b0, bj⟩ := (HRB.out.below HBZ.out).row_at rrowC (fun _ => rfl) (by decide) hlu
                      have b1 := bj 1 (by decide) (by decide)
                      replace b0 : wr.cell? (br.add (u * 2)) = some (.slice (rsh.getD u default).A (rsh.getD u default).n (rsh.getD u default).c) := b0
                      replace b1 : wr.cell? ⟨(br.add (u * 2)).block, (br.add (u * 2)).off + 1, none⟩ = some (.int .i64 (rsh.getD u default).val) := b1
                      clear bj
                      rw [eb1] at b0
                      have HST := Lib.hid (eb6 rks)
                      have hsm := HSML.out u rks hu
                      clear eb1 eb6
                      generalize rsh.getD u default = rb at *
                      obtain ⟨sA, sn, sc, sks, sv⟩ := rb
                      simp only [] at b0 b1 eb2 eb3 eb4 eb5
                      unfold okM at eb4
                      have hsc : j ≤ sc := by omega
                      have HE5 := Lib.hid eb2
                      have HE6 := Lib.hid eb3
                      clear eb2 eb3
                      have hb1 := HBZ.out.alloc HBZ.out.size (.cells #[.slice sA (j + 1) sc, .int .i64 sv] 68)
                      have hk1 := Blk.new wr 68 #[.slice sA (j + 1) sc, .int .i64 sv]
                      have hy1 := HZY.out.alloc HZY.out.size (.cells #[.slice sA (j + 1) sc, .int .i64 sv] 68)
                      have hx1 := HKZ.out.alloc (.cells #[.slice sA (j + 1) sc, .int .i64 sv] 68)
                      obtain ⟨z1, hz1⟩ : ∃ z1, wr.alloc (.cells #[.slice sA (j + 1) sc, .int .i64 sv] 68) = z1 := ⟨_, rfl⟩
                      rw [hz1] at hb1 hk1 hy1 hx1
                      obtain ⟨YR, hYR⟩ : ∃ YR, wr.heap.size = YR := ⟨_, rfl⟩
                      rw [hYR] at hk1
                      have HBZ1 := Lib.hid hb1
                      have HZY1 := Lib.hid hy1
                      have hXR3 := hx1.lt
                      have hYR3 := hk1.lt
                      have c0 := hx1.cell 0
                      have c1 := hx1.cell 1
                      have d0 := hk1.cell 0
                      have d1 := hk1.cell 1
                      simp only [List.getElem?_toArray, List.getElem?_cons_zero, List.getElem?_cons_succ] at c0 c1 d0 d1
                      have HSI : Hid (∀ y, Below wrh.heap.size wrh y → Calls Tryz.prog 30 #[.slice sA j sc, .slice rA j rc] y fun e w' => e = .returned (.bool (decide (sks.take j = rks))) ∧ ∃ k, w' = y.drewN k) := fun y hy =>
                        sameI_any (sks.take j) rks sA rA j sc rc y.heap.size y ((HE5.out.any (Nat.le_refl _) hy).take j) (HE3.out.any (Nat.le_refl _) hy) (by rw [List.length_take, HE6.out]; omega) HE4.out.symm (by omega)
                      clear hb1 hk1 hy1 hx1
                      have kn : (((j + 1 : Nat) : Int) != (j : Int) + 1) = false := by simp
                      generalize grpV j (lm.take u) rks = s at *
                      have hwr : IntKind.i64.wrap (s + sv) = s + sv := Go.IntWalk.i64_in _ ⟨by omega, by omega⟩
                      generalize hbb : decide (sks.take j = rks) = bb at *
                      have HBB := Lib.hid hbb
                      clear hbb hsm
                      -- REGION 25
                      go_upto_region 25 with fail
                      refine wp_region_held_drew (S := fun y : World => y.cell? ⟨XR, 0, none⟩ = some (.slice rA j rc) ∧ y.cell? ⟨YR, 0, none⟩ = some (.slice sA (j + 1) sc)) (by kernel_rfl) ⟨c0, d0⟩ (fun hHeld => ?_)
                      refine wpAnyH_take (i := 0) (v := ?vs0) rfl (by kernel_rfl) (by kernel_rfl) (by kernel_rfl) (fun _ _ _ h => h) (Or.inl ⟨by rfl, ?hys0⟩) (by assumption) ?rests0
                      case hys0 => (intro w_ hSw; (try dsimp only at hSw); obtain ⟨c0_, d0_⟩ := hSw; go_simp; (try with_reducible rfl))
                      (try simp only [Act.put, List.setIfInBounds_toArray, List.set_cons_zero, List.set_cons_succ, List.getElem_toArray, List.getElem_cons_zero, List.getElem_cons_succ])
                      refine wpAnyH_take (i := 1) (v := ?vs1) rfl (by kernel_rfl) (by kernel_rfl) (by kernel_rfl) (fun _ _ _ h => h) (Or.inl ⟨by rfl, ?hys1⟩) (by assumption) ?rests1
                      case hys1 => (intro w_ hSw; (try dsimp only at hSw); obtain ⟨c0_, d0_⟩ := hSw; go_simp; (try with_reducible rfl))
                      (try simp only [Act.put, List.setIfInBounds_toArray, List.set_cons_zero, List.set_cons_succ, List.getElem_toArray, List.getElem_cons_zero, List.getElem_cons_succ])
                      refine wpAnyH_take (i := 2) (v := ?vs2) rfl (by kernel_rfl) (by kernel_rfl) (by kernel_rfl) (fun _ _ _ h => h) (Or.inl ⟨by rfl, ?hys2⟩) (by assumption) ?rests2
                      case hys2 => (intro w_ hSw; (try dsimp only at hSw); obtain ⟨c0_, d0_⟩ := hSw; go_simp; (try with_reducible rfl))
                      (try simp only [Act.put, List.setIfInBounds_toArray, List.set_cons_zero, List.set_cons_succ, List.getElem_toArray, List.getElem_cons_zero, List.getElem_cons_succ])
                      refine wpAnyH_take (i := 3) (v := ?vs3) rfl (by kernel_rfl) (by kernel_rfl) (by kernel_rfl) (fun _ _ _ h => h) (Or.inl ⟨by rfl, ?hys3⟩) (by assumption) ?rests3
                      case hys3 => (intro w_ hSw; (try dsimp only at hSw); obtain ⟨c0_, d0_⟩ := hSw; go_simp; (try with_reducible rfl))
                      (try simp only [Act.put, List.setIfInBounds_toArray, List.set_cons_zero, List.set_cons_succ, List.getElem_toArray, List.getElem_cons_zero, List.getElem_cons_succ])
                      refine wpAnyH_take (i := 4) (v := ?vs4) rfl (by kernel_rfl) (by kernel_rfl) (by kernel_rfl) (fun _ _ _ h => h) (Or.inl ⟨by rfl, ?hys4⟩) (by assumption) ?rests4
                      case hys4 => (intro w_ hSw; (try dsimp only at hSw); obtain ⟨c0_, d0_⟩ := hSw; go_simp; (try with_reducible rfl))
                      (try simp only [Act.put, List.setIfInBounds_toArray, List.set_cons_zero, List.set_cons_succ, List.getElem_toArray, List.getElem_cons_zero, List.getElem_cons_succ])
                      refine wpAnyH_take (i := 5) (v := ?vs5) rfl (by kernel_rfl) (by kernel_rfl) (by kernel_rfl) (fun _ _ _ h => h) (Or.inl ⟨by rfl, ?hys5⟩) (by assumption) ?rests5
                      case hys5 => (intro w_ hSw; (try dsimp only at hSw); obtain ⟨c0_, d0_⟩ := hSw; go_simp; (try with_reducible rfl))
                      (try simp only [Act.put, List.setIfInBounds_toArray, List.set_cons_zero, List.set_cons_succ, List.getElem_toArray, List.getElem_cons_zero, List.getElem_cons_succ])
                      refine wpAnyH_take (i := 6) (v := ?vs6) rfl (by kernel_rfl) (by kernel_rfl) (by kernel_rfl) (fun _ _ _ h => h) (Or.inl ⟨by rfl, ?hys6⟩) (by assumption) ?rests6
                      case hys6 => (intro w_ hSw; (try dsimp only at hSw); obtain ⟨c0_, d0_⟩ := hSw; go_simp; (try with_reducible rfl))
                      (try simp only [Act.put, List.setIfInBounds_toArray, List.set_cons_zero, List.set_cons_succ, List.getElem_toArray, List.getElem_cons_zero, List.getElem_cons_succ])
                      refine wpAnyH_take (i := 7) (v := ?vs7) rfl (by kernel_rfl) (by kernel_rfl) (by kernel_rfl) (fun _ _ _ h => h) (Or.inl ⟨by rfl, ?hys7⟩) (by assumption) ?rests7
                      case hys7 => (intro w_ hSw; (try dsimp only at hSw); obtain ⟨c0_, d0_⟩ := hSw; go_simp; (try with_reducible rfl))
                      (try simp only [Act.put, List.setIfInBounds_toArray, List.set_cons_zero, List.set_cons_succ, List.getElem_toArray, List.getElem_cons_zero, List.getElem_cons_succ])
                      refine wpAnyH_ready (rs := [8]) (by kernel_rfl) (by simp) ?_
                      refine (AllReadyH.cons rfl (fun K hK => ?_) AllReadyH.nil)
                      go_simp
                      refine (HSI.out z1.drew (HBZ1.out.trans (Below.refl _ z1).drew)).mono ?_
                      rintro e z2 ⟨rfl, hz2⟩
                      have hbz2 : Below z1.heap.size z1 z2 := by obtain ⟨kk, rfl⟩ := hz2; exact below_drewN (Below.refl _ z1).drew kk
                      have HZ2 := Lib.hid hbz2
                      have c0z := (hbz2.cell (World.block_lt_of_cell? _ _ c0)).trans c0
                      have c1z := (hbz2.cell (World.block_lt_of_cell? _ _ c1)).trans c1
                      have d0z := (hbz2.cell (World.block_lt_of_cell? _ _ d0)).trans d0
                      have d1z := (hbz2.cell (World.block_lt_of_cell? _ _ d1)).trans d1
                      dsimp only
                      refine hK.out _ _ ?hSs8 (fun hHeld1 => ?_)
                      case hSs8 => exact ⟨c0z, d0z⟩
                      clear hK K hz2 hbz2 c0 c1 d0 d1
                      (try simp only [Act.put, List.setIfInBounds_toArray, List.set_cons_zero, List.set_cons_succ, List.getElem_toArray, List.getElem_cons_zero, List.getElem_cons_succ])
                      refine wpAnyH_done (by kernel_rfl) ?_ _
                      clear hHeld hHeld1
                      -- END 25
                      have HFB := Lib.hid (HZY1.out.trans (HZ2.out.mono HZY1.out.size))
                      have lz1 := World.block_lt_of_cell? _ _ c0z
                      have lz2 := World.block_lt_of_cell? _ _ d0z
                      cases bb with
                      | false =>
                        go_wp2_with fail
                        go_roundw
                        case rel => exact ⟨u + 1, by omega, by go_num, by rw [HST.out, if_neg (of_decide_eq_false HBB.out), Int.add_zero], HFB.out⟩
                        case measure => simp [intOf]; omega
                      | true =>
                        go_wp2_with fail
                        go_roundw
                        case rel => exact ⟨u + 1, by omega, by go_num, by rw [HST.out, if_pos (of_decide_eq_true HBB.out)], HFB.out⟩
                        case measure => simp [intOf]; omega
                    · have k5 : decide ((u : Int) < (nh : Int)) = false := by rw [decide_eq_false_iff_not]; omega
                      obtain rfl : u = nh := by omega
                      have hsum : grpV j (lm.take u) rks = rv := by rw [HMF.out]; exact HE2.out
                      rw [hsum]
                      have krv : (rv != rv) = false := by simp
                      have HFB := Lib.hid HBZ.out
                      clear hsum
                      go_wp2_with fail
                      go_roundw
                      case rel => exact ⟨p + 1, by omega, by go_num, HFB.out⟩
                      case measure => simp [intOf]; omega
                · have k4 : decide ((p : Int) < (ng : Int)) = false := by rw [decide_eq_false_iff_not]; omega
                  have q1' := (hb.cell (p := ⟨X, 1, none⟩) hXl).trans q1
                  have hXl2 : X < wr.heap.size := World.block_lt_of_cell? _ _ q1'
                  have HFB := Lib.hid (below_two HBW.out hb)
                  clear hb
                  by_cases hlong : ng ≤ nh
                  · have k6 : decide ((ng : Int) ≤ (nh : Int)) = true := by rw [decide_eq_true_eq]; omega
                    go_wp2_with fail
                    go_ret
                    exact ⟨rfl, HFB.out⟩
                  · have k6 : decide ((ng : Int) ≤ (nh : Int)) = false := by rw [decide_eq_false_iff_not]; omega
                    have hj0 : j = 0 := by
                      by_cases h : j = 0
                      · exact h
                      · exact absurd (HLG.out h) hlong
                    subst hj0
                    go_wp2_with fail
                    go_ret
                    exact ⟨rfl, HFB.out⟩
end Go.Proofs.YtfnlddloalineaaGreatDoor
