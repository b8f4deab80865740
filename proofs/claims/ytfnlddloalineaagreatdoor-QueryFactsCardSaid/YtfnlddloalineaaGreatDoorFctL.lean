/-
  The law QueryFacts. (printed by wip/tools/gen_fctl.py)
-/
import Derived.Test.YtfnlddloalineaaGreatDoorFct2
import Derived.Test.YtfnlddloalineaaGreatDoorFew
import Derived.Test.YtfnlddloalineaaGreatDoorHld3
import Derived.Test.YtfnlddloalineaaGreatDoorQryB2
namespace Go.Proofs.YtfnlddloalineaaGreatDoor
open Go.RowKit
set_option linter.unusedVariables false
set_option linter.unusedSimpArgs false
set_option maxRecDepth 100000
/-- the law's two arguments in their boxes -/
structure QfS (w : World) (X : Nat) (per : Int) (vi vp vt : Value) (verb : Int) (vb vw : Value) (x : World) : Prop where
  below : Below w.heap.size w x
  r0 : x.cell? ⟨w.heap.size, 0, none⟩ = some (.int .i64 per)
  r1 : x.cell? ⟨w.heap.size, 1, none⟩ = some vi
  r2 : x.cell? ⟨w.heap.size, 2, none⟩ = some vp
  r3 : x.cell? ⟨w.heap.size, 3, none⟩ = some vt
  q0 : x.cell? ⟨X, 0, none⟩ = some (.int .i64 verb)
  q1 : x.cell? ⟨X, 1, none⟩ = some vb
  q2 : x.cell? ⟨X, 2, none⟩ = some vw
theorem QfS.same {w : World} {X : Nat} {per : Int} {vi vp vt : Value} {verb : Int} {vb vw : Value} {x y : World} (h : QfS w X per vi vp vt verb vb vw x) (hb : Below x.heap.size x y) : QfS w X per vi vp vt verb vb vw y := by
  have k : ∀ {a : Addr} {v : Value}, x.cell? a = some v → y.cell? a = some v := fun hc => (hb.cell (World.block_lt_of_cell? _ _ hc)).trans hc
  exact ⟨below_two h.below hb, k h.r0, k h.r1, k h.r2, k h.r3, k h.q0, k h.q1, k h.q2⟩
theorem QfS.lt {w : World} {X : Nat} {per : Int} {vi vp vt : Value} {verb : Int} {vb vw : Value} {x : World} (h : QfS w X per vi vp vt verb vb vw x) : w.heap.size < x.heap.size ∧ X < x.heap.size := ⟨World.block_lt_of_cell? _ _ h.r0, World.block_lt_of_cell? _ _ h.q0⟩
set_option maxHeartbeats 16000000 in
theorem lawFacts (per : Int) (its : List SItem) (pos : List SPost) (Ai Ap At : Option Addr) (ni ci np cp nt ct : Nat) (q : SQry) (Ab Aw : Option Addr) (nb cb nw cw : Nat) (w : World) (hE : Env w) (hEE : EnvE w) (hri : Reads w w.heap.size 7 Ai ni (its.flatMap itemC)) (hli : its.length = ni) (hmi : ni ≤ 9223372036854775807) (hrp : Reads w w.heap.size 5 Ap np (pos.flatMap postC)) (hlp : pos.length = np) (hmp : np ≤ 9223372036854775807) (hpq : ∀ x ∈ pos, PostIn w w.heap.size x)
    (hb : RdBy w w.heap.size Ab q.by_) (hnb : q.by_.length = nb) (hcb : nb ≤ cb) (hw : Reads w w.heap.size 3 Aw nw (cndC q.wh)) (hn1 : nb ≤ 9223372036854775807) (hn2 : nw ≤ 9223372036854775807) (hn3 : nw ≤ cw) :
    Calls Tryz.prog 6 #[.agg #[.int .i64 per, .slice Ai ni ci, .slice Ap np cp, .slice At nt ct], .agg #[.int .i64 q.verb, .slice Ab nb cb, .slice Aw nw cw]] w fun e w' => e = .returned (.bool true) ∧ Below w.heap.size w w' := by
  have HEB : Hid (∀ w_, Below w.heap.size w w_ → Env w_) := fun w_ h => hE.after h
  have HEEB : Hid (∀ w_, Below w.heap.size w w_ → EnvE w_) := fun w_ h => hEE.below h hE.size
  have hnw : q.wh.length = nw := by have := hw.1; rw [cndC_len] at this; omega
  have HNW := Lib.hid hnw
  have HNB := Lib.hid hnb
  have HBY : Hid (∀ x, Below w.heap.size w x → RdBy x w.heap.size Ab q.by_) := fun x h => hb.low (Nat.le_refl _) (Nat.le_refl _) h
  have HWH : Hid (∀ x, Below w.heap.size w x → Reads x w.heap.size 3 Aw nw (cndC q.wh)) := fun x h => hw.lowQ (Nat.le_refl _) (Nat.le_refl _) h
  have HRI : Hid (∀ x, Below w.heap.size w x → Reads x w.heap.size 7 Ai ni (its.flatMap itemC)) := fun x h => hri.lowQ (Nat.le_refl _) (Nat.le_refl _) h
  have HRP : Hid (∀ x, Below w.heap.size w x → Reads x w.heap.size 5 Ap np (pos.flatMap postC)) := fun x h => hrp.lowQ (Nat.le_refl _) (Nat.le_refl _) h
  have HPI : Hid (∀ x, Below w.heap.size w x → ∀ p, p ∈ pos → PostIn x w.heap.size p) := fun x h p hp => ⟨(hpq p hp).1.lowQ (Nat.le_refl _) (Nat.le_refl _) h, (hpq p hp).2⟩
  have HFW : Hid (∀ x, Below w.heap.size w x → Calls Tryz.prog 16 #[.agg #[.int .i64 per, .slice Ai ni ci, .slice Ap np cp, .slice At nt ct], .agg #[.int .i64 q.verb, .slice Ab nb cb, .slice Aw nw cw]] x fun e w' => FewSays its pos nb nw e ∧ Below x.heap.size x w') := fun x h => few_any per q.verb its pos Ai Ap At Ab Aw ni ci np cp nt ct nb cb nw cw w.heap.size x (HRI.out x h) (HRP.out x h) (HPI.out x h) h.size hli hlp hmi hmp
  have HLI := Lib.hid hli
  have HLP := Lib.hid hlp
  obtain ⟨okb, hokb⟩ : ∃ b : Bool, (b = true ↔ OkQ q) := by
    by_cases h : OkQ q
    · exact ⟨true, b_yes h⟩
    · exact ⟨false, b_no h⟩
  have HOKB := Lib.hid hokb
  have h1 := (Below.refl w.heap.size w).alloc (Nat.le_refl _) (.cells (#[.int .i64 per, .slice Ai ni ci, .slice Ap np cp, .slice At nt ct] : Array Value) 43)
  have k1 := Blk.new w 43 #[.int .i64 per, .slice Ai ni ci, .slice Ap np cp, .slice At nt ct]
  obtain ⟨wy, hwy⟩ : ∃ wy, w.alloc (.cells (#[.int .i64 per, .slice Ai ni ci, .slice Ap np cp, .slice At nt ct] : Array Value) 43) = wy := ⟨_, rfl⟩
  rw [hwy] at h1 k1
  have h2 := h1.alloc h1.size (.cells (#[.int .i64 q.verb, .slice Ab nb cb, .slice Aw nw cw] : Array Value) 32)
  have k2 := Blk.new wy 32 #[.int .i64 q.verb, .slice Ab nb cb, .slice Aw nw cw]
  have k3 := k1.alloc (.cells (#[.int .i64 q.verb, .slice Ab nb cb, .slice Aw nw cw] : Array Value) 32)
  obtain ⟨wz, hwz⟩ : ∃ wz, wy.alloc (.cells (#[.int .i64 q.verb, .slice Ab nb cb, .slice Aw nw cw] : Array Value) 32) = wz := ⟨_, rfl⟩
  rw [hwz] at h2 k2 k3
  obtain ⟨X, hX⟩ : ∃ X, wy.heap.size = X := ⟨_, rfl⟩
  rw [hX] at k2
  have HS0 : Hid (QfS w X per (.slice Ai ni ci) (.slice Ap np cp) (.slice At nt ct) q.verb (.slice Ab nb cb) (.slice Aw nw cw) wz) := ⟨h2, k3.cell 0, k3.cell 1, k3.cell 2, k3.cell 3, k2.cell 0, k2.cell 1, k2.cell 2⟩
  clear hE hEE hri hrp hpq hb hw hnw hli hlp hnb hokb h1 k1 h2 k2 k3
  have HTO : Hid (nw ≤ 30 → ∀ x, Below w.heap.size w x → Calls Tryz.prog 18 #[.agg #[.int .i64 q.verb, .slice Ab nb cb, .slice Aw nw cw]] x fun e w' => ∃ A' c', e = .returned (.agg #[.int .i64 q.verb, .slice Ab nb cb, .slice A' nw c']) ∧ w'.ownsRow x.heap.size 95 3 (.slice A' nw c') nw (cndC q.wh) ∧ Below x.heap.size x w') := fun hf x h =>
    to_any q.verb q.wh Ab Aw nb nw cb cw w.heap.size x (HWH.out x h) h.size (by omega)
  have HVA : Hid (nb ≤ 10 → ∀ A2 c2 x b, Below w.heap.size w x → x.ownsRow b 95 3 (.slice A2 nw c2) nw (cndC q.wh) → Calls Tryz.prog 20 #[.agg #[.int .i64 q.verb, .slice Ab nb cb, .slice A2 nw c2]] x fun e w' => e = .returned (.bool okb) ∧ Below x.heap.size x w') := fun hf A2 c2 x b h ho => by
    by_cases hok : OkQ q
    · rw [HOKB.out.2 hok]
      exact valid_yes q Ab A2 nb nw cb c2 x.heap.size x hok ((HBY.out x h).more h.size) HNB.out.symm hcb (Reads.of_own ho) (Nat.le_refl _) (by omega)
    · rw [bfalse HOKB.out hok]
      exact valid_no q Ab A2 nb nw cb c2 x.heap.size x hok ((HBY.out x h).more h.size) HNB.out.symm hcb (Reads.of_own ho) (Nat.le_refl _) (by omega)
  have HRV : Hid (nb ≤ 10 ∧ nw ≤ 30 → ∀ x, Below w.heap.size w x → Calls Tryz.prog 21 #[.agg #[.int .i64 q.verb, .slice Ab nb cb, .slice Aw nw cw]] x fun e w' => e = .returned (.bool okb) ∧ Below x.heap.size x w') := fun hf x h => by
    refine (rvalid_any q Ab Aw nb nw cb cw w.heap.size x (HBY.out x h) HNB.out.symm hcb (HWH.out x h) h.size (by omega) (by omega)).mono ?_
    rintro e w' ⟨⟨b, rfl, hbq⟩, hb⟩
    refine ⟨?_, hb⟩
    by_cases hok : OkQ q
    · rw [HOKB.out.2 hok, hbq.2 hok]
    · rw [bfalse HOKB.out hok, bfalse hbq hok]
  have HOC : Hid (okb = true → ∀ c, c ∈ q.wh → okCnd c) := fun h => (HOKB.out.1 h).cn
  have HHD : Hid (nb ≤ 10 → nw ≤ 30 → ∀ (x : SFact) A2 c2 y b, Below w.heap.size w y → y.ownsRow b 95 3 (.slice A2 nw c2) nw (cndC q.wh) → Calls Tryz.prog 24 #[.agg #[.int .i64 q.verb, .slice Ab nb cb, .slice A2 nw c2], fctV x] y fun e w' => e = .returned (.bool (okb && q.wh.all fun c => cndB c x)) ∧ Below y.heap.size y w') := fun hf1 hf2 x A2 c2 y b h ho =>
    holds_any x q.verb q.wh okb Ab A2 nb nw cb c2 y.heap.size y (Nat.le_refl _) (Reads.of_own ho) (by omega) HOC.out (fun y2 hy => HVA.out hf1 A2 c2 y2 b (below_two h hy) (own_below ho hy))
  have HHR : Hid (nb ≤ 10 → nw ≤ 30 → ∀ (x : SFact) y, Below w.heap.size w y → Calls Tryz.prog 25 #[.agg #[.int .i64 q.verb, .slice Ab nb cb, .slice Aw nw cw], fctV x] y fun e w' => e = .returned (.bool (okb && q.wh.all fun c => cndB c x)) ∧ Below y.heap.size y w') := fun hf1 hf2 x y h =>
    rholds_any x q.verb q.wh okb Ab Aw nb nw cb cw w.heap.size y h.size (HWH.out y h) (by omega) HOC.out (fun y2 hy => HRV.out ⟨hf1, hf2⟩ y2 (below_two h hy))
  clear HVA HRV HOC HBY HWH HOKB HNW HNB
  generalize cndC q.wh = LW at *
  generalize (fun x : SFact => okb && q.wh.all fun c => cndB c x) = RBF at *
  generalize q.wh = wh at *
  generalize q.verb = verb at *
  have r0 := HS0.out.r0
  have r1 := HS0.out.r1
  have r2 := HS0.out.r2
  have r3 := HS0.out.r3
  have q0 := HS0.out.q0
  have q1 := HS0.out.q1
  have q2 := HS0.out.q2
  obtain ⟨l1, l2⟩ := HS0.out.lt
  go_enter Tryz.func6, Tryz.ntmps6
  go_wp2_with fail
  refine (awake_true _ (HEB.out _ HS0.out.below) (HEEB.out _ HS0.out.below)).mono ?_
  rintro e w1 ⟨rfl, hb⟩
  have HS := Lib.hid (HS0.out.same hb)
  clear hb HS0 r0 r1 r2 r3 q0 q1 q2 l1 l2 hwz hwy
  have r0 := HS.out.r0
  have r1 := HS.out.r1
  have r2 := HS.out.r2
  have r3 := HS.out.r3
  have q0 := HS.out.q0
  have q1 := HS.out.q1
  have q2 := HS.out.q2
  obtain ⟨l1, l2⟩ := HS.out.lt
  go_wp2_with fail
  refine (HFW.out _ HS.out.below).mono ?_
  rintro e w2 ⟨hfew, hb⟩
  obtain ⟨fb, rfl, hfr⟩ := hfew
  have HS2 := Lib.hid (HS.out.same hb)
  clear hb HS r0 r1 r2 r3 q0 q1 q2 l1 l2
  have HS := HS2
  clear HS2
  have r0 := HS.out.r0
  have r1 := HS.out.r1
  have r2 := HS.out.r2
  have r3 := HS.out.r3
  have q0 := HS.out.q0
  have q1 := HS.out.q1
  have q2 := HS.out.q2
  obtain ⟨l1, l2⟩ := HS.out.lt
  cases fb with
  | false =>
    go_wp2_with fail
    refine (awake_true _ (HEB.out _ HS.out.below) (HEEB.out _ HS.out.below)).mono ?_
    rintro e w3 ⟨rfl, hb⟩
    have HSF := Lib.hid (HS.out.same hb).below
    clear hb
    go_wp2_with fail
    go_ret
    exact ⟨rfl, HSF.out⟩
  | true =>
    have HFR := Lib.hid (hfr rfl)
    clear hfr
    have hb10 := HFR.out.lb
    have hw30 := HFR.out.lw
    have hfl := facts_len HFR.out.li HFR.out.lp HFR.out.lq
    have HF1 : Hid (∀ x, Below w.heap.size w x → Calls Tryz.prog 22 #[.agg #[.int .i64 per, .slice Ai ni ci, .slice Ap np cp, .slice At nt ct]] x fun e w' => ∃ A c, e = .returned (.slice A (factsL its pos).length c) ∧ w'.ownsRow x.heap.size 56 6 (.slice A (factsL its pos).length c) (factsL its pos).length (fctsC (factsL its pos)) ∧ Below x.heap.size x w') := fun x h =>
      facts_any per its pos Ai Ap At ni ci np cp nt ct w.heap.size x (HRI.out x h) (HRP.out x h) (HPI.out x h) h.size HLI.out HLP.out (by have := HFR.out.li; have := HLI.out; omega) (by have := HFR.out.lp; have := HLP.out; omega) HFR.out.lq
    have HF2 : Hid (∀ x, Below w.heap.size w x → Calls Tryz.prog 23 #[.agg #[.int .i64 per, .slice Ai ni ci, .slice Ap np cp, .slice At nt ct]] x fun e w' => ∃ A c, e = .returned (.slice A (factsL its pos).length c) ∧ w'.ownsRow x.heap.size 55 6 (.slice A (factsL its pos).length c) (factsL its pos).length (fctsC (factsL its pos)) ∧ Below x.heap.size x w') := fun x h =>
      rfacts_any per its pos Ai Ap At ni ci np cp nt ct w.heap.size x (HRI.out x h) (HRP.out x h) (HPI.out x h) h.size HLI.out HLP.out (by have := HFR.out.li; have := HLI.out; omega) (by have := HFR.out.lp; have := HLP.out; omega) HFR.out.lq
    clear HFR HRI HRP HPI HLI HLP HFW
    generalize factsL its pos = F at *
    obtain ⟨n, hn⟩ : ∃ n, F.length = n := ⟨_, rfl⟩
    rw [hn] at HF1 HF2 hfl
    have HFN := Lib.hid hn
    clear hn
    go_upto_region 3 with fail
    refine wp_region_held_drew (S := fun w' => QfS w X per (.slice Ai ni ci) (.slice Ap np cp) (.slice At nt ct) verb (.slice Ab nb cb) (.slice Aw nw cw) w') (by kernel_rfl) (HS.out.same (Below.refl _ _).drew) (fun hHeld => ?_)
    refine wpAnyH_take (i := 0) (v := ?vf0) rfl (by kernel_rfl) (by kernel_rfl) (by kernel_rfl) (fun _ _ _ h => h) (Or.inl ⟨by rfl, ?hyf0⟩) (by assumption) ?restf0
    case hyf0 => (intro w_ hSw; (try dsimp only at hSw); obtain ⟨_, r0_, r1_, r2_, r3_, q0_, q1_, q2_⟩ := hSw; go_simp; (try with_reducible rfl))
    (try simp only [Act.put, List.setIfInBounds_toArray, List.set_cons_zero, List.set_cons_succ, List.getElem_toArray, List.getElem_cons_zero, List.getElem_cons_succ])
    refine wpAnyH_take (i := 2) (v := ?vf2) rfl (by kernel_rfl) (by kernel_rfl) (by kernel_rfl) (fun _ _ _ h => h) (Or.inl ⟨by rfl, ?hyf2⟩) (by assumption) ?restf2
    case hyf2 => (intro w_ hSw; (try dsimp only at hSw); obtain ⟨_, r0_, r1_, r2_, r3_, q0_, q1_, q2_⟩ := hSw; go_simp; (try with_reducible rfl))
    (try simp only [Act.put, List.setIfInBounds_toArray, List.set_cons_zero, List.set_cons_succ, List.getElem_toArray, List.getElem_cons_zero, List.getElem_cons_succ])
    refine wpAnyH_ready (rs := [1]) (by kernel_rfl) (by simp) ?_
    refine AllReadyH.cons rfl (fun K hK => ?_) AllReadyH.nil
    go_simp
    go_wp2_with (go_at_call 22; refine (HF1.out _ hHeld.below).mono ?_; rintro e w3 ⟨A1, e1, rfl, ho1, hb3⟩)
    refine hK.out _ _ ?hSf1 (fun hHeldf1 => ?_)
    case hSf1 => exact hHeld.same hb3
    clear hK K
    (try simp only [Act.put, List.setIfInBounds_toArray, List.set_cons_zero, List.set_cons_succ, List.getElem_toArray, List.getElem_cons_zero, List.getElem_cons_succ])
    refine wpAnyH_ready (rs := [3]) (by kernel_rfl) (by simp) ?_
    refine AllReadyH.cons rfl (fun K hK => ?_) AllReadyH.nil
    go_simp
    go_wp2_with (go_at_call 23; refine (HF2.out _ hHeldf1.below).mono ?_; rintro e w4 ⟨A2, e2, rfl, ho2, hb4⟩)
    refine hK.out _ _ ?hSf3 (fun hHeldf3 => ?_)
    case hSf3 => exact hHeldf1.same hb4
    clear hK K
    (try simp only [Act.put, List.setIfInBounds_toArray, List.set_cons_zero, List.set_cons_succ, List.getElem_toArray, List.getElem_cons_zero, List.getElem_cons_succ])
    refine wpAnyH_take (i := 4) (v := ?vf4) rfl (by kernel_rfl) (by kernel_rfl) (by kernel_rfl) (fun _ _ _ h => h) (Or.inl ⟨by rfl, ?hyf4⟩) (by assumption) ?restf4
    case hyf4 => (intro w_ hSw; (try dsimp only at hSw); obtain ⟨_, r0_, r1_, r2_, r3_, q0_, q1_, q2_⟩ := hSw; go_simp; (try with_reducible rfl))
    (try simp only [Act.put, List.setIfInBounds_toArray, List.set_cons_zero, List.set_cons_succ, List.getElem_toArray, List.getElem_cons_zero, List.getElem_cons_succ])
    refine wpAnyH_take (i := 5) (v := ?vf5) rfl (by kernel_rfl) (by kernel_rfl) (by kernel_rfl) (fun _ _ _ h => h) (Or.inl ⟨by rfl, ?hyf5⟩) (by assumption) ?restf5
    case hyf5 => (intro w_ hSw; (try dsimp only at hSw); obtain ⟨_, r0_, r1_, r2_, r3_, q0_, q1_, q2_⟩ := hSw; go_simp; (try with_reducible rfl))
    (try simp only [Act.put, List.setIfInBounds_toArray, List.set_cons_zero, List.set_cons_succ, List.getElem_toArray, List.getElem_cons_zero, List.getElem_cons_succ])
    refine wpAnyH_done (by kernel_rfl) ?_ _
    have HS4 := Lib.hid hHeldf3
    have HO1 := Lib.hid (Reads.of_own (own_below ho1 hb4))
    have HO2 := Lib.hid (Reads.of_own ho2)
    clear hHeld hHeldf1 hHeldf3 ho1 ho2 hb3 hb4 HS r0 r1 r2 r3 q0 q1 q2 l1 l2 HF1 HF2
    have hnn : ((n : Int) != (n : Int)) = false := by simp
    go_wp2_with fail
    go_loopw [28] (fun i y => ∃ k : Nat, k ≤ n ∧ i = .int .i64 k ∧ Below w4.heap.size w4 y) (fun i _ => n - (intOf i).toNat)
    case atStart => exact ⟨0, by omega, rfl, Below.refl _ _⟩
    case round =>
      obtain ⟨k, hk, rfl, hby⟩ := hrel
      by_cases hlk : k < n
      · have k3 : decide ((k : Int) < (n : Int)) = true := by rw [decide_eq_true_eq]; omega
        have k4 : (k : Int) < (n : Int) := by omega
        obtain ⟨ad, rfl, had, hkl, a0, aj⟩ := (HO1.out).row_at fctC (fun _ => rfl) (by decide) hlk
        obtain ⟨bd, rfl, hbd, _, b0, bj⟩ := (HO2.out).row_at fctC (fun _ => rfl) (by decide) hlk
        have a1 := aj 1 (by decide) (by decide)
        have a2 := aj 2 (by decide) (by decide)
        have a3 := aj 3 (by decide) (by decide)
        have a4 := aj 4 (by decide) (by decide)
        have a5 := aj 5 (by decide) (by decide)
        have b1 := bj 1 (by decide) (by decide)
        have b2 := bj 2 (by decide) (by decide)
        have b3 := bj 3 (by decide) (by decide)
        have b4 := bj 4 (by decide) (by decide)
        have b5 := bj 5 (by decide) (by decide)
        clear aj bj
        generalize F.getD k default = ft at *
        have HH1 : Hid (∀ A2 c2 y b, Below w.heap.size w y → y.ownsRow b 95 3 (.slice A2 nw c2) nw LW → Calls Tryz.prog 24 #[.agg #[.int .i64 verb, .slice Ab nb cb, .slice A2 nw c2], fctV ft] y fun e w' => e = .returned (.bool (okb && wh.all fun c => cndB c ft)) ∧ Below y.heap.size y w') := fun A2 c2 y b h ho => HHD.out hb10 hw30 ft A2 c2 y b h ho
        have HH2 : Hid (∀ y, Below w.heap.size w y → Calls Tryz.prog 25 #[.agg #[.int .i64 verb, .slice Ab nb cb, .slice Aw nw cw], fctV ft] y fun e w' => e = .returned (.bool (okb && wh.all fun c => cndB c ft)) ∧ Below y.heap.size y w') := fun y h => HHR.out hb10 hw30 ft y h
        generalize (okb && wh.all fun c => cndB c ft) = RB at *
        obtain ⟨acc, ent, par, kind, dat, amt⟩ := ft
        replace a0 : w4.cell? (ad.add (k * 6)) = some (.int .i64 acc) := a0
        replace b0 : w4.cell? (bd.add (k * 6)) = some (.int .i64 acc) := b0
        replace a1 : w4.cell? ⟨(ad.add (k * 6)).block, (ad.add (k * 6)).off + 1, none⟩ = some (.int .i64 ent) := a1
        replace b1 : w4.cell? ⟨(bd.add (k * 6)).block, (bd.add (k * 6)).off + 1, none⟩ = some (.int .i64 ent) := b1
        replace a2 : w4.cell? ⟨(ad.add (k * 6)).block, (ad.add (k * 6)).off + 2, none⟩ = some (.int .i64 par) := a2
        replace b2 : w4.cell? ⟨(bd.add (k * 6)).block, (bd.add (k * 6)).off + 2, none⟩ = some (.int .i64 par) := b2
        replace a3 : w4.cell? ⟨(ad.add (k * 6)).block, (ad.add (k * 6)).off + 3, none⟩ = some (.int .i64 kind) := a3
        replace b3 : w4.cell? ⟨(bd.add (k * 6)).block, (bd.add (k * 6)).off + 3, none⟩ = some (.int .i64 kind) := b3
        replace a4 : w4.cell? ⟨(ad.add (k * 6)).block, (ad.add (k * 6)).off + 4, none⟩ = some (.int .i64 dat) := a4
        replace b4 : w4.cell? ⟨(bd.add (k * 6)).block, (bd.add (k * 6)).off + 4, none⟩ = some (.int .i64 dat) := b4
        replace a5 : w4.cell? ⟨(ad.add (k * 6)).block, (ad.add (k * 6)).off + 5, none⟩ = some (.int .i64 amt) := a5
        replace b5 : w4.cell? ⟨(bd.add (k * 6)).block, (bd.add (k * 6)).off + 5, none⟩ = some (.int .i64 amt) := b5
        replace HH1 : Hid (∀ A2 c2 y b, Below w.heap.size w y → y.ownsRow b 95 3 (.slice A2 nw c2) nw LW → Calls Tryz.prog 24 #[.agg #[.int .i64 verb, .slice Ab nb cb, .slice A2 nw c2], .agg #[.int .i64 acc, .int .i64 ent, .int .i64 par, .int .i64 kind, .int .i64 dat, .int .i64 amt]] y fun e w' => e = .returned (.bool RB) ∧ Below y.heap.size y w') := HH1
        replace HH2 : Hid (∀ y, Below w.heap.size w y → Calls Tryz.prog 25 #[.agg #[.int .i64 verb, .slice Ab nb cb, .slice Aw nw cw], .agg #[.int .i64 acc, .int .i64 ent, .int .i64 par, .int .i64 kind, .int .i64 dat, .int .i64 amt]] y fun e w' => e = .returned (.bool RB) ∧ Below y.heap.size y w') := HH2
        have HSTP : Hid (∀ x : World, (fun w' : World => QfS w X per (.slice Ai ni ci) (.slice Ap np cp) (.slice At nt ct) verb (.slice Ab nb cb) (.slice Aw nw cw) w' ∧ w'.cell? (ad.add (k * 6)) = some (.int .i64 acc) ∧ w'.cell? ⟨(ad.add (k * 6)).block, (ad.add (k * 6)).off + 1, none⟩ = some (.int .i64 ent) ∧ w'.cell? ⟨(ad.add (k * 6)).block, (ad.add (k * 6)).off + 2, none⟩ = some (.int .i64 par) ∧ w'.cell? ⟨(ad.add (k * 6)).block, (ad.add (k * 6)).off + 3, none⟩ = some (.int .i64 kind) ∧ w'.cell? ⟨(ad.add (k * 6)).block, (ad.add (k * 6)).off + 4, none⟩ = some (.int .i64 dat) ∧ w'.cell? ⟨(ad.add (k * 6)).block, (ad.add (k * 6)).off + 5, none⟩ = some (.int .i64 amt) ∧ w'.cell? (bd.add (k * 6)) = some (.int .i64 acc) ∧ w'.cell? ⟨(bd.add (k * 6)).block, (bd.add (k * 6)).off + 1, none⟩ = some (.int .i64 ent) ∧ w'.cell? ⟨(bd.add (k * 6)).block, (bd.add (k * 6)).off + 2, none⟩ = some (.int .i64 par) ∧ w'.cell? ⟨(bd.add (k * 6)).block, (bd.add (k * 6)).off + 3, none⟩ = some (.int .i64 kind) ∧ w'.cell? ⟨(bd.add (k * 6)).block, (bd.add (k * 6)).off + 4, none⟩ = some (.int .i64 dat) ∧ w'.cell? ⟨(bd.add (k * 6)).block, (bd.add (k * 6)).off + 5, none⟩ = some (.int .i64 amt)) x → ∀ y : World, Below x.heap.size x y → (fun w' : World => QfS w X per (.slice Ai ni ci) (.slice Ap np cp) (.slice At nt ct) verb (.slice Ab nb cb) (.slice Aw nw cw) w' ∧ w'.cell? (ad.add (k * 6)) = some (.int .i64 acc) ∧ w'.cell? ⟨(ad.add (k * 6)).block, (ad.add (k * 6)).off + 1, none⟩ = some (.int .i64 ent) ∧ w'.cell? ⟨(ad.add (k * 6)).block, (ad.add (k * 6)).off + 2, none⟩ = some (.int .i64 par) ∧ w'.cell? ⟨(ad.add (k * 6)).block, (ad.add (k * 6)).off + 3, none⟩ = some (.int .i64 kind) ∧ w'.cell? ⟨(ad.add (k * 6)).block, (ad.add (k * 6)).off + 4, none⟩ = some (.int .i64 dat) ∧ w'.cell? ⟨(ad.add (k * 6)).block, (ad.add (k * 6)).off + 5, none⟩ = some (.int .i64 amt) ∧ w'.cell? (bd.add (k * 6)) = some (.int .i64 acc) ∧ w'.cell? ⟨(bd.add (k * 6)).block, (bd.add (k * 6)).off + 1, none⟩ = some (.int .i64 ent) ∧ w'.cell? ⟨(bd.add (k * 6)).block, (bd.add (k * 6)).off + 2, none⟩ = some (.int .i64 par) ∧ w'.cell? ⟨(bd.add (k * 6)).block, (bd.add (k * 6)).off + 3, none⟩ = some (.int .i64 kind) ∧ w'.cell? ⟨(bd.add (k * 6)).block, (bd.add (k * 6)).off + 4, none⟩ = some (.int .i64 dat) ∧ w'.cell? ⟨(bd.add (k * 6)).block, (bd.add (k * 6)).off + 5, none⟩ = some (.int .i64 amt)) y) := fun x hx y hb => by
          have kk : ∀ {a : Addr} {v : Value}, x.cell? a = some v → y.cell? a = some v := fun hc => (hb.cell (World.block_lt_of_cell? _ _ hc)).trans hc
          obtain ⟨h0, g0, g1, g2, g3, g4, g5, i0, i1, i2, i3, i4, i5⟩ := hx
          exact ⟨h0.same hb, kk g0, kk g1, kk g2, kk g3, kk g4, kk g5, kk i0, kk i1, kk i2, kk i3, kk i4, kk i5⟩
        have HSW : Hid ((fun w' : World => QfS w X per (.slice Ai ni ci) (.slice Ap np cp) (.slice At nt ct) verb (.slice Ab nb cb) (.slice Aw nw cw) w' ∧ w'.cell? (ad.add (k * 6)) = some (.int .i64 acc) ∧ w'.cell? ⟨(ad.add (k * 6)).block, (ad.add (k * 6)).off + 1, none⟩ = some (.int .i64 ent) ∧ w'.cell? ⟨(ad.add (k * 6)).block, (ad.add (k * 6)).off + 2, none⟩ = some (.int .i64 par) ∧ w'.cell? ⟨(ad.add (k * 6)).block, (ad.add (k * 6)).off + 3, none⟩ = some (.int .i64 kind) ∧ w'.cell? ⟨(ad.add (k * 6)).block, (ad.add (k * 6)).off + 4, none⟩ = some (.int .i64 dat) ∧ w'.cell? ⟨(ad.add (k * 6)).block, (ad.add (k * 6)).off + 5, none⟩ = some (.int .i64 amt) ∧ w'.cell? (bd.add (k * 6)) = some (.int .i64 acc) ∧ w'.cell? ⟨(bd.add (k * 6)).block, (bd.add (k * 6)).off + 1, none⟩ = some (.int .i64 ent) ∧ w'.cell? ⟨(bd.add (k * 6)).block, (bd.add (k * 6)).off + 2, none⟩ = some (.int .i64 par) ∧ w'.cell? ⟨(bd.add (k * 6)).block, (bd.add (k * 6)).off + 3, none⟩ = some (.int .i64 kind) ∧ w'.cell? ⟨(bd.add (k * 6)).block, (bd.add (k * 6)).off + 4, none⟩ = some (.int .i64 dat) ∧ w'.cell? ⟨(bd.add (k * 6)).block, (bd.add (k * 6)).off + 5, none⟩ = some (.int .i64 amt)) wr) := HSTP.out w4 ⟨HS4.out, a0, a1, a2, a3, a4, a5, b0, b1, b2, b3, b4, b5⟩ wr hby
        have e1 : (RB == RB) = true := by simp
        have e2 : (RB != RB) = false := by simp
        have hadl : ad.block < w4.heap.size := had
        clear a0 a1 a2 a3 a4 a5 b0 b1 b2 b3 b4 b5
        go_upto_region 9 with fail
        refine wp_region_held_drew (S := fun w' => QfS w X per (.slice Ai ni ci) (.slice Ap np cp) (.slice At nt ct) verb (.slice Ab nb cb) (.slice Aw nw cw) w' ∧ w'.cell? (ad.add (k * 6)) = some (.int .i64 acc) ∧ w'.cell? ⟨(ad.add (k * 6)).block, (ad.add (k * 6)).off + 1, none⟩ = some (.int .i64 ent) ∧ w'.cell? ⟨(ad.add (k * 6)).block, (ad.add (k * 6)).off + 2, none⟩ = some (.int .i64 par) ∧ w'.cell? ⟨(ad.add (k * 6)).block, (ad.add (k * 6)).off + 3, none⟩ = some (.int .i64 kind) ∧ w'.cell? ⟨(ad.add (k * 6)).block, (ad.add (k * 6)).off + 4, none⟩ = some (.int .i64 dat) ∧ w'.cell? ⟨(ad.add (k * 6)).block, (ad.add (k * 6)).off + 5, none⟩ = some (.int .i64 amt) ∧ w'.cell? (bd.add (k * 6)) = some (.int .i64 acc) ∧ w'.cell? ⟨(bd.add (k * 6)).block, (bd.add (k * 6)).off + 1, none⟩ = some (.int .i64 ent) ∧ w'.cell? ⟨(bd.add (k * 6)).block, (bd.add (k * 6)).off + 2, none⟩ = some (.int .i64 par) ∧ w'.cell? ⟨(bd.add (k * 6)).block, (bd.add (k * 6)).off + 3, none⟩ = some (.int .i64 kind) ∧ w'.cell? ⟨(bd.add (k * 6)).block, (bd.add (k * 6)).off + 4, none⟩ = some (.int .i64 dat) ∧ w'.cell? ⟨(bd.add (k * 6)).block, (bd.add (k * 6)).off + 5, none⟩ = some (.int .i64 amt)) (by kernel_rfl) (HSTP.out wr HSW.out _ (Below.refl _ _).drew) (fun hHeld => ?_)
        refine wpAnyH_take (i := 0) (v := ?vh0) rfl (by kernel_rfl) (by kernel_rfl) (by kernel_rfl) (fun _ _ _ h => h) (Or.inl ⟨by rfl, ?hyh0⟩) (by assumption) ?resth0
        case hyh0 => (intro w_ hSw; (try dsimp only at hSw); obtain ⟨⟨_, r0_, r1_, r2_, r3_, q0_, q1_, q2_⟩, a0_, a1_, a2_, a3_, a4_, a5_, b0_, b1_, b2_, b3_, b4_, b5_⟩ := hSw; go_simp; (try with_reducible rfl))
        (try simp only [Act.put, List.setIfInBounds_toArray, List.set_cons_zero, List.set_cons_succ, List.getElem_toArray, List.getElem_cons_zero, List.getElem_cons_succ])
        refine wpAnyH_take (i := 1) (v := ?vh1) rfl (by kernel_rfl) (by kernel_rfl) (by kernel_rfl) (fun _ _ _ h => h) (Or.inl ⟨by rfl, ?hyh1⟩) (by assumption) ?resth1
        case hyh1 => (intro w_ hSw; (try dsimp only at hSw); obtain ⟨⟨_, r0_, r1_, r2_, r3_, q0_, q1_, q2_⟩, a0_, a1_, a2_, a3_, a4_, a5_, b0_, b1_, b2_, b3_, b4_, b5_⟩ := hSw; go_simp; (try with_reducible rfl))
        (try simp only [Act.put, List.setIfInBounds_toArray, List.set_cons_zero, List.set_cons_succ, List.getElem_toArray, List.getElem_cons_zero, List.getElem_cons_succ])
        refine wpAnyH_take (i := 2) (v := ?vh2) rfl (by kernel_rfl) (by kernel_rfl) (by kernel_rfl) (fun _ _ _ h => h) (Or.inl ⟨by rfl, ?hyh2⟩) (by assumption) ?resth2
        case hyh2 => (intro w_ hSw; (try dsimp only at hSw); obtain ⟨⟨_, r0_, r1_, r2_, r3_, q0_, q1_, q2_⟩, a0_, a1_, a2_, a3_, a4_, a5_, b0_, b1_, b2_, b3_, b4_, b5_⟩ := hSw; go_simp; (try with_reducible rfl))
        (try simp only [Act.put, List.setIfInBounds_toArray, List.set_cons_zero, List.set_cons_succ, List.getElem_toArray, List.getElem_cons_zero, List.getElem_cons_succ])
        refine wpAnyH_take (i := 3) (v := ?vh3) rfl (by kernel_rfl) (by kernel_rfl) (by kernel_rfl) (fun _ _ _ h => h) (Or.inl ⟨by rfl, ?hyh3⟩) (by assumption) ?resth3
        case hyh3 => (intro w_ hSw; (try dsimp only at hSw); obtain ⟨⟨_, r0_, r1_, r2_, r3_, q0_, q1_, q2_⟩, a0_, a1_, a2_, a3_, a4_, a5_, b0_, b1_, b2_, b3_, b4_, b5_⟩ := hSw; go_simp; (try with_reducible rfl))
        (try simp only [Act.put, List.setIfInBounds_toArray, List.set_cons_zero, List.set_cons_succ, List.getElem_toArray, List.getElem_cons_zero, List.getElem_cons_succ])
        refine wpAnyH_take (i := 4) (v := ?vh4) rfl (by kernel_rfl) (by kernel_rfl) (by kernel_rfl) (fun _ _ _ h => h) (Or.inl ⟨by rfl, ?hyh4⟩) (by assumption) ?resth4
        case hyh4 => (intro w_ hSw; (try dsimp only at hSw); obtain ⟨⟨_, r0_, r1_, r2_, r3_, q0_, q1_, q2_⟩, a0_, a1_, a2_, a3_, a4_, a5_, b0_, b1_, b2_, b3_, b4_, b5_⟩ := hSw; go_simp; (try with_reducible rfl))
        (try simp only [Act.put, List.setIfInBounds_toArray, List.set_cons_zero, List.set_cons_succ, List.getElem_toArray, List.getElem_cons_zero, List.getElem_cons_succ])
        refine wpAnyH_take (i := 5) (v := ?vh5) rfl (by kernel_rfl) (by kernel_rfl) (by kernel_rfl) (fun _ _ _ h => h) (Or.inl ⟨by rfl, ?hyh5⟩) (by assumption) ?resth5
        case hyh5 => (intro w_ hSw; (try dsimp only at hSw); obtain ⟨⟨_, r0_, r1_, r2_, r3_, q0_, q1_, q2_⟩, a0_, a1_, a2_, a3_, a4_, a5_, b0_, b1_, b2_, b3_, b4_, b5_⟩ := hSw; go_simp; (try with_reducible rfl))
        (try simp only [Act.put, List.setIfInBounds_toArray, List.set_cons_zero, List.set_cons_succ, List.getElem_toArray, List.getElem_cons_zero, List.getElem_cons_succ])
        refine wpAnyH_take (i := 6) (v := ?vh6) rfl (by kernel_rfl) (by kernel_rfl) (by kernel_rfl) (fun _ _ _ h => h) (Or.inl ⟨by rfl, ?hyh6⟩) (by assumption) ?resth6
        case hyh6 => (intro w_ hSw; (try dsimp only at hSw); obtain ⟨⟨_, r0_, r1_, r2_, r3_, q0_, q1_, q2_⟩, a0_, a1_, a2_, a3_, a4_, a5_, b0_, b1_, b2_, b3_, b4_, b5_⟩ := hSw; go_simp; (try with_reducible rfl))
        (try simp only [Act.put, List.setIfInBounds_toArray, List.set_cons_zero, List.set_cons_succ, List.getElem_toArray, List.getElem_cons_zero, List.getElem_cons_succ])
        refine wpAnyH_take (i := 7) (v := ?vh7) rfl (by kernel_rfl) (by kernel_rfl) (by kernel_rfl) (fun _ _ _ h => h) (Or.inl ⟨by rfl, ?hyh7⟩) (by assumption) ?resth7
        case hyh7 => (intro w_ hSw; (try dsimp only at hSw); obtain ⟨⟨_, r0_, r1_, r2_, r3_, q0_, q1_, q2_⟩, a0_, a1_, a2_, a3_, a4_, a5_, b0_, b1_, b2_, b3_, b4_, b5_⟩ := hSw; go_simp; (try with_reducible rfl))
        (try simp only [Act.put, List.setIfInBounds_toArray, List.set_cons_zero, List.set_cons_succ, List.getElem_toArray, List.getElem_cons_zero, List.getElem_cons_succ])
        refine wpAnyH_take (i := 8) (v := ?vh8) rfl (by kernel_rfl) (by kernel_rfl) (by kernel_rfl) (fun _ _ _ h => h) (Or.inl ⟨by rfl, ?hyh8⟩) (by assumption) ?resth8
        case hyh8 => (intro w_ hSw; (try dsimp only at hSw); obtain ⟨⟨_, r0_, r1_, r2_, r3_, q0_, q1_, q2_⟩, a0_, a1_, a2_, a3_, a4_, a5_, b0_, b1_, b2_, b3_, b4_, b5_⟩ := hSw; go_simp; (try with_reducible rfl))
        (try simp only [Act.put, List.setIfInBounds_toArray, List.set_cons_zero, List.set_cons_succ, List.getElem_toArray, List.getElem_cons_zero, List.getElem_cons_succ])
        refine wpAnyH_take (i := 9) (v := ?vh9) rfl (by kernel_rfl) (by kernel_rfl) (by kernel_rfl) (fun _ _ _ h => h) (Or.inl ⟨by rfl, ?hyh9⟩) (by assumption) ?resth9
        case hyh9 => (intro w_ hSw; (try dsimp only at hSw); obtain ⟨⟨_, r0_, r1_, r2_, r3_, q0_, q1_, q2_⟩, a0_, a1_, a2_, a3_, a4_, a5_, b0_, b1_, b2_, b3_, b4_, b5_⟩ := hSw; go_simp; (try with_reducible rfl))
        (try simp only [Act.put, List.setIfInBounds_toArray, List.set_cons_zero, List.set_cons_succ, List.getElem_toArray, List.getElem_cons_zero, List.getElem_cons_succ])
        refine wpAnyH_take (i := 10) (v := ?vh10) rfl (by kernel_rfl) (by kernel_rfl) (by kernel_rfl) (fun _ _ _ h => h) (Or.inl ⟨by rfl, ?hyh10⟩) (by assumption) ?resth10
        case hyh10 => (intro w_ hSw; (try dsimp only at hSw); obtain ⟨⟨_, r0_, r1_, r2_, r3_, q0_, q1_, q2_⟩, a0_, a1_, a2_, a3_, a4_, a5_, b0_, b1_, b2_, b3_, b4_, b5_⟩ := hSw; go_simp; (try with_reducible rfl))
        (try simp only [Act.put, List.setIfInBounds_toArray, List.set_cons_zero, List.set_cons_succ, List.getElem_toArray, List.getElem_cons_zero, List.getElem_cons_succ])
        refine wpAnyH_take (i := 12) (v := ?vh12) rfl (by kernel_rfl) (by kernel_rfl) (by kernel_rfl) (fun _ _ _ h => h) (Or.inl ⟨by rfl, ?hyh12⟩) (by assumption) ?resth12
        case hyh12 => (intro w_ hSw; (try dsimp only at hSw); obtain ⟨⟨_, r0_, r1_, r2_, r3_, q0_, q1_, q2_⟩, a0_, a1_, a2_, a3_, a4_, a5_, b0_, b1_, b2_, b3_, b4_, b5_⟩ := hSw; go_simp; (try with_reducible rfl))
        (try simp only [Act.put, List.setIfInBounds_toArray, List.set_cons_zero, List.set_cons_succ, List.getElem_toArray, List.getElem_cons_zero, List.getElem_cons_succ])
        refine wpAnyH_take (i := 13) (v := ?vh13) rfl (by kernel_rfl) (by kernel_rfl) (by kernel_rfl) (fun _ _ _ h => h) (Or.inl ⟨by rfl, ?hyh13⟩) (by assumption) ?resth13
        case hyh13 => (intro w_ hSw; (try dsimp only at hSw); obtain ⟨⟨_, r0_, r1_, r2_, r3_, q0_, q1_, q2_⟩, a0_, a1_, a2_, a3_, a4_, a5_, b0_, b1_, b2_, b3_, b4_, b5_⟩ := hSw; go_simp; (try with_reducible rfl))
        (try simp only [Act.put, List.setIfInBounds_toArray, List.set_cons_zero, List.set_cons_succ, List.getElem_toArray, List.getElem_cons_zero, List.getElem_cons_succ])
        refine wpAnyH_take (i := 14) (v := ?vh14) rfl (by kernel_rfl) (by kernel_rfl) (by kernel_rfl) (fun _ _ _ h => h) (Or.inl ⟨by rfl, ?hyh14⟩) (by assumption) ?resth14
        case hyh14 => (intro w_ hSw; (try dsimp only at hSw); obtain ⟨⟨_, r0_, r1_, r2_, r3_, q0_, q1_, q2_⟩, a0_, a1_, a2_, a3_, a4_, a5_, b0_, b1_, b2_, b3_, b4_, b5_⟩ := hSw; go_simp; (try with_reducible rfl))
        (try simp only [Act.put, List.setIfInBounds_toArray, List.set_cons_zero, List.set_cons_succ, List.getElem_toArray, List.getElem_cons_zero, List.getElem_cons_succ])
        refine wpAnyH_take (i := 15) (v := ?vh15) rfl (by kernel_rfl) (by kernel_rfl) (by kernel_rfl) (fun _ _ _ h => h) (Or.inl ⟨by rfl, ?hyh15⟩) (by assumption) ?resth15
        case hyh15 => (intro w_ hSw; (try dsimp only at hSw); obtain ⟨⟨_, r0_, r1_, r2_, r3_, q0_, q1_, q2_⟩, a0_, a1_, a2_, a3_, a4_, a5_, b0_, b1_, b2_, b3_, b4_, b5_⟩ := hSw; go_simp; (try with_reducible rfl))
        (try simp only [Act.put, List.setIfInBounds_toArray, List.set_cons_zero, List.set_cons_succ, List.getElem_toArray, List.getElem_cons_zero, List.getElem_cons_succ])
        refine wpAnyH_take (i := 17) (v := ?vh17) rfl (by kernel_rfl) (by kernel_rfl) (by kernel_rfl) (fun _ _ _ h => h) (Or.inl ⟨by rfl, ?hyh17⟩) (by assumption) ?resth17
        case hyh17 => (intro w_ hSw; (try dsimp only at hSw); obtain ⟨⟨_, r0_, r1_, r2_, r3_, q0_, q1_, q2_⟩, a0_, a1_, a2_, a3_, a4_, a5_, b0_, b1_, b2_, b3_, b4_, b5_⟩ := hSw; go_simp; (try with_reducible rfl))
        (try simp only [Act.put, List.setIfInBounds_toArray, List.set_cons_zero, List.set_cons_succ, List.getElem_toArray, List.getElem_cons_zero, List.getElem_cons_succ])
        refine wpAnyH_take (i := 18) (v := ?vh18) rfl (by kernel_rfl) (by kernel_rfl) (by kernel_rfl) (fun _ _ _ h => h) (Or.inl ⟨by rfl, ?hyh18⟩) (by assumption) ?resth18
        case hyh18 => (intro w_ hSw; (try dsimp only at hSw); obtain ⟨⟨_, r0_, r1_, r2_, r3_, q0_, q1_, q2_⟩, a0_, a1_, a2_, a3_, a4_, a5_, b0_, b1_, b2_, b3_, b4_, b5_⟩ := hSw; go_simp; (try with_reducible rfl))
        (try simp only [Act.put, List.setIfInBounds_toArray, List.set_cons_zero, List.set_cons_succ, List.getElem_toArray, List.getElem_cons_zero, List.getElem_cons_succ])
        refine wpAnyH_take (i := 19) (v := ?vh19) rfl (by kernel_rfl) (by kernel_rfl) (by kernel_rfl) (fun _ _ _ h => h) (Or.inl ⟨by rfl, ?hyh19⟩) (by assumption) ?resth19
        case hyh19 => (intro w_ hSw; (try dsimp only at hSw); obtain ⟨⟨_, r0_, r1_, r2_, r3_, q0_, q1_, q2_⟩, a0_, a1_, a2_, a3_, a4_, a5_, b0_, b1_, b2_, b3_, b4_, b5_⟩ := hSw; go_simp; (try with_reducible rfl))
        (try simp only [Act.put, List.setIfInBounds_toArray, List.set_cons_zero, List.set_cons_succ, List.getElem_toArray, List.getElem_cons_zero, List.getElem_cons_succ])
        refine wpAnyH_take (i := 20) (v := ?vh20) rfl (by kernel_rfl) (by kernel_rfl) (by kernel_rfl) (fun _ _ _ h => h) (Or.inl ⟨by rfl, ?hyh20⟩) (by assumption) ?resth20
        case hyh20 => (intro w_ hSw; (try dsimp only at hSw); obtain ⟨⟨_, r0_, r1_, r2_, r3_, q0_, q1_, q2_⟩, a0_, a1_, a2_, a3_, a4_, a5_, b0_, b1_, b2_, b3_, b4_, b5_⟩ := hSw; go_simp; (try with_reducible rfl))
        (try simp only [Act.put, List.setIfInBounds_toArray, List.set_cons_zero, List.set_cons_succ, List.getElem_toArray, List.getElem_cons_zero, List.getElem_cons_succ])
        refine wpAnyH_take (i := 21) (v := ?vh21) rfl (by kernel_rfl) (by kernel_rfl) (by kernel_rfl) (fun _ _ _ h => h) (Or.inl ⟨by rfl, ?hyh21⟩) (by assumption) ?resth21
        case hyh21 => (intro w_ hSw; (try dsimp only at hSw); obtain ⟨⟨_, r0_, r1_, r2_, r3_, q0_, q1_, q2_⟩, a0_, a1_, a2_, a3_, a4_, a5_, b0_, b1_, b2_, b3_, b4_, b5_⟩ := hSw; go_simp; (try with_reducible rfl))
        (try simp only [Act.put, List.setIfInBounds_toArray, List.set_cons_zero, List.set_cons_succ, List.getElem_toArray, List.getElem_cons_zero, List.getElem_cons_succ])
        refine wpAnyH_ready (rs := [11]) (by kernel_rfl) (by simp) ?_
        refine AllReadyH.cons rfl (fun K hK => ?_) AllReadyH.nil
        go_simp
        go_wp2_with (go_at_call 18; refine (HTO.out hw30 _ hHeld.1.below).mono ?_; rintro e w5 ⟨A3, c3, rfl, ho3, hb5⟩)
        refine hK.out _ _ ?hSh11 (fun hHeldh11 => ?_)
        case hSh11 => exact HSTP.out _ hHeld w5 hb5
        clear hK K
        (try simp only [Act.put, List.setIfInBounds_toArray, List.set_cons_zero, List.set_cons_succ, List.getElem_toArray, List.getElem_cons_zero, List.getElem_cons_succ])
        refine wpAnyH_ready (rs := [16]) (by kernel_rfl) (by simp) ?_
        refine AllReadyH.cons rfl (fun K hK => ?_) AllReadyH.nil
        go_simp
        go_wp2_with (go_at_call 24; refine (HH1.out A3 c3 _ _ hHeldh11.1.below ho3).mono ?_; rintro e w6 ⟨rfl, hb6⟩)
        refine hK.out _ _ ?hSh16 (fun hHeldh16 => ?_)
        case hSh16 => exact HSTP.out _ hHeldh11 w6 hb6
        clear hK K
        (try simp only [Act.put, List.setIfInBounds_toArray, List.set_cons_zero, List.set_cons_succ, List.getElem_toArray, List.getElem_cons_zero, List.getElem_cons_succ])
        refine wpAnyH_ready (rs := [22]) (by kernel_rfl) (by simp) ?_
        refine AllReadyH.cons rfl (fun K hK => ?_) AllReadyH.nil
        go_simp
        go_wp2_with (go_at_call 25; refine (HH2.out _ hHeldh16.1.below).mono ?_; rintro e w7 ⟨rfl, hb7⟩)
        refine hK.out _ _ ?hSh22 (fun hHeldh22 => ?_)
        case hSh22 => exact HSTP.out _ hHeldh16 w7 hb7
        clear hK K
        (try simp only [Act.put, List.setIfInBounds_toArray, List.set_cons_zero, List.set_cons_succ, List.getElem_toArray, List.getElem_cons_zero, List.getElem_cons_succ])
        refine wpAnyH_take (i := 23) (v := ?vh23) rfl (by kernel_rfl) (by kernel_rfl) (by kernel_rfl) (fun _ _ _ h => h) (Or.inl ⟨by rfl, ?hyh23⟩) (by assumption) ?resth23
        case hyh23 => (intro w_ hSw; (try dsimp only at hSw); obtain ⟨⟨_, r0_, r1_, r2_, r3_, q0_, q1_, q2_⟩, a0_, a1_, a2_, a3_, a4_, a5_, b0_, b1_, b2_, b3_, b4_, b5_⟩ := hSw; go_simp; (try with_reducible rfl))
        (try simp only [Act.put, List.setIfInBounds_toArray, List.set_cons_zero, List.set_cons_succ, List.getElem_toArray, List.getElem_cons_zero, List.getElem_cons_succ])
        refine wpAnyH_take (i := 24) (v := ?vh24) rfl (by kernel_rfl) (by kernel_rfl) (by kernel_rfl) (fun _ _ _ h => h) (Or.inl ⟨by rfl, ?hyh24⟩) (by assumption) ?resth24
        case hyh24 => (intro w_ hSw; (try dsimp only at hSw); obtain ⟨⟨_, r0_, r1_, r2_, r3_, q0_, q1_, q2_⟩, a0_, a1_, a2_, a3_, a4_, a5_, b0_, b1_, b2_, b3_, b4_, b5_⟩ := hSw; go_simp; (try with_reducible rfl))
        (try simp only [Act.put, List.setIfInBounds_toArray, List.set_cons_zero, List.set_cons_succ, List.getElem_toArray, List.getElem_cons_zero, List.getElem_cons_succ])
        refine wpAnyH_done (by kernel_rfl) ?_ _
        have HBN := Lib.hid (below_two hby (below_two (below_two (below_two (Below.refl wr.heap.size wr).drew hb5) hb6) hb7))
        clear hHeld hHeldh11 hHeldh16 hHeldh22 hb5 hb6 hb7 ho3 HSW
        go_wp2_with fail
        go_roundw
        case rel => exact ⟨k + 1, by omega, by go_num, HBN.out⟩
        case measure => simp [intOf]; omega
      · have k3 : decide ((k : Int) < (n : Int)) = false := by rw [decide_eq_false_iff_not]; omega
        have HBF := Lib.hid (HS4.out.same hby).below
        go_wp2_with fail
        go_ret
        exact ⟨rfl, HBF.out⟩
end Go.Proofs.YtfnlddloalineaaGreatDoor
