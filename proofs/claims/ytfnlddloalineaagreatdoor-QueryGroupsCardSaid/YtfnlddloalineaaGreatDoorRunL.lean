/-
  The law QueryRun: both answers are the same.
-/
import Derived.Test.YtfnlddloalineaaGreatDoorRunI
namespace Go.Proofs.YtfnlddloalineaaGreatDoor
open Go.RowKit
set_option linter.unusedVariables false
set_option linter.unusedSimpArgs false
set_option maxRecDepth 100000
/-- what Run answers: the error, and the rows -/
def resV (okb : Bool) (nb : Nat) (l : List (K5 × Int)) : Int × List (List Int × Int) := if okb = false then (1, []) else if l.all (fun p => moneyB p.2) = true then (0, l.map fun p => (p.1.l.take nb, p.2)) else (2, [])
theorem run_res {okb : Bool} {nb : Nat} {l : List (K5 × Int)} {e : Ending} {x : World} (h : RunSays okb nb l e x) : ∃ (A : Option Addr) (n c : Nat) (E : Int) (rs : List RRow), e = .returned (.tuple #[.slice A n c, .int .i64 E]) ∧ Reads x x.heap.size 2 A n (rrowsC rs) ∧ rs.length = n ∧ n ≤ l.length ∧ (∀ j, j < n → RowIn x x.heap.size (rs.getD j default) ∧ (rs.getD j default).n ≤ (rs.getD j default).c) ∧ (E, rs.map fun r => (r.ks, r.val)) = resV okb nb l := by
  rcases h with ⟨rfl, rfl⟩ | ⟨rfl, ⟨p, hp, hm⟩, rfl⟩ | ⟨rfl, hm, A, n, c, rfl, hn, rs, he, hr, hi⟩
  · exact ⟨none, 0, 0, 1, [], rfl, reads_nil _ _ _ _ rfl, rfl, Nat.zero_le _, fun j h => absurd h (Nat.not_lt_zero _), rfl⟩
  · refine ⟨none, 0, 0, 2, [], rfl, reads_nil _ _ _ _ rfl, rfl, Nat.zero_le _, fun j h => absurd h (Nat.not_lt_zero _), ?_⟩
    unfold resV
    have h1 : ¬ (l.all (fun p => moneyB p.2) = true) := fun h => by
      rw [List.all_eq_true] at h
      have h2 := h p hp
      rw [hm] at h2; cases h2
    rw [if_neg (by decide), if_neg h1]
    rfl
  · have hl : rs.length = n := by
      have h1 := congrArg List.length he
      simp only [List.length_map] at h1
      omega
    refine ⟨A, n, c, 0, rs, rfl, hr, hl, by omega, hi, ?_⟩
    unfold resV
    rw [if_neg (by decide), if_pos (List.all_eq_true.2 hm), he]
theorem rows_eq {rs rs' : List RRow} (h : (rs.map fun r => (r.ks, r.val)) = rs'.map fun r => (r.ks, r.val)) : rs.length = rs'.length ∧ ∀ k, k < rs.length → (rs.getD k default).ks = (rs'.getD k default).ks ∧ (rs.getD k default).val = (rs'.getD k default).val := by
  have hl : rs.length = rs'.length := by
    have h1 := congrArg List.length h
    simpa using h1
  refine ⟨hl, fun k hk => ?_⟩
  have h1 : (rs.map fun r => (r.ks, r.val))[k]? = (rs'.map fun r => (r.ks, r.val))[k]? := by rw [h]
  rw [List.getElem?_map, List.getElem?_map, List.getElem?_eq_getElem hk, List.getElem?_eq_getElem (by omega)] at h1
  simp only [Option.map_some, Option.some.injEq, Prod.mk.injEq] at h1
  have e1 : rs.getD k default = rs[k] := by simp [List.getD, hk]
  have e2 : rs'.getD k default = rs'[k] := by simp [List.getD, show k < rs'.length by omega]
  rw [e1, e2]
  exact h1
theorem RowIn.keep {x y : World} {B : Nat} {r : RRow} (h : RowIn x B r) (hB : B ≤ x.heap.size) (hb : Below x.heap.size x y) : RowIn y B r := ⟨h.1.low hB (Nat.le_refl _) hb, h.2⟩
theorem RowIn.more {x : World} {B B' : Nat} {r : RRow} (h : RowIn x B r) (hB : B ≤ B') : RowIn x B' r := ⟨h.1.more hB, h.2⟩
set_option maxHeartbeats 16000000 in
theorem lawRun (per : Int) (its : List SItem) (pos : List SPost) (Ai Ap At : Option Addr) (ni ci np cp nt ct : Nat) (q : SQry) (Ab Aw : Option Addr) (nb cb nw cw : Nat) (w : World) (hE : Env w) (hEE : EnvE w) (hri : Reads w w.heap.size 7 Ai ni (its.flatMap itemC)) (hli : its.length = ni) (hmi : ni ≤ 9223372036854775807) (hrp : Reads w w.heap.size 5 Ap np (pos.flatMap postC)) (hlp : pos.length = np) (hmp : np ≤ 9223372036854775807) (hpq : ∀ x ∈ pos, PostIn w w.heap.size x) (hoi : ∀ x ∈ its, okItem x) (hop : ∀ x ∈ pos, okPost x)
    (hb : RdBy w w.heap.size Ab q.by_) (hnb : q.by_.length = nb) (hcb : nb ≤ cb) (hw : Reads w w.heap.size 3 Aw nw (cndC q.wh)) (hn1 : nb ≤ 9223372036854775807) (hn2 : nw ≤ 9223372036854775807) (hn3 : nw ≤ cw) :
    Calls Tryz.prog 7 #[.agg #[.int .i64 per, .slice Ai ni ci, .slice Ap np cp, .slice At nt ct], .agg #[.int .i64 q.verb, .slice Ab nb cb, .slice Aw nw cw]] w fun e w' => e = .returned (.bool true) ∧ Below w.heap.size w w' := by
  have HEB : Hid (∀ w_, Below w.heap.size w w_ → Env w_) := fun w_ h => hE.after h
  have HEEB : Hid (∀ w_, Below w.heap.size w w_ → EnvE w_) := fun w_ h => hEE.below h hE.size
  have hnw : q.wh.length = nw := by have := hw.1; rw [cndC_len] at this; omega
  have HNW := Lib.hid hnw
  have HNB := Lib.hid hnb
  have HBY : Hid (∀ x, Below w.heap.size w x → RdBy x w.heap.size Ab q.by_) := fun x h => hb.low (Nat.le_refl _) (Nat.le_refl _) h
  have HWH : Hid (∀ x, Below w.heap.size w x → Reads x w.heap.size 3 Aw nw (cndC q.wh)) := fun x h => hw.lowQ (Nat.le_refl _) (Nat.le_refl _) h
  have HRI : Hid (∀ x, Below w.heap.size w x → Reads x w.heap.size 7 Ai ni (its.flatMap itemC)) := fun x h => hri.lowQ (Nat.le_refl _) (Nat.le_refl _) h
  have HRP : Hid (∀ x, Below w.heap.size w x → Reads x w.heap.size 5 Ap np (pos.flatMap postC)) := fun x h => hrp.lowQ (Nat.le_refl _) (Nat.le_refl _) h
  have HPI : Hid (∀ x, Below w.heap.size w x → ∀ p, p ∈ pos → PostIn x w.heap.size p) := fun x h p hp => ⟨(hpq p hp).1.lowQ (Nat.le_refl _) (Nat.le_refl _) h, (hpq p hp).2⟩
  have HFW : Hid (∀ x, Below w.heap.size w x → Calls Tryz.prog 16 #[.agg #[.int .i64 per, .slice Ai ni ci, .slice Ap np cp, .slice At nt ct], .agg #[.int .i64 q.verb, .slice Ab nb cb, .slice Aw nw cw]] x fun e w' => FewSays its pos nb nw e ∧ Below x.heap.size x w') := fun x h => few_any per q.verb its pos Ai Ap At Ab Aw ni ci np cp nt ct nb cb nw cw w.heap.size x (HRI.out x h) (HRP.out x h) (HPI.out x h) h.size hli hlp hmi hmp
  have HLI := Lib.hid hli
  have HLP := Lib.hid hlp
  obtain ⟨okb, hokb⟩ : ∃ b : Bool, (b = true ↔ OkQ q) := by
    by_cases h : OkQ q
    · exact ⟨true, b_yes h⟩
    · exact ⟨false, b_no h⟩
  have HOKB := Lib.hid hokb
  have h1 := (Below.refl w.heap.size w).alloc (Nat.le_refl _) (.cells (#[.int .i64 per, .slice Ai ni ci, .slice Ap np cp, .slice At nt ct] : Array Value) 43)
  have k1 := Blk.new w 43 #[.int .i64 per, .slice Ai ni ci, .slice Ap np cp, .slice At nt ct]
  obtain ⟨wy, hwy⟩ : ∃ wy, w.alloc (.cells (#[.int .i64 per, .slice Ai ni ci, .slice Ap np cp, .slice At nt ct] : Array Value) 43) = wy := ⟨_, rfl⟩
  rw [hwy] at h1 k1
  have h2 := h1.alloc h1.size (.cells (#[.int .i64 q.verb, .slice Ab nb cb, .slice Aw nw cw] : Array Value) 32)
  have k2 := Blk.new wy 32 #[.int .i64 q.verb, .slice Ab nb cb, .slice Aw nw cw]
  have k3 := k1.alloc (.cells (#[.int .i64 q.verb, .slice Ab nb cb, .slice Aw nw cw] : Array Value) 32)
  obtain ⟨wz, hwz⟩ : ∃ wz, wy.alloc (.cells (#[.int .i64 q.verb, .slice Ab nb cb, .slice Aw nw cw] : Array Value) 32) = wz := ⟨_, rfl⟩
  rw [hwz] at h2 k2 k3
  obtain ⟨X, hX⟩ : ∃ X, wy.heap.size = X := ⟨_, rfl⟩
  rw [hX] at k2
  have HS0 : Hid (QfS w X per (.slice Ai ni ci) (.slice Ap np cp) (.slice At nt ct) q.verb (.slice Ab nb cb) (.slice Aw nw cw) wz) := ⟨h2, k3.cell 0, k3.cell 1, k3.cell 2, k3.cell 3, k2.cell 0, k2.cell 1, k2.cell 2⟩
  clear hE hEE hri hrp hpq hb hw hnw hli hlp hnb hokb h1 k1 h2 k2 k3
  have HTO : Hid (nw ≤ 30 → ∀ x, Below w.heap.size w x → Calls Tryz.prog 18 #[.agg #[.int .i64 q.verb, .slice Ab nb cb, .slice Aw nw cw]] x fun e w' => ∃ A' c', e = .returned (.agg #[.int .i64 q.verb, .slice Ab nb cb, .slice A' nw c']) ∧ w'.ownsRow x.heap.size 95 3 (.slice A' nw c') nw (cndC q.wh) ∧ Below x.heap.size x w') := fun hf x h =>
    to_any q.verb q.wh Ab Aw nb nw cb cw w.heap.size x (HWH.out x h) h.size (by omega)
  have HVA : Hid (nb ≤ 10 → ∀ A2 c2 x b, Below w.heap.size w x → x.ownsRow b 95 3 (.slice A2 nw c2) nw (cndC q.wh) → Calls Tryz.prog 20 #[.agg #[.int .i64 q.verb, .slice Ab nb cb, .slice A2 nw c2]] x fun e w' => e = .returned (.bool okb) ∧ Below x.heap.size x w') := fun hf A2 c2 x b h ho => by
    by_cases hok : OkQ q
    · rw [HOKB.out.2 hok]
      exact valid_yes q Ab A2 nb nw cb c2 x.heap.size x hok ((HBY.out x h).more h.size) HNB.out.symm hcb (Reads.of_own ho) (Nat.le_refl _) (by omega)
    · rw [bfalse HOKB.out hok]
      exact valid_no q Ab A2 nb nw cb c2 x.heap.size x hok ((HBY.out x h).more h.size) HNB.out.symm hcb (Reads.of_own ho) (Nat.le_refl _) (by omega)
  have HRV : Hid (nb ≤ 10 ∧ nw ≤ 30 → ∀ x, Below w.heap.size w x → Calls Tryz.prog 21 #[.agg #[.int .i64 q.verb, .slice Ab nb cb, .slice Aw nw cw]] x fun e w' => e = .returned (.bool okb) ∧ Below x.heap.size x w') := fun hf x h => by
    refine (rvalid_any q Ab Aw nb nw cb cw w.heap.size x (HBY.out x h) HNB.out.symm hcb (HWH.out x h) h.size (by omega) (by omega)).mono ?_
    rintro e w' ⟨⟨b, rfl, hbq⟩, hb⟩
    refine ⟨?_, hb⟩
    by_cases hok : OkQ q
    · rw [HOKB.out.2 hok, hbq.2 hok]
    · rw [bfalse HOKB.out hok, bfalse hbq hok]
  have HOC : Hid (okb = true → ∀ c, c ∈ q.wh → okCnd c) := fun h => (HOKB.out.1 h).cn
  have HBYO : Hid (okb = true → nb ≤ 5 ∧ ∀ k, k < nb → 0 ≤ q.by_.getD k 0 ∧ q.by_.getD k 0 ≤ 4) := fun h => ⟨by have := by_len (HOKB.out.1 h); rw [HNB.out] at this; exact this, fun k hk => (HOKB.out.1 h).br k (by rw [HNB.out]; exact hk)⟩
  have HFK : Hid (FewR its pos nb nw → ∀ f, f ∈ factsL its pos → okFct f) := fun h => facts_ok hoi hop h
  have HRUN : Hid (FewR its pos nb nw → ∀ A2 c2 y b, Below w.heap.size w y → y.ownsRow b 95 3 (.slice A2 nw c2) nw (cndC q.wh) → Calls Tryz.prog 26 #[.agg #[.int .i64 per, .slice Ai ni ci, .slice Ap np cp, .slice At nt ct], .agg #[.int .i64 q.verb, .slice Ab nb cb, .slice A2 nw c2]] y fun e w' => RunSays okb nb (sumsI q.verb q.by_ (fun f => q.wh.all fun c => cndB c f) (factsL its pos)) e w' ∧ Below y.heap.size y w') := fun hf A2 c2 y b h ho =>
    run_core per q.verb _ _ _ q.by_ q.wh Ab A2 nb cb nw c2 (factsL its pos) okb y (fun x hx => HVA.out hf.lb A2 c2 x b (below_two h hx) (own_below ho hx))
      (fun hok x hx => filter_any q.verb q.wh Ab A2 nb nw cb c2 x.heap.size x (HOC.out hok) (Reads.of_own (own_below ho hx)) (Nat.le_refl _) (by have := hf.lw; omega))
      (fun hok x hx => facts_any per its pos Ai Ap At ni ci np cp nt ct w.heap.size x (HRI.out x (below_two h hx)) (HRP.out x (below_two h hx)) (HPI.out x (below_two h hx)) (below_two h hx).size HLI.out HLP.out (by have := hf.li; have := HLI.out; omega) (by have := hf.lp; have := HLP.out; omega) hf.lq)
      ((HBY.out y h).more h.size) HNB.out hcb HBYO.out HNW.out (fun _ => by have := hf.lw; omega) HOC.out (HFK.out hf) (by have := facts_len hf.li hf.lp hf.lq; omega)
  have HRR : Hid (FewR its pos nb nw → ∀ y, Below w.heap.size w y → Calls Tryz.prog 27 #[.agg #[.int .i64 per, .slice Ai ni ci, .slice Ap np cp, .slice At nt ct], .agg #[.int .i64 q.verb, .slice Ab nb cb, .slice Aw nw cw]] y fun e w' => RunSays okb nb (sumsI q.verb q.by_ (fun f => q.wh.all fun c => cndB c f) (factsL its pos)) e w' ∧ Below y.heap.size y w') := fun hf y h =>
    rrun_core per q.verb _ _ _ q.by_ Ab Aw nb cb nw cw (factsL its pos) okb (fun f => q.wh.all fun c => cndB c f) y (fun x hx => HRV.out ⟨hf.lb, hf.lw⟩ x (below_two h hx))
      (fun hok f x hx => by
        have hr := rholds_any f q.verb q.wh okb Ab Aw nb nw cb cw w.heap.size x (below_two h hx).size (HWH.out x (below_two h hx)) (by have := hf.lw; omega) HOC.out (fun y2 hy => HRV.out ⟨hf.lb, hf.lw⟩ y2 (below_two (below_two h hx) hy))
        rw [hok, Bool.true_and] at hr
        exact hr)
      (fun hok x hx => rfacts_any per its pos Ai Ap At ni ci np cp nt ct w.heap.size x (HRI.out x (below_two h hx)) (HRP.out x (below_two h hx)) (HPI.out x (below_two h hx)) (below_two h hx).size HLI.out HLP.out (by have := hf.li; have := HLI.out; omega) (by have := hf.lp; have := HLP.out; omega) hf.lq)
      ((HBY.out y h).more h.size) HNB.out hcb HBYO.out (HFK.out hf) (by have := facts_len hf.li hf.lp hf.lq; omega)
  have HLN : Hid (FewR its pos nb nw → (sumsI q.verb q.by_ (fun f => q.wh.all fun c => cndB c f) (factsL its pos)).length ≤ 1000) := fun hf => by
    have h1 := sumsI_len (verb := q.verb) (byl := q.by_) (p := fun f => q.wh.all fun c => cndB c f) (F := factsL its pos) (factsL its pos).length (Nat.le_refl _)
    rw [List.take_of_length_le (Nat.le_refl _)] at h1
    have h2 := facts_len hf.li hf.lp hf.lq
    omega
  clear HVA HRV HOC HBY HWH HOKB HNW HNB HBYO HFK HRI HRP HPI HLI HLP hoi hop
  generalize cndC q.wh = LW at *
  generalize sumsI q.verb q.by_ (fun f => q.wh.all fun c => cndB c f) (factsL its pos) = LL at *
  generalize q.wh = wh at *
  generalize q.verb = verb at *
  have r0 := HS0.out.r0
  have r1 := HS0.out.r1
  have r2 := HS0.out.r2
  have r3 := HS0.out.r3
  have q0 := HS0.out.q0
  have q1 := HS0.out.q1
  have q2 := HS0.out.q2
  obtain ⟨l1, l2⟩ := HS0.out.lt
  go_enter Tryz.func7, Tryz.ntmps7
  go_wp2_with fail
  refine (awake_true _ (HEB.out _ HS0.out.below) (HEEB.out _ HS0.out.below)).mono ?_
  rintro e w1 ⟨rfl, hb⟩
  have HS := Lib.hid (HS0.out.same hb)
  clear hb HS0 r0 r1 r2 r3 q0 q1 q2 l1 l2 hwz hwy
  have r0 := HS.out.r0
  have r1 := HS.out.r1
  have r2 := HS.out.r2
  have r3 := HS.out.r3
  have q0 := HS.out.q0
  have q1 := HS.out.q1
  have q2 := HS.out.q2
  obtain ⟨l1, l2⟩ := HS.out.lt
  go_wp2_with fail
  refine (HFW.out _ HS.out.below).mono ?_
  rintro e w2 ⟨hfew, hb⟩
  obtain ⟨fb, rfl, hfr⟩ := hfew
  have HS2 := Lib.hid (HS.out.same hb)
  clear hb HS r0 r1 r2 r3 q0 q1 q2 l1 l2
  have HS := HS2
  clear HS2
  have r0 := HS.out.r0
  have r1 := HS.out.r1
  have r2 := HS.out.r2
  have r3 := HS.out.r3
  have q0 := HS.out.q0
  have q1 := HS.out.q1
  have q2 := HS.out.q2
  obtain ⟨l1, l2⟩ := HS.out.lt
  cases fb with
  | false =>
    go_wp2_with fail
    refine (awake_true _ (HEB.out _ HS.out.below) (HEEB.out _ HS.out.below)).mono ?_
    rintro e w3 ⟨rfl, hb⟩
    have HSF := Lib.hid (HS.out.same hb).below
    clear hb
    go_wp2_with fail
    go_ret
    exact ⟨rfl, HSF.out⟩
  | true =>
    have HFR := Lib.hid (hfr rfl)
    clear hfr
    -- REGION 3
    go_upto_region 3 with fail
    refine wp_region_held_drew (S := fun w' => QfS w X per (.slice Ai ni ci) (.slice Ap np cp) (.slice At nt ct) verb (.slice Ab nb cb) (.slice Aw nw cw) w') (by kernel_rfl) (HS.out.same (Below.refl _ _).drew) (fun hHeld => ?_)
    refine wpAnyH_take (i := 0) (v := ?vf0) rfl (by kernel_rfl) (by kernel_rfl) (by kernel_rfl) (fun _ _ _ h => h) (Or.inl ⟨by rfl, ?hyf0⟩) (by assumption) ?restf0
    case hyf0 => (intro w_ hSw; (try dsimp only at hSw); obtain ⟨_, r0_, r1_, r2_, r3_, q0_, q1_, q2_⟩ := hSw; go_simp; (try with_reducible rfl))
    (try simp only [Act.put, List.setIfInBounds_toArray, List.set_cons_zero, List.set_cons_succ, List.getElem_toArray, List.getElem_cons_zero, List.getElem_cons_succ])
    refine wpAnyH_take (i := 1) (v := ?vf1) rfl (by kernel_rfl) (by kernel_rfl) (by kernel_rfl) (fun _ _ _ h => h) (Or.inl ⟨by rfl, ?hyf1⟩) (by assumption) ?restf1
    case hyf1 => (intro w_ hSw; (try dsimp only at hSw); obtain ⟨_, r0_, r1_, r2_, r3_, q0_, q1_, q2_⟩ := hSw; go_simp; (try with_reducible rfl))
    (try simp only [Act.put, List.setIfInBounds_toArray, List.set_cons_zero, List.set_cons_succ, List.getElem_toArray, List.getElem_cons_zero, List.getElem_cons_succ])
    refine wpAnyH_ready (rs := [2]) (by kernel_rfl) (by simp) ?_
    refine (AllReadyH.cons rfl (fun K hK => ?_) AllReadyH.nil)
    go_simp
    refine (HTO.out HFR.out.lw _ hHeld.below).mono ?_
    rintro e w3 ⟨A2, c2, rfl, ho2, hb3⟩
    have HO2 := Lib.hid ho2
    dsimp only
    refine hK.out _ _ ?hSf2 (fun hHeld1 => ?_)
    case hSf2 => exact hHeld.same hb3
    clear hK K hb3 ho2
    (try simp only [Act.put, List.setIfInBounds_toArray, List.set_cons_zero, List.set_cons_succ, List.getElem_toArray, List.getElem_cons_zero, List.getElem_cons_succ])
    refine wpAnyH_ready (rs := [3]) (by kernel_rfl) (by simp) ?_
    refine (AllReadyH.cons rfl (fun K hK => ?_) AllReadyH.nil)
    go_simp
    refine (HRUN.out HFR.out A2 c2 _ _ hHeld1.below HO2.out).mono ?_
    rintro e w4 ⟨hsay, hb4⟩
    obtain ⟨A3, n3, c3, E3, rs3, rfl, hs3⟩ := run_res hsay
    have HS3 := Lib.hid hs3
    dsimp only
    refine hK.out _ _ ?hSf3 (fun hHeld2 => ?_)
    case hSf3 => exact hHeld1.same hb4
    clear hK K hb4 hsay hs3
    (try simp only [Act.put, List.setIfInBounds_toArray, List.set_cons_zero, List.set_cons_succ, List.getElem_toArray, List.getElem_cons_zero, List.getElem_cons_succ])
    refine wpAnyH_take (i := 4) (v := ?vf4) rfl (by kernel_rfl) (by kernel_rfl) (by kernel_rfl) (fun _ _ _ h => h) (Or.inl ⟨by rfl, ?hyf4⟩) (by assumption) ?restf4
    case hyf4 => (intro w_ hSw; (try dsimp only at hSw); obtain ⟨_, r0_, r1_, r2_, r3_, q0_, q1_, q2_⟩ := hSw; go_simp; (try with_reducible rfl))
    (try simp only [Act.put, List.setIfInBounds_toArray, List.set_cons_zero, List.set_cons_succ, List.getElem_toArray, List.getElem_cons_zero, List.getElem_cons_succ])
    refine wpAnyH_take (i := 5) (v := ?vf5) rfl (by kernel_rfl) (by kernel_rfl) (by kernel_rfl) (fun _ _ _ h => h) (Or.inl ⟨by rfl, ?hyf5⟩) (by assumption) ?restf5
    case hyf5 => (intro w_ hSw; (try dsimp only at hSw); obtain ⟨_, r0_, r1_, r2_, r3_, q0_, q1_, q2_⟩ := hSw; go_simp; (try with_reducible rfl))
    (try simp only [Act.put, List.setIfInBounds_toArray, List.set_cons_zero, List.set_cons_succ, List.getElem_toArray, List.getElem_cons_zero, List.getElem_cons_succ])
    refine wpAnyH_take (i := 6) (v := ?vf6) rfl (by kernel_rfl) (by kernel_rfl) (by kernel_rfl) (fun _ _ _ h => h) (Or.inl ⟨by rfl, ?hyf6⟩) (by assumption) ?restf6
    case hyf6 => (intro w_ hSw; (try dsimp only at hSw); obtain ⟨_, r0_, r1_, r2_, r3_, q0_, q1_, q2_⟩ := hSw; go_simp; (try with_reducible rfl))
    (try simp only [Act.put, List.setIfInBounds_toArray, List.set_cons_zero, List.set_cons_succ, List.getElem_toArray, List.getElem_cons_zero, List.getElem_cons_succ])
    refine wpAnyH_take (i := 7) (v := ?vf7) rfl (by kernel_rfl) (by kernel_rfl) (by kernel_rfl) (fun _ _ _ h => h) (Or.inl ⟨by rfl, ?hyf7⟩) (by assumption) ?restf7
    case hyf7 => (intro w_ hSw; (try dsimp only at hSw); obtain ⟨_, r0_, r1_, r2_, r3_, q0_, q1_, q2_⟩ := hSw; go_simp; (try with_reducible rfl))
    (try simp only [Act.put, List.setIfInBounds_toArray, List.set_cons_zero, List.set_cons_succ, List.getElem_toArray, List.getElem_cons_zero, List.getElem_cons_succ])
    refine wpAnyH_take (i := 8) (v := ?vf8) rfl (by kernel_rfl) (by kernel_rfl) (by kernel_rfl) (fun _ _ _ h => h) (Or.inl ⟨by rfl, ?hyf8⟩) (by assumption) ?restf8
    case hyf8 => (intro w_ hSw; (try dsimp only at hSw); obtain ⟨_, r0_, r1_, r2_, r3_, q0_, q1_, q2_⟩ := hSw; go_simp; (try with_reducible rfl))
    (try simp only [Act.put, List.setIfInBounds_toArray, List.set_cons_zero, List.set_cons_succ, List.getElem_toArray, List.getElem_cons_zero, List.getElem_cons_succ])
    refine wpAnyH_done (by kernel_rfl) ?_ _
    -- END 3
    have HS4 := Lib.hid hHeld2
    clear hHeld hHeld1 hHeld2 HS r0 r1 r2 r3 q0 q1 q2 l1 l2 HO2 HTO HRUN
    have r0 := HS4.out.r0
    have r1 := HS4.out.r1
    have r2 := HS4.out.r2
    have r3 := HS4.out.r3
    have q0 := HS4.out.q0
    have q1 := HS4.out.q1
    have q2 := HS4.out.q2
    obtain ⟨l1, l2⟩ := HS4.out.lt
    go_wp2_with fail
    refine (HRR.out HFR.out _ HS4.out.below).mono ?_
    rintro e w5 ⟨hsay, hb5⟩
    obtain ⟨A5, n5, c5, E5, rs5, rfl, hs5⟩ := run_res hsay
    obtain ⟨h31, h32, h33, h34, h35⟩ := HS3.out
    obtain ⟨h51, h52, h53, h54, h55⟩ := hs5
    obtain ⟨rfl, hmap⟩ := Prod.mk.inj (h35.trans h55.symm)
    obtain ⟨hlen, heq⟩ := rows_eq hmap
    obtain rfl : n3 = n5 := by omega
    have hn3 : n3 ≤ 1000 := by have := HLN.out HFR.out; omega
    have hee : (E3 == E3) = true := by simp
    have HRW : Hid (Calls Tryz.prog 29 #[.slice A3 n3 c3] w5 fun e w' => ∃ A' c', e = .returned (.slice A' n3 c') ∧ w'.ownsRow w5.heap.size 128 2 (.slice A' n3 c') n3 (rrowsC rs3) ∧ Below w5.heap.size w5 w') := rows_any rs3 A3 n3 c3 w4.heap.size w5 (h31.below hb5) hb5.size hn3 h32
    have HSR : Hid (∀ A6 c6 w6, Below w5.heap.size w5 w6 → w6.ownsRow w5.heap.size 128 2 (.slice A6 n3 c6) n3 (rrowsC rs3) → Calls Tryz.prog 28 #[.slice A6 n3 c6, .slice A5 n3 c5] w6 fun e w' => e = .returned (.bool true) ∧ Below w6.heap.size w6 w') := fun A6 c6 w6 hb6 ho6 =>
      srows_yes rs3 rs5 A6 A5 n3 c6 c5 w6.heap.size w6 (Nat.le_refl _) (Reads.of_own ho6) ((h51.below hb6).more hb6.size) hn3 h32 h52
        (fun k hk => (((h34 k hk).1.keep (Nat.le_refl _) hb5).more hb5.size |>.keep (Nat.le_refl _) hb6).more hb6.size)
        (fun k hk => ((h54 k hk).1.keep (Nat.le_refl _) hb6).more hb6.size) (fun k hk => heq k (by omega))
    have HBF := Lib.hid (below_two HS4.out.below hb5)
    clear h31 h32 h33 h34 h35 h51 h52 h53 h54 h55 hmap hlen heq hsay hb5 HS3 HS4 r0 r1 r2 r3 q0 q1 q2 l1 l2 HRR
    go_wp2_with fail
    refine HRW.out.mono ?_
    rintro e w6 ⟨A6, c6, rfl, ho6, hb6⟩
    have HSR2 := Lib.hid (HSR.out A6 c6 w6 hb6 ho6)
    have HBF6 := Lib.hid (below_two HBF.out hb6)
    clear ho6 hb6 HSR HRW
    go_wp2_with fail
    refine HSR2.out.mono ?_
    rintro e w7 ⟨rfl, hb7⟩
    have HBF7 := Lib.hid (below_two HBF6.out hb7)
    clear hb7
    go_wp2_with fail
    go_ret
    exact ⟨rfl, HBF7.out⟩
end Go.Proofs.YtfnlddloalineaaGreatDoor
