/-
  Run at any query, and the total of its answer.
-/
import Derived.Test.YtfnlddloalineaaGreatDoorRes
namespace Go.Proofs.YtfnlddloalineaaGreatDoor
open Go.RowKit
set_option linter.unusedVariables false
set_option linter.unusedSimpArgs false
set_option maxRecDepth 100000
def predQ (wh : List SCond) : SFact → Bool := fun f => wh.all fun c => cndB c f
/-- the sums that a query asks for -/
def sumsQ (q : SQry) (F : List SFact) : List (K5 × Int) := sumsI q.verb q.by_ (predQ q.wh) F
theorem valid_bool (q : SQry) (okb : Bool) (hokb : okb = true ↔ OkQ q) (Ab Aw : Option Addr) (nb nw cb cw B : Nat) (w : World) (hb : RdBy w B Ab q.by_) (hnb : nb = q.by_.length) (hcb : nb ≤ cb) (hw : Reads w B 3 Aw nw (cndC q.wh)) (hB : B ≤ w.heap.size) (hn : nb ≤ 10000) :
    Calls Tryz.prog 20 #[.agg #[.int .i64 q.verb, .slice Ab nb cb, .slice Aw nw cw]] w fun e w' => e = .returned (.bool okb) ∧ Below w.heap.size w w' := by
  by_cases h : OkQ q
  · rw [hokb.2 h]
    exact valid_yes q Ab Aw nb nw cb cw B w h hb hnb hcb hw hB hn
  · rw [bfalse hokb h]
    exact valid_no q Ab Aw nb nw cb cw B w h hb hnb hcb hw hB hn
/-- Run at any result with small amounts and any query -/
theorem runq_any (per : Int) (its : List SItem) (pos : List SPost) (Ai Ap At : Option Addr) (ni ci np cp nt ct : Nat) (q : SQry) (Ab Aw : Option Addr) (nb cb nw cw n0 m0 : Nat) (okb : Bool) (w : World)
    (hri : Reads w w.heap.size 7 Ai ni (its.flatMap itemC)) (hli : its.length = ni) (hrp : Reads w w.heap.size 5 Ap np (pos.flatMap postC)) (hlp : pos.length = np) (hpq : ∀ x ∈ pos, PostIn w w.heap.size x) (hf : FewR its pos n0 m0) (hok : ∀ f, f ∈ factsL its pos → okFct f)
    (hb : RdBy w w.heap.size Ab q.by_) (hnb : q.by_.length = nb) (hcb : nb ≤ cb) (hw : Reads w w.heap.size 3 Aw nw (cndC q.wh)) (hn1 : nb ≤ 10000) (hn2 : nw ≤ 1000) (hokb : okb = true ↔ OkQ q) :
    Calls Tryz.prog 26 #[.agg #[.int .i64 per, .slice Ai ni ci, .slice Ap np cp, .slice At nt ct], .agg #[.int .i64 q.verb, .slice Ab nb cb, .slice Aw nw cw]] w fun e w' => RunSays okb nb (sumsQ q (factsL its pos)) e w' ∧ Below w.heap.size w w' := by
  have hnw : q.wh.length = nw := by have := hw.1; rw [cndC_len] at this; omega
  refine run_core per q.verb _ _ _ q.by_ q.wh Ab Aw nb cb nw cw (factsL its pos) okb w (fun x hx => ?_) (fun ho x hx => ?_) (fun ho x hx => ?_) hb hnb hcb (fun ho => ?_) hnw (fun _ => hn2) (fun ho => (hokb.1 ho).cn) hok (by have := facts_len hf.li hf.lp hf.lq; omega)
  · exact valid_bool q okb hokb Ab Aw nb nw cb cw w.heap.size x (hb.low (Nat.le_refl _) (Nat.le_refl _) hx) hnb.symm hcb (hw.below hx) hx.size hn1
  · exact filter_any q.verb q.wh Ab Aw nb nw cb cw w.heap.size x (hokb.1 ho).cn (hw.below hx) hx.size (by omega)
  · exact facts_any per its pos Ai Ap At ni ci np cp nt ct w.heap.size x (hri.below hx) (hrp.below hx) (fun p hp => ⟨(hpq p hp).1.below hx, (hpq p hp).2⟩) hx.size hli hlp (by have := hf.li; omega) (by have := hf.lp; omega) hf.lq
  · refine ⟨?_, fun k hk => (hokb.1 ho).br k (by omega)⟩
    have := by_len (hokb.1 ho)
    omega
def sumV : List Int → Int
  | [] => 0
  | x :: r => x + sumV r
theorem sumV_app (a b : List Int) : sumV (a ++ b) = sumV a + sumV b := by
  induction a with
  | nil => rw [List.nil_append]; show _ = 0 + _; omega
  | cons x r ih => rw [List.cons_append]; show x + sumV (r ++ b) = x + sumV r + sumV b; omega
def okM (n : Int) : Prop := -1000000000000 ≤ n ∧ n ≤ 1000000000000
theorem moneyB_ok {n : Int} (h : moneyB n = true) : okM n := by
  unfold moneyB at h
  rw [Bool.and_eq_true, decide_eq_true_eq, decide_eq_true_eq] at h
  exact h
theorem sumV_small : ∀ {l : List Int}, (∀ x ∈ l, okM x) → sumV l ≤ l.length * 1000000000000 ∧ -((l.length : Int) * 1000000000000) ≤ sumV l := by
  intro l
  induction l with
  | nil => intro _; exact ⟨by show (0 : Int) ≤ _; simp, by show _ ≤ (0 : Int); simp⟩
  | cons x r ih =>
    intro h
    have h1 := ih (fun y hy => h y (List.mem_cons_of_mem _ hy))
    have h2 := h x (by simp)
    unfold okM at h2
    rw [List.length_cons]
    show x + sumV r ≤ _ ∧ _ ≤ x + sumV r
    push_cast
    omega
theorem resV_small {okb : Bool} {nb : Nat} {l : List (K5 × Int)} : ∀ p, p ∈ (resV okb nb l).2 → okM p.2 := by
  intro p hp
  unfold resV at hp
  split at hp
  · simp at hp
  · split at hp
    · rename_i h
      obtain ⟨x, hx, rfl⟩ := List.mem_map.1 hp
      exact moneyB_ok (List.all_eq_true.1 h x hx)
    · simp at hp
def totV (okb : Bool) (nb : Nat) (l : List (K5 × Int)) : Int := sumV ((resV okb nb l).2.map (·.2))
def okV (okb : Bool) (nb : Nat) (l : List (K5 × Int)) : Bool := (resV okb nb l).1 == 0
theorem RdBy.any {w w' : World} {B : Nat} {A : Option Addr} {l : List Int} (h : RdBy w B A l) (hB : B ≤ w.heap.size) (hb : Below w.heap.size w w') : RdBy w' w'.heap.size A l := (h.low hB (Nat.le_refl _) hb).more (Nat.le_trans hB hb.size)
theorem Reads.any {w w' : World} {B size n : Nat} {A : Option Addr} {xs : List Value} (h : Reads w B size A n xs) (hB : B ≤ w.heap.size) (hb : Below w.heap.size w w') : Reads w' w'.heap.size size A n xs := (h.lowQ hB (Nat.le_refl _) hb).more (Nat.le_trans hB hb.size)
set_option maxHeartbeats 8000000 in
theorem total_any (per : Int) (its : List SItem) (pos : List SPost) (Ai Ap At : Option Addr) (ni ci np cp nt ct : Nat) (q : SQry) (Ab Aw : Option Addr) (nb cb nw cw n0 m0 B : Nat) (okb : Bool) (w : World) (hB : B ≤ w.heap.size)
    (hri : Reads w B 7 Ai ni (its.flatMap itemC)) (hli : its.length = ni) (hrp : Reads w B 5 Ap np (pos.flatMap postC)) (hlp : pos.length = np) (hpq : ∀ x ∈ pos, PostIn w B x) (hf : FewR its pos n0 m0) (hok : ∀ f, f ∈ factsL its pos → okFct f)
    (hb : RdBy w B Ab q.by_) (hnb : q.by_.length = nb) (hcb : nb ≤ cb) (hw : Reads w B 3 Aw nw (cndC q.wh)) (hn1 : nb ≤ 10000) (hn2 : nw ≤ 1000) (hokb : okb = true ↔ OkQ q) :
    Calls Tryz.prog 31 #[.agg #[.int .i64 per, .slice Ai ni ci, .slice Ap np cp, .slice At nt ct], .agg #[.int .i64 q.verb, .slice Ab nb cb, .slice Aw nw cw]] w fun e w' => e = .returned (.tuple #[.int .i64 (totV okb nb (sumsQ q (factsL its pos))), .bool (okV okb nb (sumsQ q (factsL its pos)))]) ∧ Below w.heap.size w w' := by
  have HTO : Hid (∀ x, Below w.heap.size w x → Calls Tryz.prog 18 #[.agg #[.int .i64 q.verb, .slice Ab nb cb, .slice Aw nw cw]] x fun e w' => ∃ A' c', e = .returned (.agg #[.int .i64 q.verb, .slice Ab nb cb, .slice A' nw c']) ∧ w'.ownsRow x.heap.size 95 3 (.slice A' nw c') nw (cndC q.wh) ∧ Below x.heap.size x w') := fun x hx =>
    to_any q.verb q.wh Ab Aw nb nw cb cw x.heap.size x (hw.any hB hx) (Nat.le_refl _) hn2
  have HRUN : Hid (∀ A2 c2 y b, Below w.heap.size w y → y.ownsRow b 95 3 (.slice A2 nw c2) nw (cndC q.wh) → Calls Tryz.prog 26 #[.agg #[.int .i64 per, .slice Ai ni ci, .slice Ap np cp, .slice At nt ct], .agg #[.int .i64 q.verb, .slice Ab nb cb, .slice A2 nw c2]] y fun e w' => RunSays okb nb (sumsQ q (factsL its pos)) e w' ∧ Below y.heap.size y w') := fun A2 c2 y b hy ho =>
    runq_any per its pos Ai Ap At ni ci np cp nt ct q Ab A2 nb cb nw c2 n0 m0 okb y (hri.any hB hy) hli (hrp.any hB hy) hlp (fun x hx => ⟨(hpq x hx).1.any hB hy, (hpq x hx).2⟩) hf hok (hb.any hB hy) hnb hcb (Reads.of_own ho) hn1 hn2 hokb
  have hln : (sumsQ q (factsL its pos)).length ≤ 1000 := by
    have h1 := sumsI_len (verb := q.verb) (byl := q.by_) (p := predQ q.wh) (F := factsL its pos) (factsL its pos).length (Nat.le_refl _)
    rw [List.take_of_length_le (Nat.le_refl _)] at h1
    have h2 := facts_len hf.li hf.lp hf.lq
    show (sumsI q.verb q.by_ (predQ q.wh) (factsL its pos)).length ≤ 1000
    omega
  clear hri hrp hpq hf hok hb hw hokb
  generalize sumsQ q (factsL its pos) = LL at *
  generalize cndC q.wh = LW at *
  generalize q.verb = verb at *
  have h1 := (Below.refl w.heap.size w).alloc (Nat.le_refl _) (.cells (#[.int .i64 per, .slice Ai ni ci, .slice Ap np cp, .slice At nt ct] : Array Value) 43)
  have k1 := Blk.new w 43 #[.int .i64 per, .slice Ai ni ci, .slice Ap np cp, .slice At nt ct]
  obtain ⟨wy, hwy⟩ : ∃ wy, w.alloc (.cells (#[.int .i64 per, .slice Ai ni ci, .slice Ap np cp, .slice At nt ct] : Array Value) 43) = wy := ⟨_, rfl⟩
  rw [hwy] at h1 k1
  have h2 := h1.alloc h1.size (.cells (#[.int .i64 verb, .slice Ab nb cb, .slice Aw nw cw] : Array Value) 32)
  have k2 := Blk.new wy 32 #[.int .i64 verb, .slice Ab nb cb, .slice Aw nw cw]
  have k3 := k1.alloc (.cells (#[.int .i64 verb, .slice Ab nb cb, .slice Aw nw cw] : Array Value) 32)
  obtain ⟨wz, hwz⟩ : ∃ wz, wy.alloc (.cells (#[.int .i64 verb, .slice Ab nb cb, .slice Aw nw cw] : Array Value) 32) = wz := ⟨_, rfl⟩
  rw [hwz] at h2 k2 k3
  obtain ⟨X, hX⟩ : ∃ X, wy.heap.size = X := ⟨_, rfl⟩
  rw [hX] at k2
  have HS : Hid (QfS w X per (.slice Ai ni ci) (.slice Ap np cp) (.slice At nt ct) verb (.slice Ab nb cb) (.slice Aw nw cw) wz) := ⟨h2, k3.cell 0, k3.cell 1, k3.cell 2, k3.cell 3, k2.cell 0, k2.cell 1, k2.cell 2⟩
  clear h1 k1 h2 k2 k3
  go_enter Tryz.func31, Tryz.ntmps31
  -- RUNREG a 1 | ⟨_, r0_, r1_, r2_, r3_, q0_, q1_, q2_⟩ | fun w' => QfS w X per (.slice Ai ni ci) (.slice Ap np cp) (.slice At nt ct) verb (.slice Ab nb cb) (.slice Aw nw cw) w' | (HS.out.same (Below.refl _ _).drew) | HTO.out _ hHeld.below | HRUN.out A2 c2 _ _ hHeld1.below HO2.out | QfS.same
  go_upto_region 1 with fail
  refine wp_region_held_drew (S := fun w' => QfS w X per (.slice Ai ni ci) (.slice Ap np cp) (.slice At nt ct) verb (.slice Ab nb cb) (.slice Aw nw cw) w') (by kernel_rfl) (HS.out.same (Below.refl _ _).drew) (fun hHeld => ?_)
  refine wpAnyH_take (i := 0) (v := ?va0) rfl (by kernel_rfl) (by kernel_rfl) (by kernel_rfl) (fun _ _ _ h => h) (Or.inl ⟨by rfl, ?hya0⟩) (by assumption) ?resta0
  case hya0 => (intro w_ hSw; (try dsimp only at hSw); obtain ⟨_, r0_, r1_, r2_, r3_, q0_, q1_, q2_⟩ := hSw; go_simp; (try with_reducible rfl))
  (try simp only [Act.put, List.setIfInBounds_toArray, List.set_cons_zero, List.set_cons_succ, List.getElem_toArray, List.getElem_cons_zero, List.getElem_cons_succ])
  refine wpAnyH_take (i := 1) (v := ?va1) rfl (by kernel_rfl) (by kernel_rfl) (by kernel_rfl) (fun _ _ _ h => h) (Or.inl ⟨by rfl, ?hya1⟩) (by assumption) ?resta1
  case hya1 => (intro w_ hSw; (try dsimp only at hSw); obtain ⟨_, r0_, r1_, r2_, r3_, q0_, q1_, q2_⟩ := hSw; go_simp; (try with_reducible rfl))
  (try simp only [Act.put, List.setIfInBounds_toArray, List.set_cons_zero, List.set_cons_succ, List.getElem_toArray, List.getElem_cons_zero, List.getElem_cons_succ])
  refine wpAnyH_ready (rs := [2]) (by kernel_rfl) (by simp) ?_
  refine (AllReadyH.cons rfl (fun K hK => ?_) AllReadyH.nil)
  go_simp
  refine (HTO.out _ hHeld.below).mono ?_
  rintro e wta ⟨A2, c2, rfl, ho2, hb3⟩
  have HO2 := Lib.hid ho2
  dsimp only
  refine hK.out _ _ ?hSa2 (fun hHeld1 => ?_)
  case hSa2 => exact QfS.same hHeld hb3
  clear hK K hb3 ho2
  (try simp only [Act.put, List.setIfInBounds_toArray, List.set_cons_zero, List.set_cons_succ, List.getElem_toArray, List.getElem_cons_zero, List.getElem_cons_succ])
  refine wpAnyH_ready (rs := [3]) (by kernel_rfl) (by simp) ?_
  refine (AllReadyH.cons rfl (fun K hK => ?_) AllReadyH.nil)
  go_simp
  refine (HRUN.out A2 c2 _ _ hHeld1.below HO2.out).mono ?_
  rintro e wra ⟨hsay, hb4⟩
  obtain ⟨Aa, na, ca, Ea, rsa, rfl, hs3⟩ := run_res hsay
  have HSa := Lib.hid hs3
  dsimp only
  refine hK.out _ _ ?hSa3 (fun hHeld2 => ?_)
  case hSa3 => exact QfS.same hHeld1 hb4
  have HDa := Lib.hid hHeld2
  clear hK K hb4 hsay hs3
  (try simp only [Act.put, List.setIfInBounds_toArray, List.set_cons_zero, List.set_cons_succ, List.getElem_toArray, List.getElem_cons_zero, List.getElem_cons_succ])
  refine wpAnyH_take (i := 4) (v := ?va4) rfl (by kernel_rfl) (by kernel_rfl) (by kernel_rfl) (fun _ _ _ h => h) (Or.inl ⟨by rfl, ?hya4⟩) (by assumption) ?resta4
  case hya4 => (intro w_ hSw; (try dsimp only at hSw); obtain ⟨_, r0_, r1_, r2_, r3_, q0_, q1_, q2_⟩ := hSw; go_simp; (try with_reducible rfl))
  (try simp only [Act.put, List.setIfInBounds_toArray, List.set_cons_zero, List.set_cons_succ, List.getElem_toArray, List.getElem_cons_zero, List.getElem_cons_succ])
  refine wpAnyH_take (i := 5) (v := ?va5) rfl (by kernel_rfl) (by kernel_rfl) (by kernel_rfl) (fun _ _ _ h => h) (Or.inl ⟨by rfl, ?hya5⟩) (by assumption) ?resta5
  case hya5 => (intro w_ hSw; (try dsimp only at hSw); obtain ⟨_, r0_, r1_, r2_, r3_, q0_, q1_, q2_⟩ := hSw; go_simp; (try with_reducible rfl))
  (try simp only [Act.put, List.setIfInBounds_toArray, List.set_cons_zero, List.set_cons_succ, List.getElem_toArray, List.getElem_cons_zero, List.getElem_cons_succ])
  refine wpAnyH_take (i := 6) (v := ?va6) rfl (by kernel_rfl) (by kernel_rfl) (by kernel_rfl) (fun _ _ _ h => h) (Or.inl ⟨by rfl, ?hya6⟩) (by assumption) ?resta6
  case hya6 => (intro w_ hSw; (try dsimp only at hSw); obtain ⟨_, r0_, r1_, r2_, r3_, q0_, q1_, q2_⟩ := hSw; go_simp; (try with_reducible rfl))
  (try simp only [Act.put, List.setIfInBounds_toArray, List.set_cons_zero, List.set_cons_succ, List.getElem_toArray, List.getElem_cons_zero, List.getElem_cons_succ])
  refine wpAnyH_take (i := 7) (v := ?va7) rfl (by kernel_rfl) (by kernel_rfl) (by kernel_rfl) (fun _ _ _ h => h) (Or.inl ⟨by rfl, ?hya7⟩) (by assumption) ?resta7
  case hya7 => (intro w_ hSw; (try dsimp only at hSw); obtain ⟨_, r0_, r1_, r2_, r3_, q0_, q1_, q2_⟩ := hSw; go_simp; (try with_reducible rfl))
  (try simp only [Act.put, List.setIfInBounds_toArray, List.set_cons_zero, List.set_cons_succ, List.getElem_toArray, List.getElem_cons_zero, List.getElem_cons_succ])
  refine wpAnyH_take (i := 8) (v := ?va8) rfl (by kernel_rfl) (by kernel_rfl) (by kernel_rfl) (fun _ _ _ h => h) (Or.inl ⟨by rfl, ?hya8⟩) (by assumption) ?resta8
  case hya8 => (intro w_ hSw; (try dsimp only at hSw); obtain ⟨_, r0_, r1_, r2_, r3_, q0_, q1_, q2_⟩ := hSw; go_simp; (try with_reducible rfl))
  (try simp only [Act.put, List.setIfInBounds_toArray, List.set_cons_zero, List.set_cons_succ, List.getElem_toArray, List.getElem_cons_zero, List.getElem_cons_succ])
  refine wpAnyH_done (by kernel_rfl) ?_ _
  clear hHeld hHeld1 hHeld2 HO2
  -- ENDREG a
  obtain ⟨h1, h2, h3, h4, h5⟩ := HSa.out
  have HBW := Lib.hid HDa.out.below
  have hsm : ∀ r, r ∈ rsa → okM r.val := fun r hr => by
    have h6 := resV_small (okb := okb) (nb := nb) (l := LL) (r.ks, r.val)
    rw [← h5] at h6
    exact h6 (List.mem_map.2 ⟨r, hr, rfl⟩)
  have htv : totV okb nb LL = sumV (rsa.map (·.val)) := by
    unfold totV
    rw [← h5, List.map_map]; rfl
  have hov : okV okb nb LL = (Ea == 0) := by
    unfold okV
    rw [← h5]
  have HRD := Lib.hid h1
  have HSM := Lib.hid hsm
  have HTV := Lib.hid htv
  have HOV := Lib.hid hov
  have hna : na ≤ 1000 := by omega
  have HLN := Lib.hid h2
  clear h1 h2 h3 h4 h5 hsm htv hov HSa HDa HTO HRUN HS hln
  go_wp2_with fail
  go_loopw [8, 20] (fun s i y => ∃ p : Nat, p ≤ na ∧ i = .int .i64 (p : Int) ∧ s = .int .i64 (sumV ((rsa.take p).map (·.val))) ∧ Below wra.heap.size wra y) (fun _ i _ => na - (intOf i).toNat)
  case atStart => exact ⟨0, Nat.zero_le _, rfl, rfl, Below.refl _ _⟩
  case round =>
    obtain ⟨p, hp, rfl, rfl, hb⟩ := hrel
    have HB := Lib.hid hb
    by_cases hlp : p < na
    · have k3 : decide ((p : Int) < (na : Int)) = true := by rw [decide_eq_true_eq]; omega
      obtain ⟨ar, rfl, har, hrl, a0, aj⟩ := (HRD.out.below hb).row_at rrowC (fun _ => rfl) (by decide) hlp
      have a1 := aj 1 (by decide) (by decide)
      replace a0 : wr.cell? (ar.add (p * 2)) = some (.slice (rsa.getD p default).A (rsa.getD p default).n (rsa.getD p default).c) := a0
      replace a1 : wr.cell? ⟨(ar.add (p * 2)).block, (ar.add (p * 2)).off + 1, none⟩ = some (.int .i64 (rsa.getD p default).val) := a1
      have hmem : rsa.getD p default ∈ rsa := by
        have e : rsa.getD p default = rsa[p] := by simp [List.getD, hrl]
        rw [e]; exact List.getElem_mem hrl
      have hv := HSM.out _ hmem
      have htk : sumV ((rsa.take (p + 1)).map (·.val)) = sumV ((rsa.take p).map (·.val)) + (rsa.getD p default).val := by
        rw [List.take_succ_eq_append_getElem hrl, List.map_append, sumV_app]
        simp [List.getD, hrl, sumV]
      have hsv := sumV_small (l := (rsa.take p).map (·.val)) (fun x hx => by
        obtain ⟨r, hr, rfl⟩ := List.mem_map.1 hx
        exact HSM.out r (List.mem_of_mem_take hr))
      rw [List.length_map, List.length_take] at hsv
      have HTK := Lib.hid htk
      clear aj hmem htk hb
      generalize rsa.getD p default = row at *
      obtain ⟨rA, rn, rc, rk, rv⟩ := row
      unfold okM at hv
      simp only [] at a0 a1 hv
      generalize hsg : sumV ((rsa.take p).map (·.val)) = s at *
      have hwr : IntKind.i64.wrap (s + rv) = s + rv := Go.IntWalk.i64_in _ ⟨by omega, by omega⟩
      have hbn := HB.out.alloc HB.out.size (.cells #[.slice rA rn rc, .int .i64 rv] 68)
      have HBN := Lib.hid hbn
      clear hsg hbn hsv
      go_wp2_with fail
      go_roundw
      case rel => exact ⟨p + 1, by omega, by go_num, by rw [HTK.out], HBN.out⟩
      case measure => simp [intOf]; omega
    · have k3 : decide ((p : Int) < (na : Int)) = false := by rw [decide_eq_false_iff_not]; omega
      obtain rfl : p = na := by omega
      go_wp2_with fail
      refine bodyPost_ret (v := .tuple #[.int .i64 (totV okb nb LL), .bool (okV okb nb LL)]) ?_ rfl ?_
      · rw [HTV.out, HOV.out]
        have e : rsa.take p = rsa := List.take_of_length_le (by rw [HLN.out]; exact Nat.le_refl _)
        rw [e]
        simp [results, Tryz.results31, go_sem]
      · exact ⟨rfl, below_two HBW.out HB.out⟩
end Go.Proofs.YtfnlddloalineaaGreatDoor
