/-
  The law QueryDivides. (printed by wip/tools/gen_div.py)
-/
import Derived.Test.YtfnlddloalineaaGreatDoorDivP
import Derived.RegionTactic
import Derived.BigRegion
import Derived.BigQuiet
import Derived.ChangeAlike
namespace Go.Proofs.YtfnlddloalineaaGreatDoor
open Go.RowKit
set_option linter.unusedVariables false
set_option linter.unusedSimpArgs false
set_option maxRecDepth 100000
theorem info_rcn2 : (Tryz.prog.info? 72).map (fun i => (i.zero, i.size, i.bytes)) = some (some (.agg #[.int .i64 0, .int .i64 0, .int .i64 0]), 3, 24) := by kernel_rfl
theorem totV_small {okb : Bool} {nb : Nat} {l : List (K5 × Int)} (h : l.length ≤ 1000) : totV okb nb l ≤ 1000000000000000 ∧ -1000000000000000 ≤ totV okb nb l := by
  have h1 := sumV_small (l := (resV okb nb l).2.map (·.2)) (fun x hx => by
    obtain ⟨p, hp, rfl⟩ := List.mem_map.1 hx
    exact resV_small p hp)
  have h2 : (resV okb nb l).2.length ≤ l.length := by
    unfold resV
    split
    · exact Nat.zero_le _
    · split
      · simp
      · exact Nat.zero_le _
  rw [List.length_map] at h1
  unfold totV
  omega
theorem cndC_app2 (a b : List SCond) : cndC (a ++ b) = cndC a ++ cndC b := by
  induction a with
  | nil => rfl
  | cons x r ih => simp only [List.cons_append, cndC, List.flatMap_cons] at ih ⊢; rw [ih, List.append_assoc]
structure Dv0 (w : World) (X C : Nat) (rv qv cv : Array Value) (x : World) : Prop where
  below : Below w.heap.size w x
  rb : Blk x w.heap.size 43 rv
  qb : Blk x X 32 qv
  cb : Blk x C 72 cv
theorem Dv0.same {w x y : World} {X C : Nat} {rv qv cv : Array Value} (h : Dv0 w X C rv qv cv x) (hb : Below x.heap.size x y) : Dv0 w X C rv qv cv y := ⟨below_two h.below hb, h.rb.below hb h.rb.lt, h.qb.below hb h.qb.lt, h.cb.below hb h.cb.lt⟩
theorem three_one (a b c : Int) : ∀ u ∈ ([.int .i64 a, .int .i64 b, .int .i64 c] : List Value), u.oneCell' = true := by
  intro u hu
  simp only [List.mem_cons, List.not_mem_nil, or_false] at hu
  rcases hu with rfl | rfl | rfl <;> rfl
theorem cnd_one (l : List SCond) : ∀ u ∈ cndC l, u.oneCell' = true := by
  intro u hu
  unfold cndC at hu
  obtain ⟨c, _, h⟩ := List.mem_flatMap.1 hu
  exact three_one _ _ _ u h
theorem sixC_one (a b c d e f : Int) : ∀ u ∈ ([.int .i64 a, .int .i64 b, .int .i64 c, .int .i64 d, .int .i64 e, .int .i64 f] : List Value), u.oneCell' = true := by
  intro u hu
  simp only [List.mem_cons, List.not_mem_nil, or_false] at hu
  rcases hu with rfl | rfl | rfl | rfl | rfl | rfl <;> rfl
theorem reads_n (w : World) (cs : Array Value) (T : TypeId) (size n : Nat) (h : cs.size = n * size) : Reads (w.alloc (.cells cs T)) (w.heap.size + 1) size (some ⟨w.heap.size, 0, none⟩) n cs.toList := by
  refine ⟨by simpa using h, fun _ => ⟨_, rfl, Nat.lt_succ_self _, fun j u hj => ?_⟩⟩
  have hb := Blk.new w T cs
  have e : (⟨w.heap.size, 0, none⟩ : Addr).add j = ⟨w.heap.size, j, none⟩ := by unfold Addr.add; split <;> simp_all
  rw [e, hb.cell j, ← hj]
  simp
def cndRow (c : SCond) : List Value := [.int .i64 c.f, .int .i64 c.o, .int .i64 c.v]
theorem cndC_back (c : SCond) (wh : List SCond) (k : Nat) : cndC (backL c wh (k + 1)) = cndC (backL c wh k) ++ (cndRow (wh.getD (wh.length - 1 - k) default) ++ cndRow (wh.getD k default)) := by
  rw [backL_step, cndC_app2]
  congr 1
/-- the boxes, with those of the three further queries -/
structure Dv1 (w : World) (X C OB O1 O2 O3 : Nat) (rv qv cv ov : Array Value) (verb : Int) (vb w1 w2 w3 : Value) (x : World) : Prop where
  below : Below w.heap.size w x
  rb : Blk x w.heap.size 43 rv
  qb : Blk x X 32 qv
  cb : Blk x C 72 cv
  ob : Blk x OB 3 ov
  b1 : Blk x O1 32 #[.int .i64 verb, vb, w1]
  b2 : Blk x O2 32 #[.int .i64 verb, vb, w2]
  b3 : Blk x O3 32 #[.int .i64 verb, vb, w3]
  n1 : w.heap.size ≤ O1 ∧ w.heap.size ≤ O2 ∧ w.heap.size ≤ O3
  n2 : X ≠ O1 ∧ X ≠ O2 ∧ X ≠ O3
  n3 : O1 ≠ O2 ∧ O1 ≠ O3 ∧ O2 ≠ O3
theorem Dv1.same {w x y : World} {X C OB O1 O2 O3 : Nat} {rv qv cv ov : Array Value} {verb : Int} {vb w1 w2 w3 : Value} (h : Dv1 w X C OB O1 O2 O3 rv qv cv ov verb vb w1 w2 w3 x) (hb : Below x.heap.size x y) : Dv1 w X C OB O1 O2 O3 rv qv cv ov verb vb w1 w2 w3 y :=
  ⟨below_two h.below hb, h.rb.below hb h.rb.lt, h.qb.below hb h.qb.lt, h.cb.below hb h.cb.lt, h.ob.below hb h.ob.lt, h.b1.below hb h.b1.lt, h.b2.below hb h.b2.lt, h.b3.below hb h.b3.lt, h.n1, h.n2, h.n3⟩
theorem Dv1.sb1 {w x : World} {X C OB O1 O2 O3 : Nat} {rv qv cv ov : Array Value} {verb : Int} {vb w1 w2 w3 : Value} (h : Dv1 w X C OB O1 O2 O3 rv qv cv ov verb vb w1 w2 w3 x) (v : Value) : Dv1 w X C OB O1 O2 O3 rv qv cv ov verb vb v w2 w3 (x.setCell ⟨O1, 2, none⟩ v) :=
  ⟨h.below.setCell (p := ⟨O1, 2, none⟩) h.n1.1 v, h.rb.far (fun e => h.rb.ne_ h.b1 (by decide) e) v, h.qb.far h.n2.1 v, h.cb.far (fun e => h.cb.ne_ h.b1 (by decide) e) v, h.ob.far (fun e => h.ob.ne_ h.b1 (by decide) e) v, h.b1.set_ 2 v, h.b2.far (fun e => h.n3.1 e.symm) v, h.b3.far (fun e => h.n3.2.1 e.symm) v, h.n1, h.n2, h.n3⟩
theorem Dv1.sb2 {w x : World} {X C OB O1 O2 O3 : Nat} {rv qv cv ov : Array Value} {verb : Int} {vb w1 w2 w3 : Value} (h : Dv1 w X C OB O1 O2 O3 rv qv cv ov verb vb w1 w2 w3 x) (v : Value) : Dv1 w X C OB O1 O2 O3 rv qv cv ov verb vb w1 v w3 (x.setCell ⟨O2, 2, none⟩ v) :=
  ⟨h.below.setCell (p := ⟨O2, 2, none⟩) h.n1.2.1 v, h.rb.far (fun e => h.rb.ne_ h.b2 (by decide) e) v, h.qb.far h.n2.2.1 v, h.cb.far (fun e => h.cb.ne_ h.b2 (by decide) e) v, h.ob.far (fun e => h.ob.ne_ h.b2 (by decide) e) v, h.b1.far h.n3.1 v, h.b2.set_ 2 v, h.b3.far (fun e => h.n3.2.2 e.symm) v, h.n1, h.n2, h.n3⟩
theorem Dv1.sb3 {w x : World} {X C OB O1 O2 O3 : Nat} {rv qv cv ov : Array Value} {verb : Int} {vb w1 w2 w3 : Value} (h : Dv1 w X C OB O1 O2 O3 rv qv cv ov verb vb w1 w2 w3 x) (v : Value) : Dv1 w X C OB O1 O2 O3 rv qv cv ov verb vb w1 w2 v (x.setCell ⟨O3, 2, none⟩ v) :=
  ⟨h.below.setCell (p := ⟨O3, 2, none⟩) h.n1.2.2 v, h.rb.far (fun e => h.rb.ne_ h.b3 (by decide) e) v, h.qb.far h.n2.2.2 v, h.cb.far (fun e => h.cb.ne_ h.b3 (by decide) e) v, h.ob.far (fun e => h.ob.ne_ h.b3 (by decide) e) v, h.b1.far h.n3.2.1 v, h.b2.far h.n3.2.2 v, h.b3.set_ 2 v, h.n1, h.n2, h.n3⟩
set_option maxHeartbeats 16000000 in
theorem lawDivides (per : Int) (its : List SItem) (pos : List SPost) (Ai Ap At : Option Addr) (ni ci np cp nt ct : Nat) (q : SQry) (Ab Aw : Option Addr) (nb cb nw cw : Nat) (cf co cv : Int) (w : World) (hE : Env w) (hEE : EnvE w) (hri : Reads w w.heap.size 7 Ai ni (its.flatMap itemC)) (hli : its.length = ni) (hmi : ni ≤ 9223372036854775807) (hrp : Reads w w.heap.size 5 Ap np (pos.flatMap postC)) (hlp : pos.length = np) (hmp : np ≤ 9223372036854775807) (hpq : ∀ x ∈ pos, PostIn w w.heap.size x) (hoi : ∀ x ∈ its, okItem x) (hop : ∀ x ∈ pos, okPost x)
    (hb : RdBy w w.heap.size Ab q.by_) (hnb : q.by_.length = nb) (hcb : nb ≤ cb) (hw : Reads w w.heap.size 3 Aw nw (cndC q.wh)) (hn1 : nb ≤ 9223372036854775807) (hn2 : nw ≤ 9223372036854775807) (hn3 : nw ≤ cw) :
    Calls Tryz.prog 9 #[.agg #[.int .i64 per, .slice Ai ni ci, .slice Ap np cp, .slice At nt ct], .agg #[.int .i64 q.verb, .slice Ab nb cb, .slice Aw nw cw], .agg #[.int .i64 cf, .int .i64 co, .int .i64 cv]] w fun e w' => e = .returned (.bool true) ∧ Below w.heap.size w w' := by
  have HEB : Hid (∀ w_, Below w.heap.size w w_ → Env w_) := fun w_ h => hE.after h
  have HEEB : Hid (∀ w_, Below w.heap.size w w_ → EnvE w_) := fun w_ h => hEE.below h hE.size
  have hnw : q.wh.length = nw := by have := hw.1; rw [cndC_len] at this; omega
  have HNW := Lib.hid hnw
  have HNB := Lib.hid hnb
  have HBY : Hid (∀ x, Below w.heap.size w x → RdBy x w.heap.size Ab q.by_) := fun x h => hb.low (Nat.le_refl _) (Nat.le_refl _) h
  have HWH : Hid (∀ x, Below w.heap.size w x → Reads x w.heap.size 3 Aw nw (cndC q.wh)) := fun x h => hw.lowQ (Nat.le_refl _) (Nat.le_refl _) h
  have HRI : Hid (∀ x, Below w.heap.size w x → Reads x w.heap.size 7 Ai ni (its.flatMap itemC)) := fun x h => hri.lowQ (Nat.le_refl _) (Nat.le_refl _) h
  have HRP : Hid (∀ x, Below w.heap.size w x → Reads x w.heap.size 5 Ap np (pos.flatMap postC)) := fun x h => hrp.lowQ (Nat.le_refl _) (Nat.le_refl _) h
  have HPI : Hid (∀ x, Below w.heap.size w x → ∀ p, p ∈ pos → PostIn x w.heap.size p) := fun x h p hp => ⟨(hpq p hp).1.lowQ (Nat.le_refl _) (Nat.le_refl _) h, (hpq p hp).2⟩
  have HFW : Hid (∀ x, Below w.heap.size w x → Calls Tryz.prog 16 #[.agg #[.int .i64 per, .slice Ai ni ci, .slice Ap np cp, .slice At nt ct], .agg #[.int .i64 q.verb, .slice Ab nb cb, .slice Aw nw cw]] x fun e w' => FewSays its pos nb nw e ∧ Below x.heap.size x w') := fun x h => few_any per q.verb its pos Ai Ap At Ab Aw ni ci np cp nt ct nb cb nw cw w.heap.size x (HRI.out x h) (HRP.out x h) (HPI.out x h) h.size hli hlp hmi hmp
  have HLI := Lib.hid hli
  have HLP := Lib.hid hlp
  obtain ⟨okb, hokb⟩ : ∃ b : Bool, (b = true ↔ OkQ q) := by
    by_cases h : OkQ q
    · exact ⟨true, b_yes h⟩
    · exact ⟨false, b_no h⟩
  have HOKB := Lib.hid hokb
  have h1 := (Below.refl w.heap.size w).alloc (Nat.le_refl _) (.cells (#[.int .i64 per, .slice Ai ni ci, .slice Ap np cp, .slice At nt ct] : Array Value) 43)
  have k1 := Blk.new w 43 #[.int .i64 per, .slice Ai ni ci, .slice Ap np cp, .slice At nt ct]
  obtain ⟨wy, hwy⟩ : ∃ wy, w.alloc (.cells (#[.int .i64 per, .slice Ai ni ci, .slice Ap np cp, .slice At nt ct] : Array Value) 43) = wy := ⟨_, rfl⟩
  rw [hwy] at h1 k1
  have h2 := h1.alloc h1.size (.cells (#[.int .i64 q.verb, .slice Ab nb cb, .slice Aw nw cw] : Array Value) 32)
  have k2 := Blk.new wy 32 #[.int .i64 q.verb, .slice Ab nb cb, .slice Aw nw cw]
  have k3 := k1.alloc (.cells (#[.int .i64 q.verb, .slice Ab nb cb, .slice Aw nw cw] : Array Value) 32)
  obtain ⟨wz, hwz⟩ : ∃ wz, wy.alloc (.cells (#[.int .i64 q.verb, .slice Ab nb cb, .slice Aw nw cw] : Array Value) 32) = wz := ⟨_, rfl⟩
  rw [hwz] at h2 k2 k3
  obtain ⟨X, hX⟩ : ∃ X, wy.heap.size = X := ⟨_, rfl⟩
  rw [hX] at k2
  have h4 := h2.alloc h2.size (.cells (#[.int .i64 cf, .int .i64 co, .int .i64 cv] : Array Value) 72)
  have k4 := Blk.new wz 72 #[.int .i64 cf, .int .i64 co, .int .i64 cv]
  have k5 := k2.alloc (.cells (#[.int .i64 cf, .int .i64 co, .int .i64 cv] : Array Value) 72)
  have k6 := k3.alloc (.cells (#[.int .i64 cf, .int .i64 co, .int .i64 cv] : Array Value) 72)
  obtain ⟨wc, hwc⟩ : ∃ wc, wz.alloc (.cells (#[.int .i64 cf, .int .i64 co, .int .i64 cv] : Array Value) 72) = wc := ⟨_, rfl⟩
  rw [hwc] at h4 k4 k5 k6
  obtain ⟨C, hC⟩ : ∃ C, wz.heap.size = C := ⟨_, rfl⟩
  rw [hC] at k4
  have HS0 : Hid (Dv0 w X C #[.int .i64 per, .slice Ai ni ci, .slice Ap np cp, .slice At nt ct] #[.int .i64 q.verb, .slice Ab nb cb, .slice Aw nw cw] #[.int .i64 cf, .int .i64 co, .int .i64 cv] wc) := ⟨h4, k6, k5, k4⟩
  have hXw : w.heap.size < X := by have := k1.lt; omega
  have hCX : X < C := by have := k2.lt; omega
  clear hE hEE hri hrp hpq hb hw hnw hli hlp hnb hokb h1 k1 h2 k2 k3 h4 k4 k5 k6
  have HTO : Hid (nw ≤ 30 → ∀ x, Below w.heap.size w x → Calls Tryz.prog 18 #[.agg #[.int .i64 q.verb, .slice Ab nb cb, .slice Aw nw cw]] x fun e w' => ∃ A' c', e = .returned (.agg #[.int .i64 q.verb, .slice Ab nb cb, .slice A' nw c']) ∧ w'.ownsRow x.heap.size 95 3 (.slice A' nw c') nw (cndC q.wh) ∧ Below x.heap.size x w') := fun hf x h =>
    to_any q.verb q.wh Ab Aw nb nw cb cw w.heap.size x (HWH.out x h) h.size (by omega)
  have HVA : Hid (nb ≤ 10 → ∀ A2 c2 x b, Below w.heap.size w x → x.ownsRow b 95 3 (.slice A2 nw c2) nw (cndC q.wh) → Calls Tryz.prog 20 #[.agg #[.int .i64 q.verb, .slice Ab nb cb, .slice A2 nw c2]] x fun e w' => e = .returned (.bool okb) ∧ Below x.heap.size x w') := fun hf A2 c2 x b h ho => by
    by_cases hok : OkQ q
    · rw [HOKB.out.2 hok]
      exact valid_yes q Ab A2 nb nw cb c2 x.heap.size x hok ((HBY.out x h).more h.size) HNB.out.symm hcb (Reads.of_own ho) (Nat.le_refl _) (by omega)
    · rw [bfalse HOKB.out hok]
      exact valid_no q Ab A2 nb nw cb c2 x.heap.size x hok ((HBY.out x h).more h.size) HNB.out.symm hcb (Reads.of_own ho) (Nat.le_refl _) (by omega)
  have HRV : Hid (nb ≤ 10 ∧ nw ≤ 30 → ∀ x, Below w.heap.size w x → Calls Tryz.prog 21 #[.agg #[.int .i64 q.verb, .slice Ab nb cb, .slice Aw nw cw]] x fun e w' => e = .returned (.bool okb) ∧ Below x.heap.size x w') := fun hf x h => by
    refine (rvalid_any q Ab Aw nb nw cb cw w.heap.size x (HBY.out x h) HNB.out.symm hcb (HWH.out x h) h.size (by omega) (by omega)).mono ?_
    rintro e w' ⟨⟨b, rfl, hbq⟩, hb⟩
    refine ⟨?_, hb⟩
    by_cases hok : OkQ q
    · rw [HOKB.out.2 hok, hbq.2 hok]
    · rw [bfalse HOKB.out hok, bfalse hbq hok]
  have HOC : Hid (okb = true → ∀ c, c ∈ q.wh → okCnd c) := fun h => (HOKB.out.1 h).cn
  have HRWQ := Lib.hid HWH.out
  have HFK : Hid (FewR its pos nb nw → ∀ f, f ∈ factsL its pos → okFct f) := fun h => facts_ok hoi hop h
  have HTOT : Hid (FewR its pos nb nw → ∀ (wl : List SCond) (A1 : Option Addr) (m c1 : Nat) (ob : Bool) y, Below w.heap.size w y → Reads y y.heap.size 3 A1 m (cndC wl) → m ≤ 1000 → (ob = true ↔ OkQ ⟨q.verb, q.by_, wl⟩) → Calls Tryz.prog 31 #[.agg #[.int .i64 per, .slice Ai ni ci, .slice Ap np cp, .slice At nt ct], .agg #[.int .i64 q.verb, .slice Ab nb cb, .slice A1 m c1]] y fun e w' => e = .returned (.tuple #[.int .i64 (totV ob nb (sumsQ ⟨q.verb, q.by_, wl⟩ (factsL its pos))), .bool (okV ob nb (sumsQ ⟨q.verb, q.by_, wl⟩ (factsL its pos)))]) ∧ Below y.heap.size y w') := fun hf wl A1 m c1 ob y h hr hm hob =>
    total_any per its pos Ai Ap At ni ci np cp nt ct ⟨q.verb, q.by_, wl⟩ Ab A1 nb cb m c1 nb nw y.heap.size ob y (Nat.le_refl _) ((HRI.out y h).more h.size) HLI.out ((HRP.out y h).more h.size) HLP.out (fun p hp => ⟨(HPI.out y h p hp).1.more h.size, (HPI.out y h p hp).2⟩) hf (HFK.out hf) ((HBY.out y h).more h.size) HNB.out hcb hr (by have := hf.lb; omega) hm hob
  have HRVX : Hid (FewR its pos nb nw → ∀ (wl : List SCond) (A1 : Option Addr) (m c1 : Nat) y, Below w.heap.size w y → Reads y y.heap.size 3 A1 m (cndC wl) → m ≤ 10000 → Calls Tryz.prog 21 #[.agg #[.int .i64 q.verb, .slice Ab nb cb, .slice A1 m c1]] y fun e w' => (∃ b : Bool, e = .returned (.bool b) ∧ (b = true ↔ OkQ ⟨q.verb, q.by_, wl⟩)) ∧ Below y.heap.size y w') := fun hf wl A1 m c1 y h hr hm =>
    rvalid_any ⟨q.verb, q.by_, wl⟩ Ab A1 nb m cb c1 y.heap.size y ((HBY.out y h).more h.size) HNB.out.symm hcb hr (Nat.le_refl _) (by have := hf.lb; omega) hm
  have HLN : Hid (FewR its pos nb nw → ∀ wl, (sumsQ ⟨q.verb, q.by_, wl⟩ (factsL its pos)).length ≤ 1000) := fun hf wl => by
    have h1 := sumsI_len (verb := q.verb) (byl := q.by_) (p := predQ wl) (F := factsL its pos) (factsL its pos).length (Nat.le_refl _)
    rw [List.take_of_length_le (Nat.le_refl _)] at h1
    have h2 := facts_len hf.li hf.lp hf.lq
    show (sumsI q.verb q.by_ (predQ wl) (factsL its pos)).length ≤ 1000
    omega
  have HPL : Hid (0 ≤ co → co ≤ 5 → ∀ o1 o2 o3 o4 : Bool, okV o1 nb (sumsQ ⟨q.verb, q.by_, q.wh ++ [⟨cf, co, cv⟩]⟩ (factsL its pos)) = true → okV o2 nb (sumsQ ⟨q.verb, q.by_, q.wh ++ [oppC ⟨cf, co, cv⟩]⟩ (factsL its pos)) = true → okV o3 nb (sumsQ ⟨q.verb, q.by_, q.wh⟩ (factsL its pos)) = true → okV o4 nb (sumsQ ⟨q.verb, q.by_, backL ⟨cf, co, cv⟩ q.wh q.wh.length⟩ (factsL its pos)) = true →
      totV o1 nb (sumsQ ⟨q.verb, q.by_, q.wh ++ [⟨cf, co, cv⟩]⟩ (factsL its pos)) + totV o2 nb (sumsQ ⟨q.verb, q.by_, q.wh ++ [oppC ⟨cf, co, cv⟩]⟩ (factsL its pos)) = totV o3 nb (sumsQ ⟨q.verb, q.by_, q.wh⟩ (factsL its pos)) ∧
      totV o1 nb (sumsQ ⟨q.verb, q.by_, q.wh ++ [⟨cf, co, cv⟩]⟩ (factsL its pos)) = totV o4 nb (sumsQ ⟨q.verb, q.by_, backL ⟨cf, co, cv⟩ q.wh q.wh.length⟩ (factsL its pos))) := fun h0 h5 o1 o2 o3 o4 e1 e2 e3 e4 => by
    rw [(tot_amt e1).2, (tot_amt e2).2, (tot_amt e3).2, (tot_amt e4).2]
    exact ⟨amt_divide (c := ⟨cf, co, cv⟩) h0 h5 _, (amt_back (c := ⟨cf, co, cv⟩) _).symm⟩
  clear HVA HRV HOC HOKB HFK HRI HRP HPI HLI HLP hoi hop HTO HBY
  generalize factsL its pos = F at *
  generalize q.by_ = bl0 at *
  generalize q.verb = verb at *
  generalize q.wh = wh at *
  have r0 := HS0.out.rb.cell 0
  have r1 := HS0.out.rb.cell 1
  have r2 := HS0.out.rb.cell 2
  have r3 := HS0.out.rb.cell 3
  simp only [List.getElem?_toArray, List.getElem?_cons_zero, List.getElem?_cons_succ] at r0 r1 r2 r3
  have q0 := HS0.out.qb.cell 0
  have q1 := HS0.out.qb.cell 1
  have q2 := HS0.out.qb.cell 2
  simp only [List.getElem?_toArray, List.getElem?_cons_zero, List.getElem?_cons_succ] at q0 q1 q2
  have c0 := HS0.out.cb.cell 0
  have c1 := HS0.out.cb.cell 1
  have c2 := HS0.out.cb.cell 2
  simp only [List.getElem?_toArray, List.getElem?_cons_zero, List.getElem?_cons_succ] at c0 c1 c2
  have l1 := HS0.out.rb.lt
  have l2 := HS0.out.qb.lt
  have l3 := HS0.out.cb.lt
  obtain ⟨i0, hi0, hz0, hz1, hz2⟩ := info_parts info_rcn2
  go_enter Tryz.func9, Tryz.ntmps9
  go_wp2_with fail
  refine (awake_true _ (HEB.out _ HS0.out.below) (HEEB.out _ HS0.out.below)).mono ?_
  rintro e w1 ⟨rfl, hb⟩
  have HS := Lib.hid (HS0.out.same hb)
  clear hb HS0 r0 r1 r2 r3 q0 q1 q2 c0 c1 c2 l1 l2 l3 hwz hwy hwc
  have r0 := HS.out.rb.cell 0
  have r1 := HS.out.rb.cell 1
  have r2 := HS.out.rb.cell 2
  have r3 := HS.out.rb.cell 3
  simp only [List.getElem?_toArray, List.getElem?_cons_zero, List.getElem?_cons_succ] at r0 r1 r2 r3
  have q0 := HS.out.qb.cell 0
  have q1 := HS.out.qb.cell 1
  have q2 := HS.out.qb.cell 2
  simp only [List.getElem?_toArray, List.getElem?_cons_zero, List.getElem?_cons_succ] at q0 q1 q2
  have c0 := HS.out.cb.cell 0
  have c1 := HS.out.cb.cell 1
  have c2 := HS.out.cb.cell 2
  simp only [List.getElem?_toArray, List.getElem?_cons_zero, List.getElem?_cons_succ] at c0 c1 c2
  have l1 := HS.out.rb.lt
  have l2 := HS.out.qb.lt
  have l3 := HS.out.cb.lt
  go_wp2_with fail
  refine (HFW.out _ HS.out.below).mono ?_
  rintro e w2 ⟨hfew, hb⟩
  obtain ⟨fb, rfl, hfr⟩ := hfew
  have HS2 := Lib.hid (HS.out.same hb)
  clear hb HS r0 r1 r2 r3 q0 q1 q2 c0 c1 c2 l1 l2 l3
  have r0 := HS2.out.rb.cell 0
  have r1 := HS2.out.rb.cell 1
  have r2 := HS2.out.rb.cell 2
  have r3 := HS2.out.rb.cell 3
  simp only [List.getElem?_toArray, List.getElem?_cons_zero, List.getElem?_cons_succ] at r0 r1 r2 r3
  have q0 := HS2.out.qb.cell 0
  have q1 := HS2.out.qb.cell 1
  have q2 := HS2.out.qb.cell 2
  simp only [List.getElem?_toArray, List.getElem?_cons_zero, List.getElem?_cons_succ] at q0 q1 q2
  have c0 := HS2.out.cb.cell 0
  have c1 := HS2.out.cb.cell 1
  have c2 := HS2.out.cb.cell 2
  simp only [List.getElem?_toArray, List.getElem?_cons_zero, List.getElem?_cons_succ] at c0 c1 c2
  have l1 := HS2.out.rb.lt
  have l2 := HS2.out.qb.lt
  have l3 := HS2.out.cb.lt
  have HAW : Hid (∀ x, Below w.heap.size w x → Calls Tryz.prog 11 #[] x fun e w' => e = .returned (.bool true) ∧ Below x.heap.size x w') := fun x h => awake_true x (HEB.out _ h) (HEEB.out _ h)
  cases fb with
  | false =>
    go_wp2_with fail
    refine (HAW.out _ HS2.out.below).mono ?_
    rintro e w3 ⟨rfl, hb⟩
    have HSF := Lib.hid (HS2.out.same hb).below
    clear hb
    go_wp2_with fail
    go_ret
    exact ⟨rfl, HSF.out⟩
  | true =>
    have HFR := Lib.hid (hfr rfl)
    have hnw30 := HFR.out.lw
    clear hfr
    by_cases hn9 : 9 < nw
    · have k9 : decide ((9 : Int) < (nw : Int)) = true := by rw [decide_eq_true_eq]; omega
      go_wp2_with fail
      refine (HAW.out _ HS2.out.below).mono ?_
      rintro e w3 ⟨rfl, hb⟩
      have HSF := Lib.hid (HS2.out.same hb).below
      clear hb
      go_wp2_with fail
      go_ret
      exact ⟨rfl, HSF.out⟩
    · have k9 : decide ((9 : Int) < (nw : Int)) = false := by rw [decide_eq_false_iff_not]; omega
      go_upto_region 3 with fail
      have HTOT2 := Lib.hid (HTOT.out HFR.out)
      have HRVX2 := Lib.hid (HRVX.out HFR.out)
      have HLN2 := Lib.hid (HLN.out HFR.out)
      have hb3 := (Below.refl w2.heap.size w2).alloc (Nat.le_refl _) (.cells #[.int .i64 1, .int .i64 0, .int .i64 5, .int .i64 4, .int .i64 3, .int .i64 2] 3)
      have hob := Blk.new w2 3 #[.int .i64 1, .int .i64 0, .int .i64 5, .int .i64 4, .int .i64 3, .int .i64 2]
      obtain ⟨w3, hw3⟩ : ∃ w3, w2.alloc (.cells #[.int .i64 1, .int .i64 0, .int .i64 5, .int .i64 4, .int .i64 3, .int .i64 2] 3) = w3 := ⟨_, rfl⟩
      rw [hw3] at hb3 hob
      obtain ⟨OB, hOB⟩ : ∃ OB, w2.heap.size = OB := ⟨_, rfl⟩
      rw [hOB] at hob
      have HOB := Lib.hid hob
      have HS3 := Lib.hid (HS2.out.same hb3)
      have hOBw : w.heap.size < OB := by omega
      clear hb3 hob HTOT HRVX HLN HFW HEB HEEB HAW r0 r1 r2 r3 q0 q1 q2 c0 c1 c2 l1 l2 l3
      have r0 := HS3.out.rb.cell 0
      have r1 := HS3.out.rb.cell 1
      have r2 := HS3.out.rb.cell 2
      have r3 := HS3.out.rb.cell 3
      simp only [List.getElem?_toArray, List.getElem?_cons_zero, List.getElem?_cons_succ] at r0 r1 r2 r3
      have q0 := HS3.out.qb.cell 0
      have q1 := HS3.out.qb.cell 1
      have q2 := HS3.out.qb.cell 2
      simp only [List.getElem?_toArray, List.getElem?_cons_zero, List.getElem?_cons_succ] at q0 q1 q2
      have c0 := HS3.out.cb.cell 0
      have c1 := HS3.out.cb.cell 1
      have c2 := HS3.out.cb.cell 2
      simp only [List.getElem?_toArray, List.getElem?_cons_zero, List.getElem?_cons_succ] at c0 c1 c2
      have l1 := HS3.out.rb.lt
      have l2 := HS3.out.qb.lt
      have l3 := HS3.out.cb.lt
      by_cases hco : 0 ≤ co ∧ co ≤ 5
      · have k1 : decide (co < 0) = false := by rw [decide_eq_false_iff_not]; omega
        have k2 : decide (5 < co) = false := by rw [decide_eq_false_iff_not]; omega
        obtain ⟨kc, rfl⟩ : ∃ kc : Nat, co = (kc : Int) := ⟨co.toNat, by omega⟩
        have hkc : kc ≤ 5 := by omega
        have HPL2 := Lib.hid (HPL.out hco.1 hco.2)
        clear HPL HS2
        go_upto_region 6 with fail
        go_cut [8, 9, 10] from 45 to 47 (fun s8 s9 s10 wx => ∃ O1 O2 O3 : Nat, s8 = .pointer (some ⟨O1, 0, none⟩) ∧ s9 = .pointer (some ⟨O2, 0, none⟩) ∧ s10 = .pointer (some ⟨O3, 0, none⟩) ∧ w3.heap.size ≤ O1 ∧ w3.heap.size ≤ O2 ∧ w3.heap.size ≤ O3 ∧ O1 ≠ O2 ∧ O1 ≠ O3 ∧ O2 ≠ O3 ∧ Below w3.heap.size w3 wx ∧ Blk wx O1 32 #[.int .i64 verb, .slice Ab nb cb, .slice Aw nw cw] ∧ Blk wx O2 32 #[.int .i64 verb, .slice Ab nb cb, .slice Aw nw cw] ∧ Blk wx O3 32 #[.int .i64 verb, .slice Ab nb cb, .slice Aw nw cw])
        case first =>
          have hn0 : X ≠ w3.heap.size := by omega
          have hn1 : X ≠ w3.heap.size + 1 := by omega
          have hn2 : X ≠ w3.heap.size + 2 := by omega
          have hl1 : X < w3.heap.size + 1 := by omega
          have hl2 : X < w3.heap.size + 2 := by omega
          have hl3 : X < w3.heap.size + 3 := by omega
          have hka : Blk (((w3.alloc (.cells #[.int .i64 verb, .slice Ab nb cb, .slice Aw nw cw] 32)).alloc (.cells #[.int .i64 verb, .slice Ab nb cb, .slice Aw nw cw] 32)).alloc (.cells #[.int .i64 verb, .slice Ab nb cb, .slice Aw nw cw] 32)) w3.heap.size 32 #[.int .i64 verb, .slice Ab nb cb, .slice Aw nw cw] := ((Blk.new w3 32 #[.int .i64 verb, .slice Ab nb cb, .slice Aw nw cw]).alloc _).alloc _
          have hkb : Blk (((w3.alloc (.cells #[.int .i64 verb, .slice Ab nb cb, .slice Aw nw cw] 32)).alloc (.cells #[.int .i64 verb, .slice Ab nb cb, .slice Aw nw cw] 32)).alloc (.cells #[.int .i64 verb, .slice Ab nb cb, .slice Aw nw cw] 32)) (w3.heap.size + 1) 32 #[.int .i64 verb, .slice Ab nb cb, .slice Aw nw cw] := by
            have := (Blk.new (w3.alloc (.cells #[.int .i64 verb, .slice Ab nb cb, .slice Aw nw cw] 32)) 32 #[.int .i64 verb, .slice Ab nb cb, .slice Aw nw cw]).alloc (.cells #[.int .i64 verb, .slice Ab nb cb, .slice Aw nw cw] 32)
            rwa [World.size_alloc] at this
          have hkc : Blk (((w3.alloc (.cells #[.int .i64 verb, .slice Ab nb cb, .slice Aw nw cw] 32)).alloc (.cells #[.int .i64 verb, .slice Ab nb cb, .slice Aw nw cw] 32)).alloc (.cells #[.int .i64 verb, .slice Ab nb cb, .slice Aw nw cw] 32)) (w3.heap.size + 1 + 1) 32 #[.int .i64 verb, .slice Ab nb cb, .slice Aw nw cw] := by
            have := Blk.new ((w3.alloc (.cells #[.int .i64 verb, .slice Ab nb cb, .slice Aw nw cw] 32)).alloc (.cells #[.int .i64 verb, .slice Ab nb cb, .slice Aw nw cw] 32)) 32 #[.int .i64 verb, .slice Ab nb cb, .slice Aw nw cw]
            rwa [World.size_alloc, World.size_alloc] at this
          have hbw : Below w3.heap.size w3 (((w3.alloc (.cells #[.int .i64 verb, .slice Ab nb cb, .slice Aw nw cw] 32)).alloc (.cells #[.int .i64 verb, .slice Ab nb cb, .slice Aw nw cw] 32)).alloc (.cells #[.int .i64 verb, .slice Ab nb cb, .slice Aw nw cw] 32)) := (((Below.refl w3.heap.size w3).alloc (Nat.le_refl _) _).alloc (by rw [World.size_alloc]; omega) _).alloc (by rw [World.size_alloc, World.size_alloc]; omega) _
          have HKA := Lib.hid hka
          have HKB := Lib.hid hkb
          have HKC := Lib.hid hkc
          have HBW := Lib.hid hbw
          clear hka hkb hkc hbw
          go_region
          all_goals go_wp2_with fail
          all_goals go_meet
          all_goals (first
            | exact ⟨w3.heap.size, (w3.heap.size + 1), (w3.heap.size + 1 + 1), rfl, rfl, rfl, by omega, by omega, by omega, by omega, by omega, by omega, HBW.out.drew, HKA.out, HKB.out, HKC.out⟩
            | exact ⟨w3.heap.size, (w3.heap.size + 1 + 1), (w3.heap.size + 1), rfl, rfl, rfl, by omega, by omega, by omega, by omega, by omega, by omega, HBW.out.drew, HKA.out, HKC.out, HKB.out⟩
            | exact ⟨(w3.heap.size + 1), w3.heap.size, (w3.heap.size + 1 + 1), rfl, rfl, rfl, by omega, by omega, by omega, by omega, by omega, by omega, HBW.out.drew, HKB.out, HKA.out, HKC.out⟩
            | exact ⟨(w3.heap.size + 1), (w3.heap.size + 1 + 1), w3.heap.size, rfl, rfl, rfl, by omega, by omega, by omega, by omega, by omega, by omega, HBW.out.drew, HKB.out, HKC.out, HKA.out⟩
            | exact ⟨(w3.heap.size + 1 + 1), w3.heap.size, (w3.heap.size + 1), rfl, rfl, rfl, by omega, by omega, by omega, by omega, by omega, by omega, HBW.out.drew, HKC.out, HKA.out, HKB.out⟩
            | exact ⟨(w3.heap.size + 1 + 1), (w3.heap.size + 1), w3.heap.size, rfl, rfl, rfl, by omega, by omega, by omega, by omega, by omega, by omega, HBW.out.drew, HKC.out, HKB.out, HKA.out⟩)
        case rest =>
          obtain ⟨O1, O2, O3, rfl, rfl, rfl, g1, g2, g3, n12, n13, n23, hbx, k1x, k2x, k3x⟩ := hcut
          obtain ⟨wx, hwx⟩ : ∃ wx, wx = wc := ⟨_, rfl⟩
          rw [← hwx] at hbx k1x k2x k3x ⊢
          clear hwx
          have HDV : Hid (Dv1 w X C OB O1 O2 O3 #[.int .i64 per, .slice Ai ni ci, .slice Ap np cp, .slice At nt ct] #[.int .i64 verb, .slice Ab nb cb, .slice Aw nw cw] #[.int .i64 cf, .int .i64 kc, .int .i64 cv] #[.int .i64 1, .int .i64 0, .int .i64 5, .int .i64 4, .int .i64 3, .int .i64 2] verb (.slice Ab nb cb) (.slice Aw nw cw) (.slice Aw nw cw) (.slice Aw nw cw) wx) :=
            ⟨below_two HS3.out.below hbx, HS3.out.rb.below hbx HS3.out.rb.lt, HS3.out.qb.below hbx HS3.out.qb.lt, HS3.out.cb.below hbx HS3.out.cb.lt, HOB.out.below hbx HOB.out.lt, k1x, k2x, k3x, ⟨by omega, by omega, by omega⟩, ⟨by omega, by omega, by omega⟩, ⟨n12, n13, n23⟩⟩
          have HB3 := Lib.hid hbx
          have HXL := Lib.hid l2
          have HQ2 := Lib.hid q2
          have HCE := Lib.hid (And.intro c0 (And.intro c1 c2))
          have HCL := Lib.hid l3
          have hC3 : ∀ O, w3.heap.size ≤ O → C ≠ O := fun O h => by omega
          have HRW : Hid (Reads wx wx.heap.size 3 Aw nw (cndC wh)) := (HRWQ.out wx HDV.out.below).more HDV.out.below.size
          have HONE := Lib.hid (cnd_one wh)
          clear hbx k1x k2x k3x r0 r1 r2 r3 q0 q1 q2 c0 c1 c2 l1 l2 l3
          go_upto_region 7 with fail
          go_cut [7] from 48 to 55 (fun s7 wy => s7 = .slice (some ⟨OB, 0, none⟩) 6 6 ∧ ∃ (A1 : Option Addr) (c1 : Nat), nw + 1 ≤ c1 ∧ wy.ownsRow wx.heap.size 72 3 (.slice A1 (nw + 1) c1) (nw + 1) (([] ++ cndC wh) ++ [.int .i64 cf, .int .i64 kc, .int .i64 cv]) ∧ Dv1 w X C OB O1 O2 O3 #[.int .i64 per, .slice Ai ni ci, .slice Ap np cp, .slice At nt ct] #[.int .i64 verb, .slice Ab nb cb, .slice Aw nw cw] #[.int .i64 cf, .int .i64 kc, .int .i64 cv] #[.int .i64 1, .int .i64 0, .int .i64 5, .int .i64 4, .int .i64 3, .int .i64 2] verb (.slice Ab nb cb) (.slice A1 (nw + 1) c1) (.slice Aw nw cw) (.slice Aw nw cw) wy ∧ Below w3.heap.size w3 wy)
          case first =>
            have HKS : Hid (∀ y, Below wx.heap.size wx y → Below w3.heap.size w3 y ∧ y.cell? ⟨C, 0, none⟩ = some (.int .i64 cf) ∧ y.cell? ⟨C, 1, none⟩ = some (.int .i64 kc) ∧ y.cell? ⟨C, 2, none⟩ = some (.int .i64 cv)) := fun y hy =>
              have hb := HB3.out.trans (hy.mono HB3.out.size)
              ⟨hb, (hb.cell (p := ⟨C, 0, none⟩) HCL.out).trans HCE.out.1, (hb.cell (p := ⟨C, 1, none⟩) HCL.out).trans HCE.out.2.1, (hb.cell (p := ⟨C, 2, none⟩) HCL.out).trans HCE.out.2.2⟩
            have HKT : Hid (∀ (y : World) (v : Value), (Below w3.heap.size w3 y ∧ y.cell? ⟨C, 0, none⟩ = some (.int .i64 cf) ∧ y.cell? ⟨C, 1, none⟩ = some (.int .i64 kc) ∧ y.cell? ⟨C, 2, none⟩ = some (.int .i64 cv)) → Below w3.heap.size w3 (y.setCell ⟨O1, 2, none⟩ v) ∧ (y.setCell ⟨O1, 2, none⟩ v).cell? ⟨C, 0, none⟩ = some (.int .i64 cf) ∧ (y.setCell ⟨O1, 2, none⟩ v).cell? ⟨C, 1, none⟩ = some (.int .i64 kc) ∧ (y.setCell ⟨O1, 2, none⟩ v).cell? ⟨C, 2, none⟩ = some (.int .i64 cv)) := fun y v h =>
              have hb := h.1.setCell (p := ⟨O1, 2, none⟩) g1 v
              ⟨hb, (hb.cell (p := ⟨C, 0, none⟩) HCL.out).trans HCE.out.1, (hb.cell (p := ⟨C, 1, none⟩) HCL.out).trans HCE.out.2.1, (hb.cell (p := ⟨C, 2, none⟩) HCL.out).trans HCE.out.2.2⟩
            clear hC3
            -- REGION 7
            refine wp_region_held_drew (S := fun y : World => Below w3.heap.size w3 y ∧ y.cell? ⟨C, 0, none⟩ = some (.int .i64 cf) ∧ y.cell? ⟨C, 1, none⟩ = some (.int .i64 kc) ∧ y.cell? ⟨C, 2, none⟩ = some (.int .i64 cv)) (by kernel_rfl) (HKS.out _ (Below.refl _ _).drew) (fun hHeld => ?_)
            refine wpAnyH_take (i := 1) (v := ?vp1) rfl (by kernel_rfl) (by kernel_rfl) (by kernel_rfl) (fun _ _ _ h => h) (Or.inl ⟨by rfl, ?hyp1⟩) (by assumption) ?restp1
            case hyp1 => (intro w_ hSw; (try dsimp only at hSw); obtain ⟨hbw_, e0_, e1_, e2_⟩ := hSw; have q2_ := (hbw_.cell (p := ⟨X, 2, none⟩) HXL.out).trans HQ2.out; clear hbw_; go_simp; (try with_reducible rfl))
            (try simp only [Act.put, List.setIfInBounds_toArray, List.set_cons_zero, List.set_cons_succ, List.getElem_toArray, List.getElem_cons_zero, List.getElem_cons_succ])
            refine wpAnyH_take (i := 2) (v := ?vp2) rfl (by kernel_rfl) (by kernel_rfl) (by kernel_rfl) (fun _ _ _ h => h) (Or.inl ⟨by rfl, ?hyp2⟩) (by assumption) ?restp2
            case hyp2 => (intro w_ hSw; (try dsimp only at hSw); obtain ⟨hbw_, e0_, e1_, e2_⟩ := hSw; have q2_ := (hbw_.cell (p := ⟨X, 2, none⟩) HXL.out).trans HQ2.out; clear hbw_; go_simp; (try with_reducible rfl))
            (try simp only [Act.put, List.setIfInBounds_toArray, List.set_cons_zero, List.set_cons_succ, List.getElem_toArray, List.getElem_cons_zero, List.getElem_cons_succ])
            refine wpAnyH_take (i := 4) (v := ?vp4) rfl (by kernel_rfl) (by kernel_rfl) (by kernel_rfl) (fun _ _ _ h => h) (Or.inl ⟨by rfl, ?hyp4⟩) (by assumption) ?restp4
            case hyp4 => (intro w_ hSw; (try dsimp only at hSw); obtain ⟨hbw_, e0_, e1_, e2_⟩ := hSw; have q2_ := (hbw_.cell (p := ⟨X, 2, none⟩) HXL.out).trans HQ2.out; clear hbw_; go_simp; (try with_reducible rfl))
            (try simp only [Act.put, List.setIfInBounds_toArray, List.set_cons_zero, List.set_cons_succ, List.getElem_toArray, List.getElem_cons_zero, List.getElem_cons_succ])
            refine wpAnyH_ready (rs := [0, 5]) (by kernel_rfl) (by simp) ?_
            refine AllReadyH.cons rfl (fun K hK => ?_) (AllReadyH.cons rfl (fun K hK => ?_) AllReadyH.nil)
            · go_simp
              refine hK.out _ _ ?hSpx0 (fun hHeldpx0 => ?_)
              case hSpx0 => exact HKS.out _ ((Below.refl _ _).alloc (Nat.le_refl _) _).drew
              clear hK K
              (try simp only [Act.put, List.setIfInBounds_toArray, List.set_cons_zero, List.set_cons_succ, List.getElem_toArray, List.getElem_cons_zero, List.getElem_cons_succ])
              refine wpAnyH_ready (rs := [3, 5]) (by kernel_rfl) (by simp) ?_
              refine AllReadyH.cons rfl (fun K hK => ?_) (AllReadyH.cons rfl (fun K hK => ?_) AllReadyH.nil)
              · skip
                have hbE := (((Below.refl wx.heap.size wx).alloc (Nat.le_refl _) (.cells (#[] : Array Value) 72)).drew)
                (refine step_append_any _ rfl (.tmp 48) (.tmp 50) _ rfl wx.heap.size 72 i0 _ 3 24 Tryz.underlying30 hi0 hz0 hz1 hz2 rfl (by omega) _ (0) ([]) (by simp [Act.eval]) (own_below (row_emptyU wx 72 3) (Below.refl _ _).drew) (wx.heap.size) (Aw) (nw) (cw) (cndC wh) (by simp [Act.eval]) (HRW.out.below hbE) (HONE.out) (by simp only [maxLen]; omega) (by omega) (by (try simp only [World.size_alloc, World.size_drew]); omega) ?_; intro v4 w4 hown4 hg4 hat4)
                have hs4 := hg4.size
                simp only [World.size_alloc, World.size_drew] at hs4
                have hb4 := hbE.grown hg4 (by simp only [World.size_alloc, World.size_drew]; omega) (fun r e => by (have h9 : wx.heap.size = r := (by simpa [Value.ownBlock] using e)); omega)
                refine hK.out _ _ ?hSpa3 (fun hHeldpa3 => ?_)
                case hSpa3 => exact HKS.out _ hb4
                clear hK K
                (try simp only [Act.put, List.setIfInBounds_toArray, List.set_cons_zero, List.set_cons_succ, List.getElem_toArray, List.getElem_cons_zero, List.getElem_cons_succ])
                refine wpAnyH_ready (rs := [5]) (by kernel_rfl) (by simp) ?_
                refine AllReadyH.cons rfl (fun K hK => ?_) AllReadyH.nil
                go_simp
                refine hK.out _ _ ?hSpaq5 (fun hHeldpaq5 => ?_)
                case hSpaq5 => exact HKS.out _ (hb4.alloc (by omega) (.cells (#[.int .i64 cf, .int .i64 kc, .int .i64 cv] : Array Value) 72))
                clear hK K
                (try simp only [Act.put, List.setIfInBounds_toArray, List.set_cons_zero, List.set_cons_succ, List.getElem_toArray, List.getElem_cons_zero, List.getElem_cons_succ])
                refine wpAnyH_ready (rs := [6]) (by kernel_rfl) (by simp) ?_
                refine AllReadyH.cons rfl (fun K hK => ?_) AllReadyH.nil
                (refine step_append_any _ rfl (.tmp 51) (.tmp 53) _ rfl wx.heap.size 72 i0 _ 3 24 Tryz.underlying30 hi0 hz0 hz1 hz2 rfl (by omega) _ (0 + nw) ([] ++ cndC wh) (by simp [Act.eval]) (hown4.alloc _) (w4.heap.size + 1) (some ⟨w4.heap.size, 0, none⟩) (1) (1) ([.int .i64 cf, .int .i64 kc, .int .i64 cv]) (by simp [Act.eval]) (reads_one w4 (#[.int .i64 cf, .int .i64 kc, .int .i64 cv] : Array Value) 72 3 rfl) (three_one _ _ _) (by simp only [maxLen]; omega) (by omega) (by (try simp only [World.size_alloc, World.size_drew]); omega) ?_; intro v9 w9 hown9 hg9 hat9)
                have hb9 := (hb4.alloc (by omega) (.cells (#[.int .i64 cf, .int .i64 kc, .int .i64 cv] : Array Value) 72)).grown hg9 (by simp only [World.size_alloc]; omega) (fun r e => by have := own_base hown4 r e; omega)
                rw [Nat.zero_add] at hown9
                obtain ⟨A9, c9, rfl⟩ := own_slice hown9
                refine hK.out _ _ ?hSpa6 (fun hHeldpa6 => ?_)
                case hSpa6 => exact HKS.out _ hb9
                clear hK K
                have hdv := HDV.out.same hb9
                have s1 := hdv.b1.cell 2
                have sf := hdv.b1.frozen 2
                simp only [List.getElem?_toArray, List.getElem?_cons_zero, List.getElem?_cons_succ] at s1
                have HF := Lib.hid (And.intro hown9 (And.intro hb9 hdv))
                clear hown9 hb9 hdv hown4 hg4 hg9 hat4 hat9 hb4 hs4 hbE
                (try simp only [Act.put, List.setIfInBounds_toArray, List.set_cons_zero, List.set_cons_succ, List.getElem_toArray, List.getElem_cons_zero, List.getElem_cons_succ])
                refine wpAnyH_take (i := 7) (v := ?vpa7) rfl (by kernel_rfl) (by kernel_rfl) (by kernel_rfl) (fun _ _ _ h => h) (Or.inl ⟨by rfl, ?hypa7⟩) (by assumption) ?restpa7
                case hypa7 => (intro w_ hSw; (try dsimp only at hSw); obtain _ := hSw; go_simp; (try with_reducible rfl))
                (try simp only [Act.put, List.setIfInBounds_toArray, List.set_cons_zero, List.set_cons_succ, List.getElem_toArray, List.getElem_cons_zero, List.getElem_cons_succ])
                (try simp only [Act.put, List.setIfInBounds_toArray, List.set_cons_zero, List.set_cons_succ, List.getElem_toArray, List.getElem_cons_zero, List.getElem_cons_succ])
                refine wpAnyH_ready (rs := [8]) (by kernel_rfl) (by simp) ?_
                refine AllReadyH.cons rfl (fun K hK => ?_) AllReadyH.nil
                go_simp
                refine hK.out _ _ ?hSpa8 (fun hHeldpa8 => ?_)
                case hSpa8 => exact HKT.out _ _ hHeldpa6
                clear hK K
                (try simp only [Act.put, List.setIfInBounds_toArray, List.set_cons_zero, List.set_cons_succ, List.getElem_toArray, List.getElem_cons_zero, List.getElem_cons_succ])
                refine wpAnyH_done (by kernel_rfl) ?_ _
                go_wp2_with fail
                go_meet
                obtain ⟨hown9, hb9, hdv⟩ := HF.out
                exact ⟨rfl, A9, c9, own_capQ hown9, ownsRow_setCell_other hown9 (a := ⟨O1, 2, none⟩) (own_blk_ne hown9 hdv.b1 (by decide)) _, hdv.sb1 _, HB3.out.trans (hb9.mono HB3.out.size) |>.setCell (p := ⟨O1, 2, none⟩) (by show w3.heap.size ≤ O1; omega) _⟩
              · skip
                go_simp
                refine hK.out _ _ ?hSpb5 (fun hHeldpb5 => ?_)
                case hSpb5 => exact HKS.out _ (((Below.refl _ _).alloc (Nat.le_refl _) _).alloc (by rw [World.size_alloc]; omega) _).drew
                clear hK K
                (try simp only [Act.put, List.setIfInBounds_toArray, List.set_cons_zero, List.set_cons_succ, List.getElem_toArray, List.getElem_cons_zero, List.getElem_cons_succ])
                refine wpAnyH_ready (rs := [3]) (by kernel_rfl) (by simp) ?_
                refine AllReadyH.cons rfl (fun K hK => ?_) AllReadyH.nil
                have hbE := ((((Below.refl wx.heap.size wx).alloc (Nat.le_refl _) (.cells (#[] : Array Value) 72)).alloc (by rw [World.size_alloc]; omega) (.cells (#[.int .i64 cf, .int .i64 kc, .int .i64 cv] : Array Value) 72)).drew)
                (refine step_append_any _ rfl (.tmp 48) (.tmp 50) _ rfl wx.heap.size 72 i0 _ 3 24 Tryz.underlying30 hi0 hz0 hz1 hz2 rfl (by omega) _ (0) ([]) (by simp [Act.eval]) (own_below ((row_emptyU wx 72 3).alloc (.cells (#[.int .i64 cf, .int .i64 kc, .int .i64 cv] : Array Value) 72)) (Below.refl _ _).drew) (wx.heap.size) (Aw) (nw) (cw) (cndC wh) (by simp [Act.eval]) (HRW.out.below hbE) (HONE.out) (by simp only [maxLen]; omega) (by omega) (by (try simp only [World.size_alloc, World.size_drew]); omega) ?_; intro v4 w4 hown4 hg4 hat4)
                have hs4 := hg4.size
                simp only [World.size_alloc, World.size_drew] at hs4
                have hb4 := hbE.grown hg4 (by simp only [World.size_alloc, World.size_drew]; omega) (fun r e => by (have h9 : wx.heap.size = r := (by simpa [Value.ownBlock] using e)); omega)
                refine hK.out _ _ ?hSpb3 (fun hHeldpb3 => ?_)
                case hSpb3 => exact HKS.out _ hb4
                clear hK K
                have hrn : Reads (((wx.alloc (.cells (#[] : Array Value) 72)).alloc (.cells (#[.int .i64 cf, .int .i64 kc, .int .i64 cv] : Array Value) 72)).drew) (wx.heap.size + 1 + 1) 3 (some ⟨wx.heap.size + 1, 0, none⟩) 1 [.int .i64 cf, .int .i64 kc, .int .i64 cv] := by have := (reads_one (wx.alloc (.cells (#[] : Array Value) 72)) (#[.int .i64 cf, .int .i64 kc, .int .i64 cv] : Array Value) 72 3 rfl).drew; simpa only [World.size_alloc] using this
                have hrn4 := reads_past hrn hg4 (by simp [Value.ownBlock]) (by simp only [World.size_alloc, World.size_drew]; omega)
                (try simp only [Act.put, List.setIfInBounds_toArray, List.set_cons_zero, List.set_cons_succ, List.getElem_toArray, List.getElem_cons_zero, List.getElem_cons_succ])
                refine wpAnyH_ready (rs := [6]) (by kernel_rfl) (by simp) ?_
                refine AllReadyH.cons rfl (fun K hK => ?_) AllReadyH.nil
                (refine step_append_any _ rfl (.tmp 51) (.tmp 53) _ rfl wx.heap.size 72 i0 _ 3 24 Tryz.underlying30 hi0 hz0 hz1 hz2 rfl (by omega) _ (0 + nw) ([] ++ cndC wh) (by simp [Act.eval]) (hown4) (wx.heap.size + 1 + 1) (some ⟨wx.heap.size + 1, 0, none⟩) (1) (1) ([.int .i64 cf, .int .i64 kc, .int .i64 cv]) (by simp [Act.eval]) (hrn4) (three_one _ _ _) (by simp only [maxLen]; omega) (by omega) (by (try simp only [World.size_alloc, World.size_drew]); omega) ?_; intro v9 w9 hown9 hg9 hat9)
                have hb9 := hb4.grown hg9 (by omega) (fun r e => by have := own_base hown4 r e; omega)
                rw [Nat.zero_add] at hown9
                obtain ⟨A9, c9, rfl⟩ := own_slice hown9
                refine hK.out _ _ ?hSpb6 (fun hHeldpb6 => ?_)
                case hSpb6 => exact HKS.out _ hb9
                clear hK K
                have hdv := HDV.out.same hb9
                have s1 := hdv.b1.cell 2
                have sf := hdv.b1.frozen 2
                simp only [List.getElem?_toArray, List.getElem?_cons_zero, List.getElem?_cons_succ] at s1
                have HF := Lib.hid (And.intro hown9 (And.intro hb9 hdv))
                clear hown9 hb9 hdv hown4 hg4 hg9 hat4 hat9 hb4 hs4 hbE hrn hrn4
                (try simp only [Act.put, List.setIfInBounds_toArray, List.set_cons_zero, List.set_cons_succ, List.getElem_toArray, List.getElem_cons_zero, List.getElem_cons_succ])
                refine wpAnyH_take (i := 7) (v := ?vpb7) rfl (by kernel_rfl) (by kernel_rfl) (by kernel_rfl) (fun _ _ _ h => h) (Or.inl ⟨by rfl, ?hypb7⟩) (by assumption) ?restpb7
                case hypb7 => (intro w_ hSw; (try dsimp only at hSw); obtain _ := hSw; go_simp; (try with_reducible rfl))
                (try simp only [Act.put, List.setIfInBounds_toArray, List.set_cons_zero, List.set_cons_succ, List.getElem_toArray, List.getElem_cons_zero, List.getElem_cons_succ])
                (try simp only [Act.put, List.setIfInBounds_toArray, List.set_cons_zero, List.set_cons_succ, List.getElem_toArray, List.getElem_cons_zero, List.getElem_cons_succ])
                refine wpAnyH_ready (rs := [8]) (by kernel_rfl) (by simp) ?_
                refine AllReadyH.cons rfl (fun K hK => ?_) AllReadyH.nil
                go_simp
                refine hK.out _ _ ?hSpb8 (fun hHeldpb8 => ?_)
                case hSpb8 => exact HKT.out _ _ hHeldpb6
                clear hK K
                (try simp only [Act.put, List.setIfInBounds_toArray, List.set_cons_zero, List.set_cons_succ, List.getElem_toArray, List.getElem_cons_zero, List.getElem_cons_succ])
                refine wpAnyH_done (by kernel_rfl) ?_ _
                go_wp2_with fail
                go_meet
                obtain ⟨hown9, hb9, hdv⟩ := HF.out
                exact ⟨rfl, A9, c9, own_capQ hown9, ownsRow_setCell_other hown9 (a := ⟨O1, 2, none⟩) (own_blk_ne hown9 hdv.b1 (by decide)) _, hdv.sb1 _, HB3.out.trans (hb9.mono HB3.out.size) |>.setCell (p := ⟨O1, 2, none⟩) (by show w3.heap.size ≤ O1; omega) _⟩
            · go_simp
              refine hK.out _ _ ?hSpx5 (fun hHeldpx5 => ?_)
              case hSpx5 => exact HKS.out _ ((Below.refl _ _).alloc (Nat.le_refl _) _).drew
              clear hK K
              (try simp only [Act.put, List.setIfInBounds_toArray, List.set_cons_zero, List.set_cons_succ, List.getElem_toArray, List.getElem_cons_zero, List.getElem_cons_succ])
              refine wpAnyH_ready (rs := [0]) (by kernel_rfl) (by simp) ?_
              refine AllReadyH.cons rfl (fun K hK => ?_) AllReadyH.nil
              go_simp
              refine hK.out _ _ ?hSpc0 (fun hHeldpc0 => ?_)
              case hSpc0 => exact HKS.out _ (((Below.refl _ _).alloc (Nat.le_refl _) _).alloc (by rw [World.size_alloc]; omega) _).drew
              clear hK K
              (try simp only [Act.put, List.setIfInBounds_toArray, List.set_cons_zero, List.set_cons_succ, List.getElem_toArray, List.getElem_cons_zero, List.getElem_cons_succ])
              refine wpAnyH_ready (rs := [3]) (by kernel_rfl) (by simp) ?_
              refine AllReadyH.cons rfl (fun K hK => ?_) AllReadyH.nil
              have hbE := ((((Below.refl wx.heap.size wx).alloc (Nat.le_refl _) (.cells (#[.int .i64 cf, .int .i64 kc, .int .i64 cv] : Array Value) 72)).alloc (by rw [World.size_alloc]; omega) (.cells (#[] : Array Value) 72)).drew)
              (refine step_append_any _ rfl (.tmp 48) (.tmp 50) _ rfl wx.heap.size 72 i0 _ 3 24 Tryz.underlying30 hi0 hz0 hz1 hz2 rfl (by omega) _ (0) ([]) (by simp [Act.eval]) (own_below (own_mono (row_emptyU (wx.alloc (.cells (#[.int .i64 cf, .int .i64 kc, .int .i64 cv] : Array Value) 72)) 72 3) (by rw [World.size_alloc]; omega)) (Below.refl _ _).drew) (wx.heap.size) (Aw) (nw) (cw) (cndC wh) (by simp [Act.eval]) (HRW.out.below hbE) (HONE.out) (by simp only [maxLen]; omega) (by omega) (by (try simp only [World.size_alloc, World.size_drew]); omega) ?_; intro v4 w4 hown4 hg4 hat4)
              have hs4 := hg4.size
              simp only [World.size_alloc, World.size_drew] at hs4
              have hb4 := hbE.grown hg4 (by simp only [World.size_alloc, World.size_drew]; omega) (fun r e => by (have h9 : wx.heap.size + 1 = r := (by simpa [Value.ownBlock] using e)); omega)
              refine hK.out _ _ ?hSpc3 (fun hHeldpc3 => ?_)
              case hSpc3 => exact HKS.out _ hb4
              clear hK K
              have hrn : Reads (((wx.alloc (.cells (#[.int .i64 cf, .int .i64 kc, .int .i64 cv] : Array Value) 72)).alloc (.cells (#[] : Array Value) 72)).drew) (wx.heap.size + 1) 3 (some ⟨wx.heap.size, 0, none⟩) 1 [.int .i64 cf, .int .i64 kc, .int .i64 cv] := by have := ((reads_one wx (#[.int .i64 cf, .int .i64 kc, .int .i64 cv] : Array Value) 72 3 rfl).alloc (by rw [World.size_alloc]; omega) (.cells (#[] : Array Value) 72)).drew; simpa only [World.size_alloc] using this
              have hrn4 := reads_past hrn hg4 (by simp [Value.ownBlock]) (by simp only [World.size_alloc, World.size_drew]; omega)
              (try simp only [Act.put, List.setIfInBounds_toArray, List.set_cons_zero, List.set_cons_succ, List.getElem_toArray, List.getElem_cons_zero, List.getElem_cons_succ])
              refine wpAnyH_ready (rs := [6]) (by kernel_rfl) (by simp) ?_
              refine AllReadyH.cons rfl (fun K hK => ?_) AllReadyH.nil
              (refine step_append_any _ rfl (.tmp 51) (.tmp 53) _ rfl wx.heap.size 72 i0 _ 3 24 Tryz.underlying30 hi0 hz0 hz1 hz2 rfl (by omega) _ (0 + nw) ([] ++ cndC wh) (by simp [Act.eval]) (hown4) (wx.heap.size + 1) (some ⟨wx.heap.size, 0, none⟩) (1) (1) ([.int .i64 cf, .int .i64 kc, .int .i64 cv]) (by simp [Act.eval]) (hrn4) (three_one _ _ _) (by simp only [maxLen]; omega) (by omega) (by (try simp only [World.size_alloc, World.size_drew]); omega) ?_; intro v9 w9 hown9 hg9 hat9)
              have hb9 := hb4.grown hg9 (by omega) (fun r e => by have := own_base hown4 r e; omega)
              rw [Nat.zero_add] at hown9
              obtain ⟨A9, c9, rfl⟩ := own_slice hown9
              refine hK.out _ _ ?hSpc6 (fun hHeldpc6 => ?_)
              case hSpc6 => exact HKS.out _ hb9
              clear hK K
              have hdv := HDV.out.same hb9
              have s1 := hdv.b1.cell 2
              have sf := hdv.b1.frozen 2
              simp only [List.getElem?_toArray, List.getElem?_cons_zero, List.getElem?_cons_succ] at s1
              have HF := Lib.hid (And.intro hown9 (And.intro hb9 hdv))
              clear hown9 hb9 hdv hown4 hg4 hg9 hat4 hat9 hb4 hs4 hbE hrn hrn4
              (try simp only [Act.put, List.setIfInBounds_toArray, List.set_cons_zero, List.set_cons_succ, List.getElem_toArray, List.getElem_cons_zero, List.getElem_cons_succ])
              refine wpAnyH_take (i := 7) (v := ?vpc7) rfl (by kernel_rfl) (by kernel_rfl) (by kernel_rfl) (fun _ _ _ h => h) (Or.inl ⟨by rfl, ?hypc7⟩) (by assumption) ?restpc7
              case hypc7 => (intro w_ hSw; (try dsimp only at hSw); obtain _ := hSw; go_simp; (try with_reducible rfl))
              (try simp only [Act.put, List.setIfInBounds_toArray, List.set_cons_zero, List.set_cons_succ, List.getElem_toArray, List.getElem_cons_zero, List.getElem_cons_succ])
              (try simp only [Act.put, List.setIfInBounds_toArray, List.set_cons_zero, List.set_cons_succ, List.getElem_toArray, List.getElem_cons_zero, List.getElem_cons_succ])
              refine wpAnyH_ready (rs := [8]) (by kernel_rfl) (by simp) ?_
              refine AllReadyH.cons rfl (fun K hK => ?_) AllReadyH.nil
              go_simp
              refine hK.out _ _ ?hSpc8 (fun hHeldpc8 => ?_)
              case hSpc8 => exact HKT.out _ _ hHeldpc6
              clear hK K
              (try simp only [Act.put, List.setIfInBounds_toArray, List.set_cons_zero, List.set_cons_succ, List.getElem_toArray, List.getElem_cons_zero, List.getElem_cons_succ])
              refine wpAnyH_done (by kernel_rfl) ?_ _
              go_wp2_with fail
              go_meet
              obtain ⟨hown9, hb9, hdv⟩ := HF.out
              exact ⟨rfl, A9, c9, own_capQ hown9, ownsRow_setCell_other hown9 (a := ⟨O1, 2, none⟩) (own_blk_ne hown9 hdv.b1 (by decide)) _, hdv.sb1 _, HB3.out.trans (hb9.mono HB3.out.size) |>.setCell (p := ⟨O1, 2, none⟩) (by show w3.heap.size ≤ O1; omega) _⟩
            -- END 7
          case rest =>
            obtain ⟨rfl, A1, c1, hc1, ho1, hdv1, hb31⟩ := hcut
            obtain ⟨wy1, hwy1⟩ : ∃ wy1, wy1 = wc := ⟨_, rfl⟩
            rw [← hwy1] at ho1 hdv1 hb31 ⊢
            clear hwy1
            obtain ⟨od, hod⟩ : ∃ od, oppL.getD kc 0 = od := ⟨_, rfl⟩
            have HOD := Lib.hid hod
            have hod2 : wy1.cell? ⟨OB, kc, none⟩ = some (.int .i64 od) := by
              have h := hdv1.ob.cell kc
              rw [h, ← hod]
              have hk : kc = 0 ∨ kc = 1 ∨ kc = 2 ∨ kc = 3 ∨ kc = 4 ∨ kc = 5 := by omega
              rcases hk with rfl | rfl | rfl | rfl | rfl | rfl <;> rfl
            have HO1 := Lib.hid ho1
            have HDV1 := Lib.hid hdv1
            have HB31 := Lib.hid hb31
            clear hod HDV HB3 HRW ho1
            have hba := (Below.refl wy1.heap.size wy1).alloc (Nat.le_refl _) (.cells #[.int .i64 cf, .int .i64 kc, .int .i64 cv] 72)
            have hka := Blk.new wy1 72 #[.int .i64 cf, .int .i64 kc, .int .i64 cv]
            obtain ⟨wa, hwa⟩ : ∃ wa, wy1.alloc (.cells #[.int .i64 cf, .int .i64 kc, .int .i64 cv] 72) = wa := ⟨_, rfl⟩
            rw [hwa] at hba hka
            obtain ⟨D, hD⟩ : ∃ D, wy1.heap.size = D := ⟨_, rfl⟩
            rw [hD] at hka
            have c0 := (hdv1.cb.below hba hdv1.cb.lt).cell 0
            have c1' := (hdv1.cb.below hba hdv1.cb.lt).cell 1
            have c2 := (hdv1.cb.below hba hdv1.cb.lt).cell 2
            have d1 := hka.cell 1
            simp only [List.getElem?_toArray, List.getElem?_cons_zero, List.getElem?_cons_succ] at c0 c1' c2 d1
            have y0 := hdv1.cb.cell 0
            have y1 := hdv1.cb.cell 1
            have y2 := hdv1.cb.cell 2
            simp only [List.getElem?_toArray, List.getElem?_cons_zero, List.getElem?_cons_succ] at y0 y1 y2
            have f1 := hka.frozen 1
            have hod3 := (hba.cell (World.block_lt_of_cell? _ _ hod2)).trans hod2
            have ly1 := hdv1.cb.lt
            have ly2 := hdv1.ob.lt
            have ly3 := (hdv1.cb.below hba hdv1.cb.lt).lt
            have ly4 := (hdv1.ob.below hba hdv1.ob.lt).lt
            have ly5 := hka.lt
            have hkd := hka.set_ 1 (.int .i64 od)
            have hbd : Below wy1.heap.size wy1 (wa.setCell ⟨D, 1, none⟩ (.int .i64 od)) := hba.setCell (p := ⟨D, 1, none⟩) (by show wy1.heap.size ≤ D; omega) _
            obtain ⟨wd, hwd⟩ : ∃ wd, wa.setCell ⟨D, 1, none⟩ (.int .i64 od) = wd := ⟨_, rfl⟩
            rw [hwd] at hkd hbd
            have HKD := Lib.hid hkd
            have HBD := Lib.hid hbd
            have HWD := Lib.hid hwd
            clear hkd hbd hdv1 hka hba hb31
            go_upto_region 10 with fail
            have HDW := Lib.hid (HDV1.out.same HBD.out)
            have HO1D := Lib.hid (own_below HO1.out HBD.out)
            have HB3D := Lib.hid (HB31.out.trans (HBD.out.mono HB31.out.size))
            have hs3d := HB3D.out.size
            have HRW : Hid (Reads wd wd.heap.size 3 Aw nw (cndC wh)) := (HRWQ.out wd HDW.out.below).more HDW.out.below.size
            have hDl : D < wd.heap.size := HKD.out.lt
            have hwdl := HBD.out.size
            have hD2 : D ≠ O2 := fun e => HKD.out.ne_ HDW.out.b2 (by decide) e
            clear c0 c1' c2 d1 y0 y1 y2 f1 hod2 hod3 ly1 ly2 ly3 ly4 ly5 HDV1 HO1 HB31 HBD hD hwa hwd HWD
            go_cut [7] from 63 to 70 (fun s7 wz => s7 = .slice (some ⟨OB, 0, none⟩) 6 6 ∧ ∃ (A2 : Option Addr) (c2 : Nat), nw + 1 ≤ c2 ∧ wz.ownsRow wd.heap.size 72 3 (.slice A2 (nw + 1) c2) (nw + 1) (([] ++ cndC wh) ++ [.int .i64 cf, .int .i64 od, .int .i64 cv]) ∧ Dv1 w X C OB O1 O2 O3 #[.int .i64 per, .slice Ai ni ci, .slice Ap np cp, .slice At nt ct] #[.int .i64 verb, .slice Ab nb cb, .slice Aw nw cw] #[.int .i64 cf, .int .i64 kc, .int .i64 cv] #[.int .i64 1, .int .i64 0, .int .i64 5, .int .i64 4, .int .i64 3, .int .i64 2] verb (.slice Ab nb cb) (.slice A1 (nw + 1) c1) (.slice A2 (nw + 1) c2) (.slice Aw nw cw) wz ∧ Below w3.heap.size w3 wz ∧ wz.ownsRow wx.heap.size 72 3 (.slice A1 (nw + 1) c1) (nw + 1) (([] ++ cndC wh) ++ [.int .i64 cf, .int .i64 kc, .int .i64 cv]))
            case first =>
              have HB3 := HB3D
              have e0 := HKD.out.cell 0
              have e1 := HKD.out.cell 1
              have e2 := HKD.out.cell 2
              have HDE : Hid (wd.cell? ⟨D, 0, none⟩ = some (.int .i64 cf) ∧ wd.cell? ⟨D, 1, none⟩ = some (.int .i64 od) ∧ wd.cell? ⟨D, 2, none⟩ = some (.int .i64 cv)) := ⟨e0, e1, e2⟩
              clear e0 e1 e2
              have HKS : Hid (∀ y, Below wd.heap.size wd y → Below w3.heap.size w3 y ∧ y.cell? ⟨D, 0, none⟩ = some (.int .i64 cf) ∧ y.cell? ⟨D, 1, none⟩ = some (.int .i64 od) ∧ y.cell? ⟨D, 2, none⟩ = some (.int .i64 cv)) := fun y hy =>
                ⟨HB3.out.trans (hy.mono HB3.out.size), (hy.cell (p := ⟨D, 0, none⟩) hDl).trans HDE.out.1, (hy.cell (p := ⟨D, 1, none⟩) hDl).trans HDE.out.2.1, (hy.cell (p := ⟨D, 2, none⟩) hDl).trans HDE.out.2.2⟩
              have HKT : Hid (∀ (y : World) (v : Value), (Below w3.heap.size w3 y ∧ y.cell? ⟨D, 0, none⟩ = some (.int .i64 cf) ∧ y.cell? ⟨D, 1, none⟩ = some (.int .i64 od) ∧ y.cell? ⟨D, 2, none⟩ = some (.int .i64 cv)) → Below w3.heap.size w3 (y.setCell ⟨O2, 2, none⟩ v) ∧ (y.setCell ⟨O2, 2, none⟩ v).cell? ⟨D, 0, none⟩ = some (.int .i64 cf) ∧ (y.setCell ⟨O2, 2, none⟩ v).cell? ⟨D, 1, none⟩ = some (.int .i64 od) ∧ (y.setCell ⟨O2, 2, none⟩ v).cell? ⟨D, 2, none⟩ = some (.int .i64 cv)) := fun y v h =>
                have hk : ∀ (a : Addr), a.block = D → (y.setCell ⟨O2, 2, none⟩ v).cell? a = y.cell? a := fun a ha => World.cell?_of_block (Below.heap_setCell y ⟨O2, 2, none⟩ v _ (by rw [ha]; exact hD2))
                ⟨h.1.setCell (p := ⟨O2, 2, none⟩) g2 v, (hk ⟨D, 0, none⟩ rfl).trans h.2.1, (hk ⟨D, 1, none⟩ rfl).trans h.2.2.1, (hk ⟨D, 2, none⟩ rfl).trans h.2.2.2⟩
              have HO1K : Hid (∀ (y : World) (v : Value), Below wd.heap.size wd y → ∀ {cs}, Blk y O2 32 cs → (y.setCell ⟨O2, 2, none⟩ v).ownsRow wx.heap.size 72 3 (.slice A1 (nw + 1) c1) (nw + 1) (([] ++ cndC wh) ++ [.int .i64 cf, .int .i64 kc, .int .i64 cv])) := fun y v hy cs hk =>
                have ho := own_below HO1D.out hy
                ownsRow_setCell_other ho (a := ⟨O2, 2, none⟩) (own_blk_ne ho hk (by decide)) _
              clear hC3
              -- REGION 10
              refine wp_region_held_drew (S := fun y : World => Below w3.heap.size w3 y ∧ y.cell? ⟨D, 0, none⟩ = some (.int .i64 cf) ∧ y.cell? ⟨D, 1, none⟩ = some (.int .i64 od) ∧ y.cell? ⟨D, 2, none⟩ = some (.int .i64 cv)) (by kernel_rfl) (HKS.out _ (Below.refl _ _).drew) (fun hHeld => ?_)
              refine wpAnyH_take (i := 1) (v := ?vk1) rfl (by kernel_rfl) (by kernel_rfl) (by kernel_rfl) (fun _ _ _ h => h) (Or.inl ⟨by rfl, ?hyk1⟩) (by assumption) ?restk1
              case hyk1 => (intro w_ hSw; (try dsimp only at hSw); obtain ⟨hbw_, e0_, e1_, e2_⟩ := hSw; have q2_ := (hbw_.cell (p := ⟨X, 2, none⟩) HXL.out).trans HQ2.out; clear hbw_; go_simp; (try with_reducible rfl))
              (try simp only [Act.put, List.setIfInBounds_toArray, List.set_cons_zero, List.set_cons_succ, List.getElem_toArray, List.getElem_cons_zero, List.getElem_cons_succ])
              refine wpAnyH_take (i := 2) (v := ?vk2) rfl (by kernel_rfl) (by kernel_rfl) (by kernel_rfl) (fun _ _ _ h => h) (Or.inl ⟨by rfl, ?hyk2⟩) (by assumption) ?restk2
              case hyk2 => (intro w_ hSw; (try dsimp only at hSw); obtain ⟨hbw_, e0_, e1_, e2_⟩ := hSw; have q2_ := (hbw_.cell (p := ⟨X, 2, none⟩) HXL.out).trans HQ2.out; clear hbw_; go_simp; (try with_reducible rfl))
              (try simp only [Act.put, List.setIfInBounds_toArray, List.set_cons_zero, List.set_cons_succ, List.getElem_toArray, List.getElem_cons_zero, List.getElem_cons_succ])
              refine wpAnyH_take (i := 4) (v := ?vk4) rfl (by kernel_rfl) (by kernel_rfl) (by kernel_rfl) (fun _ _ _ h => h) (Or.inl ⟨by rfl, ?hyk4⟩) (by assumption) ?restk4
              case hyk4 => (intro w_ hSw; (try dsimp only at hSw); obtain ⟨hbw_, e0_, e1_, e2_⟩ := hSw; have q2_ := (hbw_.cell (p := ⟨X, 2, none⟩) HXL.out).trans HQ2.out; clear hbw_; go_simp; (try with_reducible rfl))
              (try simp only [Act.put, List.setIfInBounds_toArray, List.set_cons_zero, List.set_cons_succ, List.getElem_toArray, List.getElem_cons_zero, List.getElem_cons_succ])
              refine wpAnyH_ready (rs := [0, 5]) (by kernel_rfl) (by simp) ?_
              refine AllReadyH.cons rfl (fun K hK => ?_) (AllReadyH.cons rfl (fun K hK => ?_) AllReadyH.nil)
              · go_simp
                refine hK.out _ _ ?hSkx0 (fun hHeldkx0 => ?_)
                case hSkx0 => exact HKS.out _ ((Below.refl _ _).alloc (Nat.le_refl _) _).drew
                clear hK K
                (try simp only [Act.put, List.setIfInBounds_toArray, List.set_cons_zero, List.set_cons_succ, List.getElem_toArray, List.getElem_cons_zero, List.getElem_cons_succ])
                refine wpAnyH_ready (rs := [3, 5]) (by kernel_rfl) (by simp) ?_
                refine AllReadyH.cons rfl (fun K hK => ?_) (AllReadyH.cons rfl (fun K hK => ?_) AllReadyH.nil)
                · skip
                  have hbE := (((Below.refl wd.heap.size wd).alloc (Nat.le_refl _) (.cells (#[] : Array Value) 72)).drew)
                  (refine step_append_any _ rfl (.tmp 63) (.tmp 65) _ rfl wd.heap.size 72 i0 _ 3 24 Tryz.underlying30 hi0 hz0 hz1 hz2 rfl (by omega) _ (0) ([]) (by simp [Act.eval]) (own_below (row_emptyU wd 72 3) (Below.refl _ _).drew) (wd.heap.size) (Aw) (nw) (cw) (cndC wh) (by simp [Act.eval]) (HRW.out.below hbE) (HONE.out) (by simp only [maxLen]; omega) (by omega) (by (try simp only [World.size_alloc, World.size_drew]); omega) ?_; intro v4 w4 hown4 hg4 hat4)
                  have hs4 := hg4.size
                  simp only [World.size_alloc, World.size_drew] at hs4
                  have hb4 := hbE.grown hg4 (by simp only [World.size_alloc, World.size_drew]; omega) (fun r e => by (have h9 : wd.heap.size = r := (by simpa [Value.ownBlock] using e)); omega)
                  refine hK.out _ _ ?hSka3 (fun hHeldka3 => ?_)
                  case hSka3 => exact HKS.out _ hb4
                  clear hK K
                  (try simp only [Act.put, List.setIfInBounds_toArray, List.set_cons_zero, List.set_cons_succ, List.getElem_toArray, List.getElem_cons_zero, List.getElem_cons_succ])
                  refine wpAnyH_ready (rs := [5]) (by kernel_rfl) (by simp) ?_
                  refine AllReadyH.cons rfl (fun K hK => ?_) AllReadyH.nil
                  go_simp
                  refine hK.out _ _ ?hSkaq5 (fun hHeldkaq5 => ?_)
                  case hSkaq5 => exact HKS.out _ (hb4.alloc (by omega) (.cells (#[.int .i64 cf, .int .i64 od, .int .i64 cv] : Array Value) 72))
                  clear hK K
                  (try simp only [Act.put, List.setIfInBounds_toArray, List.set_cons_zero, List.set_cons_succ, List.getElem_toArray, List.getElem_cons_zero, List.getElem_cons_succ])
                  refine wpAnyH_ready (rs := [6]) (by kernel_rfl) (by simp) ?_
                  refine AllReadyH.cons rfl (fun K hK => ?_) AllReadyH.nil
                  (refine step_append_any _ rfl (.tmp 66) (.tmp 68) _ rfl wd.heap.size 72 i0 _ 3 24 Tryz.underlying30 hi0 hz0 hz1 hz2 rfl (by omega) _ (0 + nw) ([] ++ cndC wh) (by simp [Act.eval]) (hown4.alloc _) (w4.heap.size + 1) (some ⟨w4.heap.size, 0, none⟩) (1) (1) ([.int .i64 cf, .int .i64 od, .int .i64 cv]) (by simp [Act.eval]) (reads_one w4 (#[.int .i64 cf, .int .i64 od, .int .i64 cv] : Array Value) 72 3 rfl) (three_one _ _ _) (by simp only [maxLen]; omega) (by omega) (by (try simp only [World.size_alloc, World.size_drew]); omega) ?_; intro v9 w9 hown9 hg9 hat9)
                  have hb9 := (hb4.alloc (by omega) (.cells (#[.int .i64 cf, .int .i64 od, .int .i64 cv] : Array Value) 72)).grown hg9 (by simp only [World.size_alloc]; omega) (fun r e => by have := own_base hown4 r e; omega)
                  rw [Nat.zero_add] at hown9
                  obtain ⟨A9, c9, rfl⟩ := own_slice hown9
                  refine hK.out _ _ ?hSka6 (fun hHeldka6 => ?_)
                  case hSka6 => exact HKS.out _ hb9
                  clear hK K
                  have hdv := HDW.out.same hb9
                  have s1 := hdv.b2.cell 2
                  have sf := hdv.b2.frozen 2
                  simp only [List.getElem?_toArray, List.getElem?_cons_zero, List.getElem?_cons_succ] at s1
                  have HF := Lib.hid (And.intro hown9 (And.intro hb9 hdv))
                  clear hown9 hb9 hdv hown4 hg4 hg9 hat4 hat9 hb4 hs4 hbE
                  (try simp only [Act.put, List.setIfInBounds_toArray, List.set_cons_zero, List.set_cons_succ, List.getElem_toArray, List.getElem_cons_zero, List.getElem_cons_succ])
                  refine wpAnyH_take (i := 7) (v := ?vka7) rfl (by kernel_rfl) (by kernel_rfl) (by kernel_rfl) (fun _ _ _ h => h) (Or.inl ⟨by rfl, ?hyka7⟩) (by assumption) ?restka7
                  case hyka7 => (intro w_ hSw; (try dsimp only at hSw); obtain _ := hSw; go_simp; (try with_reducible rfl))
                  (try simp only [Act.put, List.setIfInBounds_toArray, List.set_cons_zero, List.set_cons_succ, List.getElem_toArray, List.getElem_cons_zero, List.getElem_cons_succ])
                  (try simp only [Act.put, List.setIfInBounds_toArray, List.set_cons_zero, List.set_cons_succ, List.getElem_toArray, List.getElem_cons_zero, List.getElem_cons_succ])
                  refine wpAnyH_ready (rs := [8]) (by kernel_rfl) (by simp) ?_
                  refine AllReadyH.cons rfl (fun K hK => ?_) AllReadyH.nil
                  go_simp
                  refine hK.out _ _ ?hSka8 (fun hHeldka8 => ?_)
                  case hSka8 => exact HKT.out _ _ hHeldka6
                  clear hK K
                  (try simp only [Act.put, List.setIfInBounds_toArray, List.set_cons_zero, List.set_cons_succ, List.getElem_toArray, List.getElem_cons_zero, List.getElem_cons_succ])
                  refine wpAnyH_done (by kernel_rfl) ?_ _
                  go_wp2_with fail
                  go_meet
                  obtain ⟨hown9, hb9, hdv⟩ := HF.out
                  exact ⟨rfl, A9, c9, own_capQ hown9, ownsRow_setCell_other hown9 (a := ⟨O2, 2, none⟩) (own_blk_ne hown9 hdv.b2 (by decide)) _, hdv.sb2 _, HB3.out.trans (hb9.mono HB3.out.size) |>.setCell (p := ⟨O2, 2, none⟩) (by show w3.heap.size ≤ O2; omega) _, HO1K.out _ _ hb9 hdv.b2⟩
                · skip
                  go_simp
                  refine hK.out _ _ ?hSkb5 (fun hHeldkb5 => ?_)
                  case hSkb5 => exact HKS.out _ (((Below.refl _ _).alloc (Nat.le_refl _) _).alloc (by rw [World.size_alloc]; omega) _).drew
                  clear hK K
                  (try simp only [Act.put, List.setIfInBounds_toArray, List.set_cons_zero, List.set_cons_succ, List.getElem_toArray, List.getElem_cons_zero, List.getElem_cons_succ])
                  refine wpAnyH_ready (rs := [3]) (by kernel_rfl) (by simp) ?_
                  refine AllReadyH.cons rfl (fun K hK => ?_) AllReadyH.nil
                  have hbE := ((((Below.refl wd.heap.size wd).alloc (Nat.le_refl _) (.cells (#[] : Array Value) 72)).alloc (by rw [World.size_alloc]; omega) (.cells (#[.int .i64 cf, .int .i64 od, .int .i64 cv] : Array Value) 72)).drew)
                  (refine step_append_any _ rfl (.tmp 63) (.tmp 65) _ rfl wd.heap.size 72 i0 _ 3 24 Tryz.underlying30 hi0 hz0 hz1 hz2 rfl (by omega) _ (0) ([]) (by simp [Act.eval]) (own_below ((row_emptyU wd 72 3).alloc (.cells (#[.int .i64 cf, .int .i64 od, .int .i64 cv] : Array Value) 72)) (Below.refl _ _).drew) (wd.heap.size) (Aw) (nw) (cw) (cndC wh) (by simp [Act.eval]) (HRW.out.below hbE) (HONE.out) (by simp only [maxLen]; omega) (by omega) (by (try simp only [World.size_alloc, World.size_drew]); omega) ?_; intro v4 w4 hown4 hg4 hat4)
                  have hs4 := hg4.size
                  simp only [World.size_alloc, World.size_drew] at hs4
                  have hb4 := hbE.grown hg4 (by simp only [World.size_alloc, World.size_drew]; omega) (fun r e => by (have h9 : wd.heap.size = r := (by simpa [Value.ownBlock] using e)); omega)
                  refine hK.out _ _ ?hSkb3 (fun hHeldkb3 => ?_)
                  case hSkb3 => exact HKS.out _ hb4
                  clear hK K
                  have hrn : Reads (((wd.alloc (.cells (#[] : Array Value) 72)).alloc (.cells (#[.int .i64 cf, .int .i64 od, .int .i64 cv] : Array Value) 72)).drew) (wd.heap.size + 1 + 1) 3 (some ⟨wd.heap.size + 1, 0, none⟩) 1 [.int .i64 cf, .int .i64 od, .int .i64 cv] := by have := (reads_one (wd.alloc (.cells (#[] : Array Value) 72)) (#[.int .i64 cf, .int .i64 od, .int .i64 cv] : Array Value) 72 3 rfl).drew; simpa only [World.size_alloc] using this
                  have hrn4 := reads_past hrn hg4 (by simp [Value.ownBlock]) (by simp only [World.size_alloc, World.size_drew]; omega)
                  (try simp only [Act.put, List.setIfInBounds_toArray, List.set_cons_zero, List.set_cons_succ, List.getElem_toArray, List.getElem_cons_zero, List.getElem_cons_succ])
                  refine wpAnyH_ready (rs := [6]) (by kernel_rfl) (by simp) ?_
                  refine AllReadyH.cons rfl (fun K hK => ?_) AllReadyH.nil
                  (refine step_append_any _ rfl (.tmp 66) (.tmp 68) _ rfl wd.heap.size 72 i0 _ 3 24 Tryz.underlying30 hi0 hz0 hz1 hz2 rfl (by omega) _ (0 + nw) ([] ++ cndC wh) (by simp [Act.eval]) (hown4) (wd.heap.size + 1 + 1) (some ⟨wd.heap.size + 1, 0, none⟩) (1) (1) ([.int .i64 cf, .int .i64 od, .int .i64 cv]) (by simp [Act.eval]) (hrn4) (three_one _ _ _) (by simp only [maxLen]; omega) (by omega) (by (try simp only [World.size_alloc, World.size_drew]); omega) ?_; intro v9 w9 hown9 hg9 hat9)
                  have hb9 := hb4.grown hg9 (by omega) (fun r e => by have := own_base hown4 r e; omega)
                  rw [Nat.zero_add] at hown9
                  obtain ⟨A9, c9, rfl⟩ := own_slice hown9
                  refine hK.out _ _ ?hSkb6 (fun hHeldkb6 => ?_)
                  case hSkb6 => exact HKS.out _ hb9
                  clear hK K
                  have hdv := HDW.out.same hb9
                  have s1 := hdv.b2.cell 2
                  have sf := hdv.b2.frozen 2
                  simp only [List.getElem?_toArray, List.getElem?_cons_zero, List.getElem?_cons_succ] at s1
                  have HF := Lib.hid (And.intro hown9 (And.intro hb9 hdv))
                  clear hown9 hb9 hdv hown4 hg4 hg9 hat4 hat9 hb4 hs4 hbE hrn hrn4
                  (try simp only [Act.put, List.setIfInBounds_toArray, List.set_cons_zero, List.set_cons_succ, List.getElem_toArray, List.getElem_cons_zero, List.getElem_cons_succ])
                  refine wpAnyH_take (i := 7) (v := ?vkb7) rfl (by kernel_rfl) (by kernel_rfl) (by kernel_rfl) (fun _ _ _ h => h) (Or.inl ⟨by rfl, ?hykb7⟩) (by assumption) ?restkb7
                  case hykb7 => (intro w_ hSw; (try dsimp only at hSw); obtain _ := hSw; go_simp; (try with_reducible rfl))
                  (try simp only [Act.put, List.setIfInBounds_toArray, List.set_cons_zero, List.set_cons_succ, List.getElem_toArray, List.getElem_cons_zero, List.getElem_cons_succ])
                  (try simp only [Act.put, List.setIfInBounds_toArray, List.set_cons_zero, List.set_cons_succ, List.getElem_toArray, List.getElem_cons_zero, List.getElem_cons_succ])
                  refine wpAnyH_ready (rs := [8]) (by kernel_rfl) (by simp) ?_
                  refine AllReadyH.cons rfl (fun K hK => ?_) AllReadyH.nil
                  go_simp
                  refine hK.out _ _ ?hSkb8 (fun hHeldkb8 => ?_)
                  case hSkb8 => exact HKT.out _ _ hHeldkb6
                  clear hK K
                  (try simp only [Act.put, List.setIfInBounds_toArray, List.set_cons_zero, List.set_cons_succ, List.getElem_toArray, List.getElem_cons_zero, List.getElem_cons_succ])
                  refine wpAnyH_done (by kernel_rfl) ?_ _
                  go_wp2_with fail
                  go_meet
                  obtain ⟨hown9, hb9, hdv⟩ := HF.out
                  exact ⟨rfl, A9, c9, own_capQ hown9, ownsRow_setCell_other hown9 (a := ⟨O2, 2, none⟩) (own_blk_ne hown9 hdv.b2 (by decide)) _, hdv.sb2 _, HB3.out.trans (hb9.mono HB3.out.size) |>.setCell (p := ⟨O2, 2, none⟩) (by show w3.heap.size ≤ O2; omega) _, HO1K.out _ _ hb9 hdv.b2⟩
              · go_simp
                refine hK.out _ _ ?hSkx5 (fun hHeldkx5 => ?_)
                case hSkx5 => exact HKS.out _ ((Below.refl _ _).alloc (Nat.le_refl _) _).drew
                clear hK K
                (try simp only [Act.put, List.setIfInBounds_toArray, List.set_cons_zero, List.set_cons_succ, List.getElem_toArray, List.getElem_cons_zero, List.getElem_cons_succ])
                refine wpAnyH_ready (rs := [0]) (by kernel_rfl) (by simp) ?_
                refine AllReadyH.cons rfl (fun K hK => ?_) AllReadyH.nil
                go_simp
                refine hK.out _ _ ?hSkc0 (fun hHeldkc0 => ?_)
                case hSkc0 => exact HKS.out _ (((Below.refl _ _).alloc (Nat.le_refl _) _).alloc (by rw [World.size_alloc]; omega) _).drew
                clear hK K
                (try simp only [Act.put, List.setIfInBounds_toArray, List.set_cons_zero, List.set_cons_succ, List.getElem_toArray, List.getElem_cons_zero, List.getElem_cons_succ])
                refine wpAnyH_ready (rs := [3]) (by kernel_rfl) (by simp) ?_
                refine AllReadyH.cons rfl (fun K hK => ?_) AllReadyH.nil
                have hbE := ((((Below.refl wd.heap.size wd).alloc (Nat.le_refl _) (.cells (#[.int .i64 cf, .int .i64 od, .int .i64 cv] : Array Value) 72)).alloc (by rw [World.size_alloc]; omega) (.cells (#[] : Array Value) 72)).drew)
                (refine step_append_any _ rfl (.tmp 63) (.tmp 65) _ rfl wd.heap.size 72 i0 _ 3 24 Tryz.underlying30 hi0 hz0 hz1 hz2 rfl (by omega) _ (0) ([]) (by simp [Act.eval]) (own_below (own_mono (row_emptyU (wd.alloc (.cells (#[.int .i64 cf, .int .i64 od, .int .i64 cv] : Array Value) 72)) 72 3) (by rw [World.size_alloc]; omega)) (Below.refl _ _).drew) (wd.heap.size) (Aw) (nw) (cw) (cndC wh) (by simp [Act.eval]) (HRW.out.below hbE) (HONE.out) (by simp only [maxLen]; omega) (by omega) (by (try simp only [World.size_alloc, World.size_drew]); omega) ?_; intro v4 w4 hown4 hg4 hat4)
                have hs4 := hg4.size
                simp only [World.size_alloc, World.size_drew] at hs4
                have hb4 := hbE.grown hg4 (by simp only [World.size_alloc, World.size_drew]; omega) (fun r e => by (have h9 : wd.heap.size + 1 = r := (by simpa [Value.ownBlock] using e)); omega)
                refine hK.out _ _ ?hSkc3 (fun hHeldkc3 => ?_)
                case hSkc3 => exact HKS.out _ hb4
                clear hK K
                have hrn : Reads (((wd.alloc (.cells (#[.int .i64 cf, .int .i64 od, .int .i64 cv] : Array Value) 72)).alloc (.cells (#[] : Array Value) 72)).drew) (wd.heap.size + 1) 3 (some ⟨wd.heap.size, 0, none⟩) 1 [.int .i64 cf, .int .i64 od, .int .i64 cv] := by have := ((reads_one wd (#[.int .i64 cf, .int .i64 od, .int .i64 cv] : Array Value) 72 3 rfl).alloc (by rw [World.size_alloc]; omega) (.cells (#[] : Array Value) 72)).drew; simpa only [World.size_alloc] using this
                have hrn4 := reads_past hrn hg4 (by simp [Value.ownBlock]) (by simp only [World.size_alloc, World.size_drew]; omega)
                (try simp only [Act.put, List.setIfInBounds_toArray, List.set_cons_zero, List.set_cons_succ, List.getElem_toArray, List.getElem_cons_zero, List.getElem_cons_succ])
                refine wpAnyH_ready (rs := [6]) (by kernel_rfl) (by simp) ?_
                refine AllReadyH.cons rfl (fun K hK => ?_) AllReadyH.nil
                (refine step_append_any _ rfl (.tmp 66) (.tmp 68) _ rfl wd.heap.size 72 i0 _ 3 24 Tryz.underlying30 hi0 hz0 hz1 hz2 rfl (by omega) _ (0 + nw) ([] ++ cndC wh) (by simp [Act.eval]) (hown4) (wd.heap.size + 1) (some ⟨wd.heap.size, 0, none⟩) (1) (1) ([.int .i64 cf, .int .i64 od, .int .i64 cv]) (by simp [Act.eval]) (hrn4) (three_one _ _ _) (by simp only [maxLen]; omega) (by omega) (by (try simp only [World.size_alloc, World.size_drew]); omega) ?_; intro v9 w9 hown9 hg9 hat9)
                have hb9 := hb4.grown hg9 (by omega) (fun r e => by have := own_base hown4 r e; omega)
                rw [Nat.zero_add] at hown9
                obtain ⟨A9, c9, rfl⟩ := own_slice hown9
                refine hK.out _ _ ?hSkc6 (fun hHeldkc6 => ?_)
                case hSkc6 => exact HKS.out _ hb9
                clear hK K
                have hdv := HDW.out.same hb9
                have s1 := hdv.b2.cell 2
                have sf := hdv.b2.frozen 2
                simp only [List.getElem?_toArray, List.getElem?_cons_zero, List.getElem?_cons_succ] at s1
                have HF := Lib.hid (And.intro hown9 (And.intro hb9 hdv))
                clear hown9 hb9 hdv hown4 hg4 hg9 hat4 hat9 hb4 hs4 hbE hrn hrn4
                (try simp only [Act.put, List.setIfInBounds_toArray, List.set_cons_zero, List.set_cons_succ, List.getElem_toArray, List.getElem_cons_zero, List.getElem_cons_succ])
                refine wpAnyH_take (i := 7) (v := ?vkc7) rfl (by kernel_rfl) (by kernel_rfl) (by kernel_rfl) (fun _ _ _ h => h) (Or.inl ⟨by rfl, ?hykc7⟩) (by assumption) ?restkc7
                case hykc7 => (intro w_ hSw; (try dsimp only at hSw); obtain _ := hSw; go_simp; (try with_reducible rfl))
                (try simp only [Act.put, List.setIfInBounds_toArray, List.set_cons_zero, List.set_cons_succ, List.getElem_toArray, List.getElem_cons_zero, List.getElem_cons_succ])
                (try simp only [Act.put, List.setIfInBounds_toArray, List.set_cons_zero, List.set_cons_succ, List.getElem_toArray, List.getElem_cons_zero, List.getElem_cons_succ])
                refine wpAnyH_ready (rs := [8]) (by kernel_rfl) (by simp) ?_
                refine AllReadyH.cons rfl (fun K hK => ?_) AllReadyH.nil
                go_simp
                refine hK.out _ _ ?hSkc8 (fun hHeldkc8 => ?_)
                case hSkc8 => exact HKT.out _ _ hHeldkc6
                clear hK K
                (try simp only [Act.put, List.setIfInBounds_toArray, List.set_cons_zero, List.set_cons_succ, List.getElem_toArray, List.getElem_cons_zero, List.getElem_cons_succ])
                refine wpAnyH_done (by kernel_rfl) ?_ _
                go_wp2_with fail
                go_meet
                obtain ⟨hown9, hb9, hdv⟩ := HF.out
                exact ⟨rfl, A9, c9, own_capQ hown9, ownsRow_setCell_other hown9 (a := ⟨O2, 2, none⟩) (own_blk_ne hown9 hdv.b2 (by decide)) _, hdv.sb2 _, HB3.out.trans (hb9.mono HB3.out.size) |>.setCell (p := ⟨O2, 2, none⟩) (by show w3.heap.size ≤ O2; omega) _, HO1K.out _ _ hb9 hdv.b2⟩
              -- END 10
            case rest =>
              obtain ⟨rfl, A2, c2, hc2, ho2, hdv2, hb32, ho1⟩ := hcut
              obtain ⟨wz1, hwz1⟩ : ∃ wz1, wz1 = wc := ⟨_, rfl⟩
              rw [← hwz1] at ho2 hdv2 hb32 ho1 ⊢
              clear hwz1
              have y0 := hdv2.cb.cell 0
              have y1 := hdv2.cb.cell 1
              have y2 := hdv2.cb.cell 2
              simp only [List.getElem?_toArray, List.getElem?_cons_zero, List.getElem?_cons_succ] at y0 y1 y2
              have hbv := (Below.refl wz1.heap.size wz1).alloc (Nat.le_refl _) (.cells #[.int .i64 cf, .int .i64 kc, .int .i64 cv] 72)
              have hrn := row_new wz1 72 wz1.heap.size 3 #[.int .i64 cf, .int .i64 kc, .int .i64 cv] rfl (Nat.le_refl _)
              obtain ⟨wv, hwv⟩ : ∃ wv, wz1.alloc (.cells #[.int .i64 cf, .int .i64 kc, .int .i64 cv] 72) = wv := ⟨_, rfl⟩
              rw [hwv] at hbv hrn
              obtain ⟨B0, hB0⟩ : ∃ B0, wz1.heap.size = B0 := ⟨_, rfl⟩
              rw [hB0] at hrn
              have hdvv := hdv2.same hbv
              have s3 := hdvv.b3.cell 2
              have sf3 := hdvv.b3.frozen 2
              simp only [List.getElem?_toArray, List.getElem?_cons_zero, List.getElem?_cons_succ] at s3
              have hde := hdvv.sb3 (.slice (some ⟨B0, 0, none⟩) 1 1)
              have hr1 := ownsRow_setCell_other (own_below ho1 hbv) (a := ⟨O3, 2, none⟩) (own_blk_ne (own_below ho1 hbv) hdvv.b3 (by decide)) (.slice (some ⟨B0, 0, none⟩) 1 1)
              have hr2 := ownsRow_setCell_other (own_below ho2 hbv) (a := ⟨O3, 2, none⟩) (own_blk_ne (own_below ho2 hbv) hdvv.b3 (by decide)) (.slice (some ⟨B0, 0, none⟩) 1 1)
              have hr3 := ownsRow_setCell_other hrn (a := ⟨O3, 2, none⟩) (own_blk_ne hrn hdvv.b3 (by decide)) (.slice (some ⟨B0, 0, none⟩) 1 1)
              obtain ⟨we, hwe⟩ : ∃ we, wv.setCell ⟨O3, 2, none⟩ (.slice (some ⟨B0, 0, none⟩) 1 1) = we := ⟨_, rfl⟩
              rw [hwe] at hde hr1 hr2 hr3
              have hbe : B0 ≤ we.heap.size := by
                have h1 := hbv.size
                rw [← hwe, World.size_setCell]; omega
              have HDE := Lib.hid hde
              have HE1 := Lib.hid hr1
              have HE2 := Lib.hid hr2
              have HE3 := Lib.hid hr3
              have lz1 := hdv2.cb.lt
              have lz2 := hdvv.b3.lt
              have qe := hde.qb.cell 2
              simp only [List.getElem?_toArray, List.getElem?_cons_zero, List.getElem?_cons_succ] at qe
              have lqe := hde.qb.lt
              have hnwl : wh.length = nw := by have h := (HRWQ.out w (Below.refl _ _)).1; rw [cndC_len] at h; omega
              have HNWL := Lib.hid hnwl
              have HLT : Hid (w.heap.size < B0 ∧ X < B0 ∧ C < B0 ∧ OB < B0 ∧ O1 < B0 ∧ O2 < B0 ∧ O3 < B0) := by rw [← hB0]; exact ⟨hdv2.rb.lt, hdv2.qb.lt, hdv2.cb.lt, hdv2.ob.lt, hdv2.b1.lt, hdv2.b2.lt, hdv2.b3.lt⟩
              have HL1 : Hid (∀ r, (Value.slice A1 (nw + 1) c1).ownBlock = some r → r < B0) := fun r e => by rw [← hB0]; exact (ho1.lt r e).2
              have HL2 : Hid (∀ r, (Value.slice A2 (nw + 1) c2).ownBlock = some r → r < B0) := fun r e => by rw [← hB0]; exact (ho2.lt r e).2
              clear hbv hrn hdvv hde hr1 hr2 hr3 hdv2 hb32 ho1 ho2 hnwl HDW HO1D HB3D HRW HKD HOB hC3 HS3
              go_wp2_with fail
              go_loopw [77] (fun i y => ∃ (k : Nat) (A3 : Option Addr) (c3 : Nat), k ≤ nw ∧ i = .int .i64 (k : Int) ∧ y.ownsRow B0 72 3 (.slice A3 (1 + 2 * k) c3) (1 + 2 * k) (cndC (backL ⟨cf, (kc : Int), cv⟩ wh k)) ∧ Dv1 w X C OB O1 O2 O3 #[.int .i64 per, .slice Ai ni ci, .slice Ap np cp, .slice At nt ct] #[.int .i64 verb, .slice Ab nb cb, .slice Aw nw cw] #[.int .i64 cf, .int .i64 kc, .int .i64 cv] #[.int .i64 1, .int .i64 0, .int .i64 5, .int .i64 4, .int .i64 3, .int .i64 2] verb (.slice Ab nb cb) (.slice A1 (nw + 1) c1) (.slice A2 (nw + 1) c2) (.slice A3 (1 + 2 * k) c3) y ∧ y.ownsRow wx.heap.size 72 3 (.slice A1 (nw + 1) c1) (nw + 1) (([] ++ cndC wh) ++ [.int .i64 cf, .int .i64 kc, .int .i64 cv]) ∧ y.ownsRow wd.heap.size 72 3 (.slice A2 (nw + 1) c2) (nw + 1) (([] ++ cndC wh) ++ [.int .i64 cf, .int .i64 od, .int .i64 cv])) (fun i _ => nw - (intOf i).toNat)
              case atStart => exact ⟨0, some ⟨B0, 0, none⟩, 1, Nat.zero_le _, rfl, HE3.out, HDE.out, HE1.out, HE2.out⟩
              case round =>
                obtain ⟨k, A3, c3, hk, rfl, how, hdv, hw1, hw2⟩ := hrel
                have HOW := Lib.hid how
                have HDK := Lib.hid hdv
                have HW1 := Lib.hid hw1
                have HW2 := Lib.hid hw2
                have o2 := hdv.b3.cell 2
                have q2 := hdv.qb.cell 2
                simp only [List.getElem?_toArray, List.getElem?_cons_zero, List.getElem?_cons_succ] at o2 q2
                have lo2 := hdv.b3.lt
                have lq2 := hdv.qb.lt
                have hbw := own_cap how (by omega)
                have hbs : B0 ≤ wr.heap.size := by
                  rcases how.2 with ⟨_, h0⟩ | ⟨g, _, _, _, hb0, hgb, _⟩
                  · omega
                  · have := (Array.getElem?_eq_some_iff.1 hgb).1; omega
                clear how hdv hw1 hw2
                by_cases hlk : k < nw
                · have k3 : decide ((k : Int) < (nw : Int)) = true := by rw [decide_eq_true_eq]; omega
                  obtain ⟨m, hm⟩ : ∃ m : Nat, (nw : Int) - 1 - (k : Int) = (m : Int) := ⟨nw - 1 - k, by omega⟩
                  have hmn : m < nw := by omega
                  have hrdw := HRWQ.out wr HDK.out.below
                  obtain ⟨ad, rfl, had, hkl, b0, bj⟩ := (show Reads wr w.heap.size 3 Aw nw (wh.flatMap cndRow) from hrdw).row_at cndRow (fun _ => rfl) (by decide) hlk
                  obtain ⟨ad', e', had', hml, a0, aj⟩ := (show Reads wr w.heap.size 3 (some ad) nw (wh.flatMap cndRow) from hrdw).row_at cndRow (fun _ => rfl) (by decide) hmn
                  obtain rfl : ad' = ad := by injection e' with e'; exact e'.symm
                  have a1 := aj 1 (by decide) (by decide)
                  have a2 := aj 2 (by decide) (by decide)
                  have b1 := bj 1 (by decide) (by decide)
                  have b2 := bj 2 (by decide) (by decide)
                  have hst := cndC_back ⟨cf, (kc : Int), cv⟩ wh k
                  have hmi : wh.length - 1 - k = m := by have := HNWL.out; omega
                  rw [hmi] at hst
                  have HST := Lib.hid hst
                  clear aj bj hrdw hst hmi e' hml hkl
                  generalize wh.getD m default = ca at *
                  generalize wh.getD k default = cb2 at *
                  obtain ⟨ea, eb, ec⟩ := ca
                  obtain ⟨fa, fb, fc⟩ := cb2
                  replace a0 : wr.cell? (ad'.add (m * 3)) = some (.int .i64 ea) := a0
                  replace a1 : wr.cell? ⟨(ad'.add (m * 3)).block, (ad'.add (m * 3)).off + 1, none⟩ = some (.int .i64 eb) := a1
                  replace a2 : wr.cell? ⟨(ad'.add (m * 3)).block, (ad'.add (m * 3)).off + 2, none⟩ = some (.int .i64 ec) := a2
                  replace b0 : wr.cell? (ad'.add (k * 3)) = some (.int .i64 fa) := b0
                  replace b1 : wr.cell? ⟨(ad'.add (k * 3)).block, (ad'.add (k * 3)).off + 1, none⟩ = some (.int .i64 fb) := b1
                  replace b2 : wr.cell? ⟨(ad'.add (k * 3)).block, (ad'.add (k * 3)).off + 2, none⟩ = some (.int .i64 fc) := b2
                  have hadb : (ad'.add (m * 3)).block = ad'.block := addr_block _ _
                  have hadb2 : (ad'.add (k * 3)).block = ad'.block := addr_block _ _
                  have HA0 : Hid (wr.cell? ⟨X, 2, none⟩ = some (.slice (some ad') nw cw) ∧ wr.cell? (ad'.add (m * 3)) = some (.int .i64 ea) ∧ wr.cell? ⟨(ad'.add (m * 3)).block, (ad'.add (m * 3)).off + 1, none⟩ = some (.int .i64 eb) ∧ wr.cell? ⟨(ad'.add (m * 3)).block, (ad'.add (m * 3)).off + 2, none⟩ = some (.int .i64 ec) ∧ wr.cell? (ad'.add (k * 3)) = some (.int .i64 fa) ∧ wr.cell? ⟨(ad'.add (k * 3)).block, (ad'.add (k * 3)).off + 1, none⟩ = some (.int .i64 fb) ∧ wr.cell? ⟨(ad'.add (k * 3)).block, (ad'.add (k * 3)).off + 2, none⟩ = some (.int .i64 fc)) := ⟨q2, a0, a1, a2, b0, b1, b2⟩
                  have hn1w := HDK.out.n1
                  have hn2w := HDK.out.n2
                  have HADN : Hid (ad'.block ≠ O3) := fun e => by omega
                  have HKE : Hid (∀ y, Below wr.heap.size wr y → y.cell? ⟨X, 2, none⟩ = some (.slice (some ad') nw cw) ∧ y.cell? (ad'.add (m * 3)) = some (.int .i64 ea) ∧ y.cell? ⟨(ad'.add (m * 3)).block, (ad'.add (m * 3)).off + 1, none⟩ = some (.int .i64 eb) ∧ y.cell? ⟨(ad'.add (m * 3)).block, (ad'.add (m * 3)).off + 2, none⟩ = some (.int .i64 ec) ∧ y.cell? (ad'.add (k * 3)) = some (.int .i64 fa) ∧ y.cell? ⟨(ad'.add (k * 3)).block, (ad'.add (k * 3)).off + 1, none⟩ = some (.int .i64 fb) ∧ y.cell? ⟨(ad'.add (k * 3)).block, (ad'.add (k * 3)).off + 2, none⟩ = some (.int .i64 fc)) := fun y hy => by
                    have kk : ∀ {a : Addr} {u : Value}, wr.cell? a = some u → y.cell? a = some u := fun hc => (hy.cell (World.block_lt_of_cell? _ _ hc)).trans hc
                    obtain ⟨s0, s1, s2, s3, s4, s5, s6⟩ := HA0.out
                    exact ⟨kk s0, kk s1, kk s2, kk s3, kk s4, kk s5, kk s6⟩
                  have HSTP : Hid (∀ (A9 : Option Addr) (c9 : Nat) (w9 : World), w9.ownsRow B0 72 3 (.slice A9 (1 + 2 * k + 2) c9) (1 + 2 * k + 2) (cndC (backL ⟨cf, (kc : Int), cv⟩ wh k) ++ [.int .i64 ea, .int .i64 eb, .int .i64 ec, .int .i64 fa, .int .i64 fb, .int .i64 fc]) → (wr.alloc (.cells (#[.int .i64 ea, .int .i64 eb, .int .i64 ec, .int .i64 fa, .int .i64 fb, .int .i64 fc] : Array Value) 72)).grownBy w9 (Value.slice A3 (1 + 2 * k) c3).ownBlock →
                      (w9.cell? ⟨X, 2, none⟩ = some (.slice (some ad') nw cw) ∧ w9.cell? (ad'.add (m * 3)) = some (.int .i64 ea) ∧ w9.cell? ⟨(ad'.add (m * 3)).block, (ad'.add (m * 3)).off + 1, none⟩ = some (.int .i64 eb) ∧ w9.cell? ⟨(ad'.add (m * 3)).block, (ad'.add (m * 3)).off + 2, none⟩ = some (.int .i64 ec) ∧ w9.cell? (ad'.add (k * 3)) = some (.int .i64 fa) ∧ w9.cell? ⟨(ad'.add (k * 3)).block, (ad'.add (k * 3)).off + 1, none⟩ = some (.int .i64 fb) ∧ w9.cell? ⟨(ad'.add (k * 3)).block, (ad'.add (k * 3)).off + 2, none⟩ = some (.int .i64 fc)) ∧ Blk w9 O3 32 #[.int .i64 verb, .slice Ab nb cb, .slice A3 (1 + 2 * k) c3] ∧ ((w9.setCell ⟨O3, 2, none⟩ (.slice A9 (1 + 2 * k + 2) c9)).cell? ⟨X, 2, none⟩ = some (.slice (some ad') nw cw) ∧ (w9.setCell ⟨O3, 2, none⟩ (.slice A9 (1 + 2 * k + 2) c9)).cell? (ad'.add (m * 3)) = some (.int .i64 ea) ∧ (w9.setCell ⟨O3, 2, none⟩ (.slice A9 (1 + 2 * k + 2) c9)).cell? ⟨(ad'.add (m * 3)).block, (ad'.add (m * 3)).off + 1, none⟩ = some (.int .i64 eb) ∧ (w9.setCell ⟨O3, 2, none⟩ (.slice A9 (1 + 2 * k + 2) c9)).cell? ⟨(ad'.add (m * 3)).block, (ad'.add (m * 3)).off + 2, none⟩ = some (.int .i64 ec) ∧ (w9.setCell ⟨O3, 2, none⟩ (.slice A9 (1 + 2 * k + 2) c9)).cell? (ad'.add (k * 3)) = some (.int .i64 fa) ∧ (w9.setCell ⟨O3, 2, none⟩ (.slice A9 (1 + 2 * k + 2) c9)).cell? ⟨(ad'.add (k * 3)).block, (ad'.add (k * 3)).off + 1, none⟩ = some (.int .i64 fb) ∧ (w9.setCell ⟨O3, 2, none⟩ (.slice A9 (1 + 2 * k + 2) c9)).cell? ⟨(ad'.add (k * 3)).block, (ad'.add (k * 3)).off + 2, none⟩ = some (.int .i64 fc)) ∧
                      ((w9.setCell ⟨O3, 2, none⟩ (.slice A9 (1 + 2 * k + 2) c9)).ownsRow B0 72 3 (.slice A9 (1 + 2 * (k + 1)) c9) (1 + 2 * (k + 1)) (cndC (backL ⟨cf, (kc : Int), cv⟩ wh (k + 1))) ∧ Dv1 w X C OB O1 O2 O3 #[.int .i64 per, .slice Ai ni ci, .slice Ap np cp, .slice At nt ct] #[.int .i64 verb, .slice Ab nb cb, .slice (some ad') nw cw] #[.int .i64 cf, .int .i64 kc, .int .i64 cv] #[.int .i64 1, .int .i64 0, .int .i64 5, .int .i64 4, .int .i64 3, .int .i64 2] verb (.slice Ab nb cb) (.slice A1 (nw + 1) c1) (.slice A2 (nw + 1) c2) (.slice A9 (1 + 2 * (k + 1)) c9) (w9.setCell ⟨O3, 2, none⟩ (.slice A9 (1 + 2 * k + 2) c9)) ∧ (w9.setCell ⟨O3, 2, none⟩ (.slice A9 (1 + 2 * k + 2) c9)).ownsRow wx.heap.size 72 3 (.slice A1 (nw + 1) c1) (nw + 1) (([] ++ cndC wh) ++ [.int .i64 cf, .int .i64 kc, .int .i64 cv]) ∧ (w9.setCell ⟨O3, 2, none⟩ (.slice A9 (1 + 2 * k + 2) c9)).ownsRow wd.heap.size 72 3 (.slice A2 (nw + 1) c2) (nw + 1) (([] ++ cndC wh) ++ [.int .i64 cf, .int .i64 od, .int .i64 cv]))) := fun A9 c9 w9 ho hg => by
                    obtain ⟨t1, t2, t3, t4, t5, t6, t7⟩ := HLT.out
                    have hB9 : Below B0 wr w9 := ((Below.refl B0 wr).alloc hbs _).grown hg (by simp only [World.size_alloc]; omega) (fun r e => own_base HOW.out r e)
                    have hD := HDK.out
                    have kc9 : ∀ {a : Addr} {u : Value}, a.block < B0 → wr.cell? a = some u → w9.cell? a = some u := fun ha hc => (hB9.cell ha).trans hc
                    have hd9 : Dv1 w X C OB O1 O2 O3 _ _ _ _ verb (.slice Ab nb cb) _ _ (.slice A3 (1 + 2 * k) c3) w9 := ⟨hD.below.trans (hB9.mono (by omega)), hD.rb.below hB9 t1, hD.qb.below hB9 t2, hD.cb.below hB9 t3, hD.ob.below hB9 t4, hD.b1.below hB9 t5, hD.b2.below hB9 t6, hD.b3.below hB9 t7, hD.n1, hD.n2, hD.n3⟩
                    have hro : ∀ {A : Option Addr} {n c b : Nat} {xs : List Value}, (∀ r, (Value.slice A n c).ownBlock = some r → r < B0) → wr.ownsRow b 72 3 (.slice A n c) n xs → w9.ownsRow b 72 3 (.slice A n c) n xs := fun {A n c b xs} hl hr => by
                      refine (hr.alloc _).kept hg ?_
                      by_cases hne : (Value.slice A n c).ownBlock = none
                      · exact .inl hne
                      · refine .inr fun e => ?_
                        obtain ⟨r, hr'⟩ := Option.ne_none_iff_exists'.1 hne
                        have h1 := hl r hr'
                        have h2 := own_base HOW.out r (by rw [← e]; exact hr')
                        omega
                    have hw1 := hro HL1.out HW1.out
                    have hw2 := hro HL2.out HW2.out
                    have hadl : ad'.block < B0 := by omega
                    obtain ⟨s0, s1, s2, s3, s4, s5, s6⟩ := HA0.out
                    have q9 := kc9 (a := ⟨X, 2, none⟩) t2 s0
                    have a9 := kc9 (by rw [hadb]; exact hadl) s1
                    have a91 := kc9 (a := ⟨(ad'.add (m * 3)).block, (ad'.add (m * 3)).off + 1, none⟩) (by show (ad'.add (m * 3)).block < B0; rw [hadb]; exact hadl) s2
                    have a92 := kc9 (a := ⟨(ad'.add (m * 3)).block, (ad'.add (m * 3)).off + 2, none⟩) (by show (ad'.add (m * 3)).block < B0; rw [hadb]; exact hadl) s3
                    have b9 := kc9 (by rw [hadb2]; exact hadl) s4
                    have b91 := kc9 (a := ⟨(ad'.add (k * 3)).block, (ad'.add (k * 3)).off + 1, none⟩) (by show (ad'.add (k * 3)).block < B0; rw [hadb2]; exact hadl) s5
                    have b92 := kc9 (a := ⟨(ad'.add (k * 3)).block, (ad'.add (k * 3)).off + 2, none⟩) (by show (ad'.add (k * 3)).block < B0; rw [hadb2]; exact hadl) s6
                    have ks : ∀ {a : Addr} {u v : Value}, a.block ≠ O3 → w9.cell? a = some u → (w9.setCell ⟨O3, 2, none⟩ v).cell? a = some u := fun ha hc => (World.cell?_of_block (Below.heap_setCell w9 ⟨O3, 2, none⟩ _ _ ha)).trans hc
                    have hA1 : (ad'.add (m * 3)).block ≠ O3 := by rw [hadb]; exact HADN.out
                    have hA2 : (ad'.add (k * 3)).block ≠ O3 := by rw [hadb2]; exact HADN.out
                    have e3 : 1 + 2 * (k + 1) = 1 + 2 * k + 2 := by omega
                    refine ⟨⟨q9, a9, a91, a92, b9, b91, b92⟩, hd9.b3, ⟨ks hn2w.2.2 q9, ks hA1 a9, ks hA1 a91, ks hA1 a92, ks hA2 b9, ks hA2 b91, ks hA2 b92⟩, ?_, ?_, ?_, ?_⟩
                    · rw [e3, HST.out]
                      exact ownsRow_setCell_other ho (a := ⟨O3, 2, none⟩) (own_blk_ne ho hd9.b3 (by decide)) _
                    · rw [e3]
                      exact hd9.sb3 _
                    · exact ownsRow_setCell_other hw1 (a := ⟨O3, 2, none⟩) (own_blk_ne hw1 hd9.b3 (by decide)) _
                    · exact ownsRow_setCell_other hw2 (a := ⟨O3, 2, none⟩) (own_blk_ne hw2 hd9.b3 (by decide)) _
                  clear hadb hadb2 hn1w hn2w
                  have hwa1 : IntKind.i64.wrap ((nw : Int) - 1) = (nw : Int) - 1 := Go.IntWalk.i64_in _ ⟨by omega, by omega⟩
                  have hwa2 : IntKind.i64.wrap (m : Int) = (m : Int) := Go.IntWalk.i64_in _ ⟨by omega, by omega⟩
                  have hmlt : (m : Int) < (nw : Int) := by omega
                  -- REGION 15
                  go_upto_region 15 with fail
                  refine wp_region_held_drew (S := fun y : World => y.cell? ⟨X, 2, none⟩ = some (.slice (some ad') nw cw) ∧ y.cell? (ad'.add (m * 3)) = some (.int .i64 ea) ∧ y.cell? ⟨(ad'.add (m * 3)).block, (ad'.add (m * 3)).off + 1, none⟩ = some (.int .i64 eb) ∧ y.cell? ⟨(ad'.add (m * 3)).block, (ad'.add (m * 3)).off + 2, none⟩ = some (.int .i64 ec) ∧ y.cell? (ad'.add (k * 3)) = some (.int .i64 fa) ∧ y.cell? ⟨(ad'.add (k * 3)).block, (ad'.add (k * 3)).off + 1, none⟩ = some (.int .i64 fb) ∧ y.cell? ⟨(ad'.add (k * 3)).block, (ad'.add (k * 3)).off + 2, none⟩ = some (.int .i64 fc)) (by kernel_rfl) ⟨q2, a0, a1, a2, b0, b1, b2⟩ (fun hHeld => ?_)
                  refine wpAnyH_take (i := 0) (v := ?vz0) rfl (by kernel_rfl) (by kernel_rfl) (by kernel_rfl) (fun _ _ _ h => h) (Or.inl ⟨by rfl, ?hyz0⟩) (by assumption) ?restz0
                  case hyz0 => (intro w_ hSw; (try dsimp only at hSw); obtain ⟨q2_, a0_, a1_, a2_, b0_, b1_, b2_⟩ := hSw; go_simp; (try with_reducible rfl))
                  (try simp only [Act.put, List.setIfInBounds_toArray, List.set_cons_zero, List.set_cons_succ, List.getElem_toArray, List.getElem_cons_zero, List.getElem_cons_succ])
                  refine wpAnyH_take (i := 2) (v := ?vz2) rfl (by kernel_rfl) (by kernel_rfl) (by kernel_rfl) (fun _ _ _ h => h) (Or.inl ⟨by rfl, ?hyz2⟩) (by assumption) ?restz2
                  case hyz2 => (intro w_ hSw; (try dsimp only at hSw); obtain ⟨q2_, a0_, a1_, a2_, b0_, b1_, b2_⟩ := hSw; go_simp; (try with_reducible rfl))
                  (try simp only [Act.put, List.setIfInBounds_toArray, List.set_cons_zero, List.set_cons_succ, List.getElem_toArray, List.getElem_cons_zero, List.getElem_cons_succ])
                  refine wpAnyH_take (i := 3) (v := ?vz3) rfl (by kernel_rfl) (by kernel_rfl) (by kernel_rfl) (fun _ _ _ h => h) (Or.inl ⟨by rfl, ?hyz3⟩) (by assumption) ?restz3
                  case hyz3 => (intro w_ hSw; (try dsimp only at hSw); obtain ⟨q2_, a0_, a1_, a2_, b0_, b1_, b2_⟩ := hSw; go_simp; (try with_reducible rfl))
                  (try simp only [Act.put, List.setIfInBounds_toArray, List.set_cons_zero, List.set_cons_succ, List.getElem_toArray, List.getElem_cons_zero, List.getElem_cons_succ])
                  refine wpAnyH_take (i := 4) (v := ?vz4) rfl (by kernel_rfl) (by kernel_rfl) (by kernel_rfl) (fun _ _ _ h => h) (Or.inl ⟨by rfl, ?hyz4⟩) (by assumption) ?restz4
                  case hyz4 => (intro w_ hSw; (try dsimp only at hSw); obtain ⟨q2_, a0_, a1_, a2_, b0_, b1_, b2_⟩ := hSw; go_simp; (try with_reducible rfl))
                  (try simp only [Act.put, List.setIfInBounds_toArray, List.set_cons_zero, List.set_cons_succ, List.getElem_toArray, List.getElem_cons_zero, List.getElem_cons_succ])
                  refine wpAnyH_take (i := 5) (v := ?vz5) rfl (by kernel_rfl) (by kernel_rfl) (by kernel_rfl) (fun _ _ _ h => h) (Or.inl ⟨by rfl, ?hyz5⟩) (by assumption) ?restz5
                  case hyz5 => (intro w_ hSw; (try dsimp only at hSw); obtain ⟨q2_, a0_, a1_, a2_, b0_, b1_, b2_⟩ := hSw; go_simp; (try with_reducible rfl))
                  (try simp only [Act.put, List.setIfInBounds_toArray, List.set_cons_zero, List.set_cons_succ, List.getElem_toArray, List.getElem_cons_zero, List.getElem_cons_succ])
                  refine wpAnyH_take (i := 6) (v := ?vz6) rfl (by kernel_rfl) (by kernel_rfl) (by kernel_rfl) (fun _ _ _ h => h) (Or.inl ⟨by rfl, ?hyz6⟩) (by assumption) ?restz6
                  case hyz6 => (intro w_ hSw; (try dsimp only at hSw); obtain ⟨q2_, a0_, a1_, a2_, b0_, b1_, b2_⟩ := hSw; go_simp; (try with_reducible rfl))
                  (try simp only [Act.put, List.setIfInBounds_toArray, List.set_cons_zero, List.set_cons_succ, List.getElem_toArray, List.getElem_cons_zero, List.getElem_cons_succ])
                  refine wpAnyH_take (i := 7) (v := ?vz7) rfl (by kernel_rfl) (by kernel_rfl) (by kernel_rfl) (fun _ _ _ h => h) (Or.inl ⟨by rfl, ?hyz7⟩) (by assumption) ?restz7
                  case hyz7 => (intro w_ hSw; (try dsimp only at hSw); obtain ⟨q2_, a0_, a1_, a2_, b0_, b1_, b2_⟩ := hSw; go_simp; (try with_reducible rfl))
                  (try simp only [Act.put, List.setIfInBounds_toArray, List.set_cons_zero, List.set_cons_succ, List.getElem_toArray, List.getElem_cons_zero, List.getElem_cons_succ])
                  refine wpAnyH_take (i := 8) (v := ?vz8) rfl (by kernel_rfl) (by kernel_rfl) (by kernel_rfl) (fun _ _ _ h => h) (Or.inl ⟨by rfl, ?hyz8⟩) (by assumption) ?restz8
                  case hyz8 => (intro w_ hSw; (try dsimp only at hSw); obtain ⟨q2_, a0_, a1_, a2_, b0_, b1_, b2_⟩ := hSw; go_simp; (try with_reducible rfl))
                  (try simp only [Act.put, List.setIfInBounds_toArray, List.set_cons_zero, List.set_cons_succ, List.getElem_toArray, List.getElem_cons_zero, List.getElem_cons_succ])
                  refine wpAnyH_take (i := 9) (v := ?vz9) rfl (by kernel_rfl) (by kernel_rfl) (by kernel_rfl) (fun _ _ _ h => h) (Or.inl ⟨by rfl, ?hyz9⟩) (by assumption) ?restz9
                  case hyz9 => (intro w_ hSw; (try dsimp only at hSw); obtain ⟨q2_, a0_, a1_, a2_, b0_, b1_, b2_⟩ := hSw; go_simp; (try with_reducible rfl))
                  (try simp only [Act.put, List.setIfInBounds_toArray, List.set_cons_zero, List.set_cons_succ, List.getElem_toArray, List.getElem_cons_zero, List.getElem_cons_succ])
                  refine wpAnyH_take (i := 10) (v := ?vz10) rfl (by kernel_rfl) (by kernel_rfl) (by kernel_rfl) (fun _ _ _ h => h) (Or.inl ⟨by rfl, ?hyz10⟩) (by assumption) ?restz10
                  case hyz10 => (intro w_ hSw; (try dsimp only at hSw); obtain ⟨q2_, a0_, a1_, a2_, b0_, b1_, b2_⟩ := hSw; go_simp; (try with_reducible rfl))
                  (try simp only [Act.put, List.setIfInBounds_toArray, List.set_cons_zero, List.set_cons_succ, List.getElem_toArray, List.getElem_cons_zero, List.getElem_cons_succ])
                  refine wpAnyH_take (i := 11) (v := ?vz11) rfl (by kernel_rfl) (by kernel_rfl) (by kernel_rfl) (fun _ _ _ h => h) (Or.inl ⟨by rfl, ?hyz11⟩) (by assumption) ?restz11
                  case hyz11 => (intro w_ hSw; (try dsimp only at hSw); obtain ⟨q2_, a0_, a1_, a2_, b0_, b1_, b2_⟩ := hSw; go_simp; (try with_reducible rfl))
                  (try simp only [Act.put, List.setIfInBounds_toArray, List.set_cons_zero, List.set_cons_succ, List.getElem_toArray, List.getElem_cons_zero, List.getElem_cons_succ])
                  refine wpAnyH_take (i := 12) (v := ?vz12) rfl (by kernel_rfl) (by kernel_rfl) (by kernel_rfl) (fun _ _ _ h => h) (Or.inl ⟨by rfl, ?hyz12⟩) (by assumption) ?restz12
                  case hyz12 => (intro w_ hSw; (try dsimp only at hSw); obtain ⟨q2_, a0_, a1_, a2_, b0_, b1_, b2_⟩ := hSw; go_simp; (try with_reducible rfl))
                  (try simp only [Act.put, List.setIfInBounds_toArray, List.set_cons_zero, List.set_cons_succ, List.getElem_toArray, List.getElem_cons_zero, List.getElem_cons_succ])
                  refine wpAnyH_take (i := 13) (v := ?vz13) rfl (by kernel_rfl) (by kernel_rfl) (by kernel_rfl) (fun _ _ _ h => h) (Or.inl ⟨by rfl, ?hyz13⟩) (by assumption) ?restz13
                  case hyz13 => (intro w_ hSw; (try dsimp only at hSw); obtain ⟨q2_, a0_, a1_, a2_, b0_, b1_, b2_⟩ := hSw; go_simp; (try with_reducible rfl))
                  (try simp only [Act.put, List.setIfInBounds_toArray, List.set_cons_zero, List.set_cons_succ, List.getElem_toArray, List.getElem_cons_zero, List.getElem_cons_succ])
                  refine wpAnyH_take (i := 14) (v := ?vz14) rfl (by kernel_rfl) (by kernel_rfl) (by kernel_rfl) (fun _ _ _ h => h) (Or.inl ⟨by rfl, ?hyz14⟩) (by assumption) ?restz14
                  case hyz14 => (intro w_ hSw; (try dsimp only at hSw); obtain ⟨q2_, a0_, a1_, a2_, b0_, b1_, b2_⟩ := hSw; go_simp; (try with_reducible rfl))
                  (try simp only [Act.put, List.setIfInBounds_toArray, List.set_cons_zero, List.set_cons_succ, List.getElem_toArray, List.getElem_cons_zero, List.getElem_cons_succ])
                  refine wpAnyH_take (i := 15) (v := ?vz15) rfl (by kernel_rfl) (by kernel_rfl) (by kernel_rfl) (fun _ _ _ h => h) (Or.inl ⟨by rfl, ?hyz15⟩) (by assumption) ?restz15
                  case hyz15 => (intro w_ hSw; (try dsimp only at hSw); obtain ⟨q2_, a0_, a1_, a2_, b0_, b1_, b2_⟩ := hSw; go_simp; (try with_reducible rfl))
                  (try simp only [Act.put, List.setIfInBounds_toArray, List.set_cons_zero, List.set_cons_succ, List.getElem_toArray, List.getElem_cons_zero, List.getElem_cons_succ])
                  refine wpAnyH_take (i := 16) (v := ?vz16) rfl (by kernel_rfl) (by kernel_rfl) (by kernel_rfl) (fun _ _ _ h => h) (Or.inl ⟨by rfl, ?hyz16⟩) (by assumption) ?restz16
                  case hyz16 => (intro w_ hSw; (try dsimp only at hSw); obtain ⟨q2_, a0_, a1_, a2_, b0_, b1_, b2_⟩ := hSw; go_simp; (try with_reducible rfl))
                  (try simp only [Act.put, List.setIfInBounds_toArray, List.set_cons_zero, List.set_cons_succ, List.getElem_toArray, List.getElem_cons_zero, List.getElem_cons_succ])
                  refine wpAnyH_ready (rs := [1, 17]) (by kernel_rfl) (by simp) ?_
                  refine AllReadyH.cons rfl (fun K hK => ?_) (AllReadyH.cons rfl (fun K hK => ?_) AllReadyH.nil)
                  · skip
                    go_simp
                    refine hK.out _ _ ?hSza1 (fun hHeldza1 => ?_)
                    case hSza1 => exact hHeld
                    clear hK K
                    (try simp only [Act.put, List.setIfInBounds_toArray, List.set_cons_zero, List.set_cons_succ, List.getElem_toArray, List.getElem_cons_zero, List.getElem_cons_succ])
                    refine wpAnyH_ready (rs := [17]) (by kernel_rfl) (by simp) ?_
                    refine AllReadyH.cons rfl (fun K hK => ?_) AllReadyH.nil
                    go_simp
                    refine hK.out _ _ ?hSza17 (fun hHeldza17 => ?_)
                    case hSza17 => exact HKE.out _ ((Below.refl _ _).alloc (Nat.le_refl _) _).drew
                    clear hK K
                    (try simp only [Act.put, List.setIfInBounds_toArray, List.set_cons_zero, List.set_cons_succ, List.getElem_toArray, List.getElem_cons_zero, List.getElem_cons_succ])
                    refine wpAnyH_ready (rs := [18]) (by kernel_rfl) (by simp) ?_
                    refine AllReadyH.cons rfl (fun K hK => ?_) AllReadyH.nil
                    (refine step_append_any _ rfl (.tmp 81) (.tmp 97) _ rfl B0 72 i0 _ 3 24 Tryz.underlying30 hi0 hz0 hz1 hz2 rfl (by omega) _ (1 + 2 * k) (cndC (backL ⟨cf, (kc : Int), cv⟩ wh k)) (by simp [Act.eval]) (HOW.out.alloc _) (wr.heap.size + 1) (some ⟨wr.heap.size, 0, none⟩) 2 2 [.int .i64 ea, .int .i64 eb, .int .i64 ec, .int .i64 fa, .int .i64 fb, .int .i64 fc] (by simp [Act.eval]) (reads_n wr #[.int .i64 ea, .int .i64 eb, .int .i64 ec, .int .i64 fa, .int .i64 fb, .int .i64 fc] 72 3 2 rfl) (sixC_one _ _ _ _ _ _) (by simp only [maxLen]; omega) (by omega) (by (try simp only [World.size_alloc, World.size_drew]); omega) ?_; intro v9 w9 hown9 hg9 hat9)
                    obtain ⟨A9, c9, rfl⟩ := own_slice hown9
                    have HFIN := Lib.hid (HSTP.out A9 c9 w9 hown9 ⟨hg9.os, hg9.tape, hg9.output, hg9.size, hg9.block⟩)
                    clear hown9 hg9 hat9
                    refine hK.out _ _ ?hSza18 (fun hHeldza18 => ?_)
                    case hSza18 => exact HFIN.out.1
                    clear hK K
                    (try simp only [Act.put, List.setIfInBounds_toArray, List.set_cons_zero, List.set_cons_succ, List.getElem_toArray, List.getElem_cons_zero, List.getElem_cons_succ])
                    refine wpAnyH_take (i := 19) (v := ?vza19) rfl (by kernel_rfl) (by kernel_rfl) (by kernel_rfl) (fun _ _ _ h => h) (Or.inl ⟨by rfl, ?hyza19⟩) (by assumption) ?restza19
                    case hyza19 => (intro w_ hSw; (try dsimp only at hSw); obtain ⟨q2_, a0_, a1_, a2_, b0_, b1_, b2_⟩ := hSw; go_simp; (try with_reducible rfl))
                    (try simp only [Act.put, List.setIfInBounds_toArray, List.set_cons_zero, List.set_cons_succ, List.getElem_toArray, List.getElem_cons_zero, List.getElem_cons_succ])
                    have s1 := HFIN.out.2.1.cell 2
                    have sf := HFIN.out.2.1.frozen 2
                    simp only [List.getElem?_toArray, List.getElem?_cons_zero, List.getElem?_cons_succ] at s1
                    (try simp only [Act.put, List.setIfInBounds_toArray, List.set_cons_zero, List.set_cons_succ, List.getElem_toArray, List.getElem_cons_zero, List.getElem_cons_succ])
                    refine wpAnyH_ready (rs := [20]) (by kernel_rfl) (by simp) ?_
                    refine AllReadyH.cons rfl (fun K hK => ?_) AllReadyH.nil
                    go_simp
                    refine hK.out _ _ ?hSza20 (fun hHeldza20 => ?_)
                    case hSza20 => exact HFIN.out.2.2.1
                    clear hK K
                    (try simp only [Act.put, List.setIfInBounds_toArray, List.set_cons_zero, List.set_cons_succ, List.getElem_toArray, List.getElem_cons_zero, List.getElem_cons_succ])
                    refine wpAnyH_done (by kernel_rfl) ?_ _
                    go_wp2_with fail
                    go_roundw
                    case rel => exact ⟨k + 1, A9, c9, by omega, by go_num, HFIN.out.2.2.2⟩
                    case measure => simp [intOf]; omega
                  · skip
                    go_simp
                    refine hK.out _ _ ?hSzb17 (fun hHeldzb17 => ?_)
                    case hSzb17 => exact HKE.out _ ((Below.refl _ _).alloc (Nat.le_refl _) _).drew
                    clear hK K
                    (try simp only [Act.put, List.setIfInBounds_toArray, List.set_cons_zero, List.set_cons_succ, List.getElem_toArray, List.getElem_cons_zero, List.getElem_cons_succ])
                    refine wpAnyH_ready (rs := [1]) (by kernel_rfl) (by simp) ?_
                    refine AllReadyH.cons rfl (fun K hK => ?_) AllReadyH.nil
                    go_simp
                    refine hK.out _ _ ?hSzb1 (fun hHeldzb1 => ?_)
                    case hSzb1 => exact hHeldzb17
                    clear hK K
                    (try simp only [Act.put, List.setIfInBounds_toArray, List.set_cons_zero, List.set_cons_succ, List.getElem_toArray, List.getElem_cons_zero, List.getElem_cons_succ])
                    refine wpAnyH_ready (rs := [18]) (by kernel_rfl) (by simp) ?_
                    refine AllReadyH.cons rfl (fun K hK => ?_) AllReadyH.nil
                    (refine step_append_any _ rfl (.tmp 81) (.tmp 97) _ rfl B0 72 i0 _ 3 24 Tryz.underlying30 hi0 hz0 hz1 hz2 rfl (by omega) _ (1 + 2 * k) (cndC (backL ⟨cf, (kc : Int), cv⟩ wh k)) (by simp [Act.eval]) (HOW.out.alloc _) (wr.heap.size + 1) (some ⟨wr.heap.size, 0, none⟩) 2 2 [.int .i64 ea, .int .i64 eb, .int .i64 ec, .int .i64 fa, .int .i64 fb, .int .i64 fc] (by simp [Act.eval]) (reads_n wr #[.int .i64 ea, .int .i64 eb, .int .i64 ec, .int .i64 fa, .int .i64 fb, .int .i64 fc] 72 3 2 rfl) (sixC_one _ _ _ _ _ _) (by simp only [maxLen]; omega) (by omega) (by (try simp only [World.size_alloc, World.size_drew]); omega) ?_; intro v9 w9 hown9 hg9 hat9)
                    obtain ⟨A9, c9, rfl⟩ := own_slice hown9
                    have HFIN := Lib.hid (HSTP.out A9 c9 w9 hown9 ⟨hg9.os, hg9.tape, hg9.output, hg9.size, hg9.block⟩)
                    clear hown9 hg9 hat9
                    refine hK.out _ _ ?hSzb18 (fun hHeldzb18 => ?_)
                    case hSzb18 => exact HFIN.out.1
                    clear hK K
                    (try simp only [Act.put, List.setIfInBounds_toArray, List.set_cons_zero, List.set_cons_succ, List.getElem_toArray, List.getElem_cons_zero, List.getElem_cons_succ])
                    refine wpAnyH_take (i := 19) (v := ?vzb19) rfl (by kernel_rfl) (by kernel_rfl) (by kernel_rfl) (fun _ _ _ h => h) (Or.inl ⟨by rfl, ?hyzb19⟩) (by assumption) ?restzb19
                    case hyzb19 => (intro w_ hSw; (try dsimp only at hSw); obtain ⟨q2_, a0_, a1_, a2_, b0_, b1_, b2_⟩ := hSw; go_simp; (try with_reducible rfl))
                    (try simp only [Act.put, List.setIfInBounds_toArray, List.set_cons_zero, List.set_cons_succ, List.getElem_toArray, List.getElem_cons_zero, List.getElem_cons_succ])
                    have s1 := HFIN.out.2.1.cell 2
                    have sf := HFIN.out.2.1.frozen 2
                    simp only [List.getElem?_toArray, List.getElem?_cons_zero, List.getElem?_cons_succ] at s1
                    (try simp only [Act.put, List.setIfInBounds_toArray, List.set_cons_zero, List.set_cons_succ, List.getElem_toArray, List.getElem_cons_zero, List.getElem_cons_succ])
                    refine wpAnyH_ready (rs := [20]) (by kernel_rfl) (by simp) ?_
                    refine AllReadyH.cons rfl (fun K hK => ?_) AllReadyH.nil
                    go_simp
                    refine hK.out _ _ ?hSzb20 (fun hHeldzb20 => ?_)
                    case hSzb20 => exact HFIN.out.2.2.1
                    clear hK K
                    (try simp only [Act.put, List.setIfInBounds_toArray, List.set_cons_zero, List.set_cons_succ, List.getElem_toArray, List.getElem_cons_zero, List.getElem_cons_succ])
                    refine wpAnyH_done (by kernel_rfl) ?_ _
                    go_wp2_with fail
                    go_roundw
                    case rel => exact ⟨k + 1, A9, c9, by omega, by go_num, HFIN.out.2.2.2⟩
                    case measure => simp [intOf]; omega
                  -- END 15
                · have k3 : decide ((k : Int) < (nw : Int)) = false := by rw [decide_eq_false_iff_not]; omega
                  obtain rfl : k = nw := by omega
                  clear o2 q2 lo2 lq2
                  have hb1e : ([] ++ cndC wh) ++ [.int .i64 cf, .int .i64 (kc : Int), .int .i64 cv] = cndC (wh ++ [⟨cf, (kc : Int), cv⟩]) := by rw [cndC_app2]; rfl
                  have hb2e : ([] ++ cndC wh) ++ [.int .i64 cf, .int .i64 od, .int .i64 cv] = cndC (wh ++ [oppC ⟨cf, (kc : Int), cv⟩]) := by rw [cndC_app2, ← HOD.out]; rfl
                  have HX1 : Hid (∀ y, Below wr.heap.size wr y → Reads y y.heap.size 3 A1 (k + 1) (cndC (wh ++ [⟨cf, (kc : Int), cv⟩]))) := fun y hy => by rw [← hb1e]; exact Reads.of_own (own_below HW1.out hy)
                  have HX2 : Hid (∀ y, Below wr.heap.size wr y → Reads y y.heap.size 3 A2 (k + 1) (cndC (wh ++ [oppC ⟨cf, (kc : Int), cv⟩]))) := fun y hy => by rw [← hb2e]; exact Reads.of_own (own_below HW2.out hy)
                  have HX3 : Hid (∀ y, Below wr.heap.size wr y → Reads y y.heap.size 3 A3 (1 + 2 * k) (cndC (backL ⟨cf, (kc : Int), cv⟩ wh wh.length))) := fun y hy => by rw [HNWL.out]; exact Reads.of_own (own_below HOW.out hy)
                  clear hb1e hb2e HW1 HW2 HOW HE1 HE2 HE3 HDE
                  have r0 := HDK.out.rb.cell 0
                  have r1 := HDK.out.rb.cell 1
                  have r2 := HDK.out.rb.cell 2
                  have r3 := HDK.out.rb.cell 3
                  simp only [List.getElem?_toArray, List.getElem?_cons_zero, List.getElem?_cons_succ] at r0 r1 r2 r3
                  have o0 := HDK.out.b1.cell 0
                  have o1 := HDK.out.b1.cell 1
                  have o2 := HDK.out.b1.cell 2
                  simp only [List.getElem?_toArray, List.getElem?_cons_zero, List.getElem?_cons_succ] at o0 o1 o2
                  have l1 := HDK.out.rb.lt
                  have l2 := HDK.out.b1.lt
                  go_wp2_with fail
                  refine (HRVX2.out _ A1 (k + 1) c1 wr HDK.out.below (HX1.out wr (Below.refl _ _)) (by omega)).mono ?_
                  rintro e y1 ⟨⟨vb, rfl, hvb⟩, hby1⟩
                  have HVB := Lib.hid hvb
                  have HY1 := Lib.hid hby1
                  have HD1 := Lib.hid (HDK.out.same hby1)
                  clear hvb hby1 r0 r1 r2 r3 o0 o1 o2 l1 l2
                  have r0 := HD1.out.rb.cell 0
                  have r1 := HD1.out.rb.cell 1
                  have r2 := HD1.out.rb.cell 2
                  have r3 := HD1.out.rb.cell 3
                  simp only [List.getElem?_toArray, List.getElem?_cons_zero, List.getElem?_cons_succ] at r0 r1 r2 r3
                  have o0 := HD1.out.b1.cell 0
                  have o1 := HD1.out.b1.cell 1
                  have o2 := HD1.out.b1.cell 2
                  simp only [List.getElem?_toArray, List.getElem?_cons_zero, List.getElem?_cons_succ] at o0 o1 o2
                  have l1 := HD1.out.rb.lt
                  have l2 := HD1.out.b1.lt
                  cases vb with
                  | false =>
                    go_wp2_with fail
                    go_ret
                    exact ⟨rfl, HD1.out.below⟩
                  | true =>
                    obtain ⟨ob2, hob2⟩ : ∃ b : Bool, (b = true ↔ OkQ ⟨verb, bl0, wh ++ [oppC ⟨cf, (kc : Int), cv⟩]⟩) := by
                      by_cases h : OkQ ⟨verb, bl0, wh ++ [oppC ⟨cf, (kc : Int), cv⟩]⟩
                      · exact ⟨true, b_yes h⟩
                      · exact ⟨false, b_no h⟩
                    have HOB2 := Lib.hid hob2
                    clear hob2
                    obtain ⟨ob3, hob3⟩ : ∃ b : Bool, (b = true ↔ OkQ ⟨verb, bl0, wh⟩) := by
                      by_cases h : OkQ ⟨verb, bl0, wh⟩
                      · exact ⟨true, b_yes h⟩
                      · exact ⟨false, b_no h⟩
                    have HOB3 := Lib.hid hob3
                    clear hob3
                    obtain ⟨ob4, hob4⟩ : ∃ b : Bool, (b = true ↔ OkQ ⟨verb, bl0, backL ⟨cf, (kc : Int), cv⟩ wh wh.length⟩) := by
                      by_cases h : OkQ ⟨verb, bl0, backL ⟨cf, (kc : Int), cv⟩ wh wh.length⟩
                      · exact ⟨true, b_yes h⟩
                      · exact ⟨false, b_no h⟩
                    have HOB4 := Lib.hid hob4
                    clear hob4
                    have HT1 : Hid (true = true ↔ OkQ ⟨verb, bl0, wh ++ [⟨cf, (kc : Int), cv⟩]⟩) := by first | exact HVB.out | simpa using HVB.out
                    go_wp2_with fail
                    refine (HTOT2.out (wh ++ [⟨cf, (kc : Int), cv⟩]) A1 (k + 1) c1 true y1 HD1.out.below (HX1.out y1 HY1.out) (by omega) (by first | exact HT1.out | simpa using HT1.out)).mono ?_
                    rintro e y2 ⟨rfl, hbn⟩
                    have HY2 := Lib.hid (below_two HY1.out hbn)
                    have HD2 := Lib.hid (HD1.out.same hbn)
                    clear hbn r0 r1 r2 r3 o0 o1 o2 l1 l2
                    have r0 := HD2.out.rb.cell 0
                    have r1 := HD2.out.rb.cell 1
                    have r2 := HD2.out.rb.cell 2
                    have r3 := HD2.out.rb.cell 3
                    have o0 := HD2.out.b2.cell 0
                    have o1 := HD2.out.b2.cell 1
                    have o2 := HD2.out.b2.cell 2
                    simp only [List.getElem?_toArray, List.getElem?_cons_zero, List.getElem?_cons_succ] at r0 r1 r2 r3 o0 o1 o2
                    have l1 := HD2.out.rb.lt
                    have l2 := HD2.out.b2.lt
                    go_wp2_with fail
                    refine (HTOT2.out (wh ++ [oppC ⟨cf, (kc : Int), cv⟩]) A2 (k + 1) c2 ob2 y2 HD2.out.below (HX2.out y2 HY2.out) (by omega) HOB2.out).mono ?_
                    rintro e y3 ⟨rfl, hbn⟩
                    have HY3 := Lib.hid (below_two HY2.out hbn)
                    have HD3 := Lib.hid (HD2.out.same hbn)
                    clear hbn r0 r1 r2 r3 o0 o1 o2 l1 l2
                    have r0 := HD3.out.rb.cell 0
                    have r1 := HD3.out.rb.cell 1
                    have r2 := HD3.out.rb.cell 2
                    have r3 := HD3.out.rb.cell 3
                    have o0 := HD3.out.qb.cell 0
                    have o1 := HD3.out.qb.cell 1
                    have o2 := HD3.out.qb.cell 2
                    simp only [List.getElem?_toArray, List.getElem?_cons_zero, List.getElem?_cons_succ] at r0 r1 r2 r3 o0 o1 o2
                    have l1 := HD3.out.rb.lt
                    have l2 := HD3.out.qb.lt
                    go_wp2_with fail
                    refine (HTOT2.out (wh) Aw k cw ob3 y3 HD3.out.below ((HRWQ.out y3 HD3.out.below).more HD3.out.below.size) (by omega) HOB3.out).mono ?_
                    rintro e y4 ⟨rfl, hbn⟩
                    have HY4 := Lib.hid (below_two HY3.out hbn)
                    have HD4 := Lib.hid (HD3.out.same hbn)
                    clear hbn r0 r1 r2 r3 o0 o1 o2 l1 l2
                    have r0 := HD4.out.rb.cell 0
                    have r1 := HD4.out.rb.cell 1
                    have r2 := HD4.out.rb.cell 2
                    have r3 := HD4.out.rb.cell 3
                    have o0 := HD4.out.b3.cell 0
                    have o1 := HD4.out.b3.cell 1
                    have o2 := HD4.out.b3.cell 2
                    simp only [List.getElem?_toArray, List.getElem?_cons_zero, List.getElem?_cons_succ] at r0 r1 r2 r3 o0 o1 o2
                    have l1 := HD4.out.rb.lt
                    have l2 := HD4.out.b3.lt
                    go_wp2_with fail
                    refine (HTOT2.out (backL ⟨cf, (kc : Int), cv⟩ wh wh.length) A3 (1 + 2 * k) c3 ob4 y4 HD4.out.below (HX3.out y4 HY4.out) (by omega) HOB4.out).mono ?_
                    rintro e y5 ⟨rfl, hbn⟩
                    have HY5 := Lib.hid (below_two HY4.out hbn)
                    have HD5 := Lib.hid (HD4.out.same hbn)
                    clear hbn r0 r1 r2 r3 o0 o1 o2 l1 l2
                    have HFB := Lib.hid HD5.out.below
                    have HP4 := Lib.hid (HPL2.out true ob2 ob3 ob4)
                    have t1s := totV_small (okb := true) (nb := nb) (HLN2.out (wh ++ [⟨cf, (kc : Int), cv⟩]))
                    have t2s := totV_small (okb := ob2) (nb := nb) (HLN2.out (wh ++ [oppC ⟨cf, (kc : Int), cv⟩]))
                    clear HPL2 HTOT2 HRVX2 HLN2 HD1 HD2 HD3 HD4 HD5 HY1 HY2 HY3 HY4 HY5 HX1 HX2 HX3 HDK
                    generalize totV true nb (sumsQ ⟨verb, bl0, wh ++ [⟨cf, (kc : Int), cv⟩]⟩ F) = tv1 at *
                    generalize okV true nb (sumsQ ⟨verb, bl0, wh ++ [⟨cf, (kc : Int), cv⟩]⟩ F) = ov1 at *
                    generalize totV ob2 nb (sumsQ ⟨verb, bl0, wh ++ [oppC ⟨cf, (kc : Int), cv⟩]⟩ F) = tv2 at *
                    generalize okV ob2 nb (sumsQ ⟨verb, bl0, wh ++ [oppC ⟨cf, (kc : Int), cv⟩]⟩ F) = ov2 at *
                    generalize totV ob3 nb (sumsQ ⟨verb, bl0, wh⟩ F) = tv3 at *
                    generalize okV ob3 nb (sumsQ ⟨verb, bl0, wh⟩ F) = ov3 at *
                    generalize totV ob4 nb (sumsQ ⟨verb, bl0, backL ⟨cf, (kc : Int), cv⟩ wh wh.length⟩ F) = tv4 at *
                    generalize okV ob4 nb (sumsQ ⟨verb, bl0, backL ⟨cf, (kc : Int), cv⟩ wh wh.length⟩ F) = ov4 at *
                    cases ov1 with
                    | false =>
                      go_wp2_with fail
                      go_ret
                      exact ⟨rfl, HFB.out⟩
                    | true =>
                      cases ov2 with
                      | false =>
                        go_wp2_with fail
                        go_ret
                        exact ⟨rfl, HFB.out⟩
                      | true =>
                        cases ov3 with
                        | false =>
                          go_wp2_with fail
                          go_ret
                          exact ⟨rfl, HFB.out⟩
                        | true =>
                          cases ov4 with
                          | false =>
                            go_wp2_with fail
                            go_ret
                            exact ⟨rfl, HFB.out⟩
                          | true =>
                            have hpp : tv1 + tv2 = tv3 ∧ tv1 = tv4 := by first | exact HP4.out rfl rfl rfl rfl | exact HP4.out trivial trivial trivial trivial | simpa using HP4.out
                            obtain ⟨hp1, hp2⟩ := hpp
                            subst hp2
                            have hwr : IntKind.i64.wrap (tv1 + tv2) = tv1 + tv2 := Go.IntWalk.i64_in _ ⟨by omega, by omega⟩
                            have kq1 : (tv1 + tv2 == tv3) = true := by simp [hp1]
                            have kq2 : (tv1 == tv1) = true := by simp
                            clear hp1
                            go_wp2_with fail
                            go_ret
                            exact ⟨rfl, HFB.out⟩
      · by_cases hc0 : co < 0
        · have k1 : decide (co < 0) = true := decide_eq_true hc0
          have HSF := Lib.hid HS3.out.below
          go_wp2_with fail
          go_ret
          exact ⟨rfl, HSF.out⟩
        · have k1 : decide (co < 0) = false := by rw [decide_eq_false_iff_not]; omega
          have k2 : decide (5 < co) = true := by rw [decide_eq_true_eq]; omega
          have HSF := Lib.hid HS3.out.below
          go_wp2_with fail
          go_ret
          exact ⟨rfl, HSF.out⟩
end Go.Proofs.YtfnlddloalineaaGreatDoor
