/-
  query.Valid at valid queries: proper, the search for an improper condition.   query.Valid at valid queries.   The text of a condition's value; strings.Join at rows of the call's own.   query.Print at valid queries: plain, and the state.   query.Print at valid queries: the walk.
-/
import Derived.Test.YtfnlddloalineaaGreatDoorQryA5
import Derived.Test.YtfnlddloalineaaGreatDoorDatA
import Derived.Laws.OwnMore
import Derived.Deep.Cut
import Derived.Deep.CutRange
import Derived.Deep.CutBlock
import Derived.Deep.AppendLies
import Derived.Deep.RegionHeldLaw
import Derived.Deep.MidRow
namespace Go.Proofs.YtfnlddloalineaaGreatDoor
open Go.RowKit
set_option linter.unusedVariables false
set_option maxRecDepth 100000
/-- a condition that stands -/
def okCnd (c : SCond) : Prop := 0 ≤ c.f ∧ c.f ≤ 4 ∧ 0 ≤ c.o ∧ c.o ≤ 5 ∧ (c.f = 3 → c.o ≤ 1 ∧ 0 ≤ c.v ∧ c.v < 11) ∧ (c.f = 4 → dateB c.v = true) ∧ (c.f ≠ 3 → c.f ≠ 4 → -1000000000000 ≤ c.v ∧ c.v ≤ 1000000000000)
def condV (c : SCond) : Value := .agg #[.int .i64 c.f, .int .i64 c.o, .int .i64 c.v]
theorem proper_num (f o v : Int) (w : World) (h0 : 0 ≤ f) (h4 : f ≤ 4) (o0 : 0 ≤ o) (o5 : o ≤ 5) (n3 : f ≠ 3) (n4 : f ≠ 4) (v0 : -1000000000000 ≤ v) (v1 : v ≤ 1000000000000) :
    Calls Tryz.prog 54 #[.agg #[.int .i64 f, .int .i64 o, .int .i64 v]] w fun e w' => e = .returned (.bool true) ∧ Below w.heap.size w w' := by
  have HB := Lib.hid ((Below.refl w.heap.size w).alloc (Nat.le_refl _) (.cells (#[.int .i64 f, .int .i64 o, .int .i64 v] : Array Value) 95))
  have q3 : (f == 3) = false := by rw [beq_eq_false_iff_ne]; exact n3
  have q4 : (f == 4) = false := by rw [beq_eq_false_iff_ne]; exact n4
  clear n3 n4
  go_enter Tryz.func54, Tryz.ntmps54
  go_wp2_with fail
  go_ret
  exact ⟨rfl, HB.out⟩
theorem proper_date (o v : Int) (w : World) (o0 : 0 ≤ o) (o5 : o ≤ 5) (hd : dateB v = true) :
    Calls Tryz.prog 54 #[.agg #[.int .i64 4, .int .i64 o, .int .i64 v]] w fun e w' => e = .returned (.bool true) ∧ Below w.heap.size w w' := by
  have hb := (Below.refl w.heap.size w).alloc (Nat.le_refl _) (.cells (#[.int .i64 4, .int .i64 o, .int .i64 v] : Array Value) 95)
  have HB := Lib.hid hb
  have HD := Lib.hid hd
  have HV := Lib.hid (dvalid_any v (w.alloc (.cells (#[.int .i64 4, .int .i64 o, .int .i64 v] : Array Value) 95)))
  clear hb hd
  go_enter Tryz.func54, Tryz.ntmps54
  go_wp2_with fail
  refine HV.out.mono ?_
  rintro e wx ⟨rfl, rfl⟩
  rw [HD.out]
  go_wp2_with fail
  go_ret
  exact ⟨rfl, HB.out⟩
set_option maxHeartbeats 4000000 in
theorem proper_kind (o v : Int) (w : World) (o0 : 0 ≤ o) (o1 : o ≤ 1) (v0 : 0 ≤ v) (v1 : v < 11) :
    Calls Tryz.prog 54 #[.agg #[.int .i64 3, .int .i64 o, .int .i64 v]] w fun e w' => e = .returned (.bool true) ∧ Below w.heap.size w w' := by
  have hb := (Below.refl w.heap.size w).alloc (Nat.le_refl _) (.cells (#[.int .i64 3, .int .i64 o, .int .i64 v] : Array Value) 95)
  have hk := Blk.new w 95 #[.int .i64 3, .int .i64 o, .int .i64 v]
  obtain ⟨wz, hwz⟩ : ∃ wz, w.alloc (.cells (#[.int .i64 3, .int .i64 o, .int .i64 v] : Array Value) 95) = wz := ⟨_, rfl⟩
  rw [hwz] at hb hk
  have o5 : o ≤ 5 := by omega
  have c0 := hk.cell 0
  have c1 := hk.cell 1
  have c2 := hk.cell 2
  have hsz : w.heap.size < wz.heap.size := hk.lt
  have HB := Lib.hid (((hb.alloc hb.size (.cells (kdL.map strV).toArray 9))).drew)
  clear hb hk
  go_enter Tryz.func54, Tryz.ntmps54
  go_upto_region 5 with fail
  go_region_with (go_at_call 79; refine (kd_any _).mono ?_; rintro e wx ⟨rfl, rfl⟩)
  all_goals
    go_wp2_with fail
    go_ret
    exact ⟨rfl, HB.out⟩
theorem proper_yes (c : SCond) (w : World) (h : okCnd c) : Calls Tryz.prog 54 #[condV c] w fun e w' => e = .returned (.bool true) ∧ Below w.heap.size w w' := by
  obtain ⟨f, o, v⟩ := c
  obtain ⟨h0, h4, o0, o5, hk, hd, hn⟩ := h
  show Calls Tryz.prog 54 #[.agg #[.int .i64 f, .int .i64 o, .int .i64 v]] w _
  simp only [] at *
  by_cases h3 : f = 3
  · subst h3
    obtain ⟨k1, k2, k3⟩ := hk rfl
    exact proper_kind o v w o0 k1 k2 k3
  · by_cases h5 : f = 4
    · subst h5
      exact proper_date o v w o0 o5 (hd rfl)
    · obtain ⟨v0, v1⟩ := hn h3 h5
      exact proper_num f o v w h0 h4 o0 o5 h3 h5 v0 v1
theorem valid1_yes (c : SCond) (w : World) (h : okCnd c) : Calls Tryz.prog 53 #[condV c] w fun e w' => e = .returned (.bool false) ∧ Below w.heap.size w w' := by
  obtain ⟨f, o, v⟩ := c
  show Calls Tryz.prog 53 #[.agg #[.int .i64 f, .int .i64 o, .int .i64 v]] w _
  have hb := (Below.refl w.heap.size w).alloc (Nat.le_refl _) (.cells (#[.int .i64 f, .int .i64 o, .int .i64 v] : Array Value) 95)
  have HB := Lib.hid hb
  have HV : Hid (Calls Tryz.prog 54 #[.agg #[.int .i64 f, .int .i64 o, .int .i64 v]] (w.alloc (.cells (#[.int .i64 f, .int .i64 o, .int .i64 v] : Array Value) 95)) fun e w' => e = .returned (.bool true) ∧ Below (w.alloc (.cells (#[.int .i64 f, .int .i64 o, .int .i64 v] : Array Value) 95)).heap.size (w.alloc (.cells (#[.int .i64 f, .int .i64 o, .int .i64 v] : Array Value) 95)) w') := proper_yes ⟨f, o, v⟩ _ h
  clear hb h
  go_enter Tryz.func53, Tryz.ntmps53
  go_wp2_with fail
  refine HV.out.mono ?_
  rintro e wx ⟨rfl, hb2⟩
  have HB2 := Lib.hid (below_two HB.out hb2)
  clear hb2
  go_wp2_with fail
  go_ret
  exact ⟨rfl, HB2.out⟩
theorem cndC_at : ∀ (l : List SCond) (k : Nat), k < l.length → (cndC l)[k * 3]? = some (.int .i64 (l.getD k default).f) ∧ (cndC l)[k * 3 + 1]? = some (.int .i64 (l.getD k default).o) ∧ (cndC l)[k * 3 + 2]? = some (.int .i64 (l.getD k default).v) := by
  intro l
  induction l with
  | nil => intro k h; simp at h
  | cons x r ih =>
    intro k h
    cases k with
    | zero => exact ⟨rfl, rfl, rfl⟩
    | succ k =>
      have := ih k (by simpa using h)
      rw [show (k + 1) * 3 = k * 3 + 3 by omega, show k * 3 + 3 + 1 = (k * 3 + 1) + 3 by omega, show k * 3 + 3 + 2 = (k * 3 + 2) + 3 by omega]
      exact this
theorem cndC_len (l : List SCond) : (cndC l).length = l.length * 3 := by
  induction l with
  | nil => rfl
  | cons x r ih =>
    have e : cndC (x :: r) = [.int .i64 x.f, .int .i64 x.o, .int .i64 x.v] ++ cndC r := rfl
    rw [e, List.length_append, ih]; simp only [List.length_cons, List.length_nil]; omega
theorem add_posQ (a : Addr) (n : Nat) (h : n ≠ 0) : a.add n = ⟨a.block, a.off + n, none⟩ := by unfold Addr.add; rw [if_neg h]
theorem Reads.lowQ {w w' : World} {B size n : Nat} {A : Option Addr} {xs : List Value} (h : Reads w B size A n xs) (hB : B ≤ w.heap.size) {C : Nat} (hC : w.heap.size ≤ C) (hb : Below C w w') : Reads w' B size A n xs :=
  h.keep fun _ hp => hb.cell (by omega)
theorem Reads.cnd_at {w : World} {B n k : Nat} {A : Option Addr} {cs : List SCond} (h : Reads w B 3 A n (cndC cs)) (hk : k < n) :
    ∃ ad, A = some ad ∧ ad.block < B ∧ w.cell? (ad.add (k * 3)) = some (.int .i64 (cs.getD k default).f) ∧ w.cell? ⟨(ad.add (k * 3)).block, (ad.add (k * 3)).off + 1, none⟩ = some (.int .i64 (cs.getD k default).o) ∧
      w.cell? ⟨(ad.add (k * 3)).block, (ad.add (k * 3)).off + 2, none⟩ = some (.int .i64 (cs.getD k default).v) := by
  have hl : k < cs.length := by have := h.1; rw [cndC_len] at this; omega
  obtain ⟨ad, rfl, hb, hc⟩ := h.2 (by omega)
  obtain ⟨e0, e1, e2⟩ := cndC_at cs k hl
  have g0 := hc _ _ e0
  have g1 := hc _ _ e1
  have g2 := hc _ _ e2
  rw [← add_of_add, add_posQ _ 1 (by omega)] at g1
  rw [← add_of_add, add_posQ _ 2 (by omega)] at g2
  exact ⟨ad, rfl, hb, g0, g1, g2⟩
theorem enter_v1 (args : Array Value) (w : World) : (callFunc 53 args).run Tryz.prog w = .ok (.enter 53 args) w := by
  simp [go_sem]
set_option maxHeartbeats 4000000 in
theorem idxF_no (xs : List SCond) (A : Option Addr) (n c B : Nat) (w : World) (hF : ∀ x, x ∈ xs → okCnd x) (hr : Reads w B 3 A n (cndC xs)) (hB : B ≤ w.heap.size) (hn : n ≤ 10000) :
    Calls Tryz.prog 86 #[.slice A n c, .func (.func 53) #[] #[]] w fun e w' => e = .returned (.int .i64 (-1)) ∧ Below w.heap.size w w' := by
  have hlen : xs.length = n := by have := hr.1; rw [cndC_len] at this; omega
  have HR := Lib.hid hr
  have HF : Hid (∀ k, k < n → ∀ w, Calls Tryz.prog 53 #[condV (xs.getD k default)] w fun e w' => e = .returned (.bool false) ∧ Below w.heap.size w w') := fun k hk w => valid1_yes _ w (hF _ (by
    rw [List.getD_eq_getElem?_getD, List.getElem?_eq_getElem (by omega)]; exact List.getElem_mem _))
  have HL := Lib.hid hlen
  have HCF := Lib.hid enter_v1
  clear hr hF hlen
  obtain ⟨Fu, hFu⟩ : ∃ Fu : FuncId, 53 = Fu := ⟨_, rfl⟩
  rw [hFu] at HF HCF ⊢
  clear hFu
  have hcf : ∀ (args : Array Value) (w : World), (callFunc Fu args).run Tryz.prog w = .ok (.enter Fu args) w := HCF.out
  go_enter Tryz.func86, Tryz.ntmps86
  go_wp2_with fail
  go_loopw [8] (fun i wr => ∃ k : Nat, k ≤ n ∧ i = .int .i64 k ∧ Below w.heap.size w wr) (fun i _ => n - (intOf i).toNat)
  case atStart => exact ⟨0, by omega, rfl, Below.refl _ _⟩
  case round =>
    obtain ⟨k, hk, rfl, hbr⟩ := hrel
    obtain ⟨wo, rfl⟩ : ∃ wo : World, wo = wr := ⟨_, rfl⟩
    by_cases hlt : k < n
    · have k3 : decide ((k : Int) < (n : Int)) = true := by rw [decide_eq_true_eq]; omega
      obtain ⟨ad, rfl, hbk, c0, c1, c2⟩ := (HR.out.lowQ hB (Nat.le_refl _) hbr).cnd_at hlt
      have HK := Lib.hid (HF.out k hlt)
      generalize xs.getD k default = x at *
      obtain ⟨f, o, v⟩ := x
      simp only [] at c0 c1 c2
      go_wp2_with fail
      refine (HK.out _).mono ?_
      rintro e w1 ⟨rfl, hb⟩
      have hb1 := below_two hbr hb
      clear c0 c1 c2 hb hbr
      go_wp2_with fail
      exact ⟨⟨k + 1, by omega, by go_num, hb1⟩, by simp [intOf]; omega⟩
    · have k3 : decide ((k : Int) < (n : Int)) = false := by rw [decide_eq_false_iff_not]; omega
      go_wp2_with fail
      go_ret
      exact ⟨rfl, hbr⟩
theorem contF_no (xs : List SCond) (A : Option Addr) (n c B : Nat) (w : World) (hF : ∀ x, x ∈ xs → okCnd x) (hr : Reads w B 3 A n (cndC xs)) (hB : B ≤ w.heap.size) (hn : n ≤ 10000) :
    Calls Tryz.prog 52 #[.slice A n c, .func (.func 53) #[] #[]] w fun e w' => e = .returned (.bool false) ∧ Below w.heap.size w w' := by
  have HI := Lib.hid (idxF_no xs A n c B w hF hr hB hn)
  clear hr hF
  go_enter Tryz.func52, Tryz.ntmps52
  go_wp2_with fail
  refine HI.out.mono ?_
  rintro e w1 ⟨rfl, hb⟩
  go_wp2_with fail
  go_ret
  exact ⟨rfl, hb⟩
end Go.Proofs.YtfnlddloalineaaGreatDoor
namespace Go.Proofs.YtfnlddloalineaaGreatDoor
open Go.RowKit
set_option linter.unusedVariables false
set_option maxRecDepth 100000
/-- a query that stands -/
structure OkQ (q : SQry) : Prop where
  v0 : 0 ≤ q.verb
  v1 : q.verb ≤ 1
  wl : q.wh.length ≤ 20
  br : ∀ k, k < q.by_.length → 0 ≤ q.by_.getD k 0 ∧ q.by_.getD k 0 ≤ 4
  bd : ∀ k, k < q.by_.length → (q.by_.take k).contains (q.by_.getD k 0) = false
  cn : ∀ x, x ∈ q.wh → okCnd x
/-- a list of numbers in memory -/
def RdBy (w : World) (B : Nat) (A : Option Addr) (l : List Int) : Prop := 0 < l.length → ∃ g o, A = some ⟨g, o, none⟩ ∧ g < B ∧ ∀ j, j < l.length → w.cell? ⟨g, o + j, none⟩ = some (.int .i64 (l.getD j 0))
theorem RdBy.low {w w' : World} {B : Nat} {A : Option Addr} {l : List Int} (h : RdBy w B A l) (hB : B ≤ w.heap.size) {C : Nat} (hC : w.heap.size ≤ C) (hb : Below C w w') : RdBy w' B A l := fun hn => by
  obtain ⟨g, o, e, hg, hc⟩ := h hn
  exact ⟨g, o, e, hg, fun j hj => (hb.cell (by simp only []; omega)).trans (hc j hj)⟩
theorem RdBy.of_own {w : World} {b n c : Nat} {e : TypeId} {A : Option Addr} {l : List Int} (h : w.ownsRow b e 1 (.slice A n c) l.length (l.map intV)) : RdBy w w.heap.size A l := fun hn => by
  obtain ⟨g, cap, hv, _, hlt⟩ := h.form hn
  have hA : A = some ⟨g, 0, none⟩ := by injection hv
  subst hA
  refine ⟨g, 0, rfl, hlt, fun j hj => ?_⟩
  have := h.cells (g := g) rfl j (.int .i64 (l.getD j 0)) (by rw [List.getElem?_map, List.getElem?_eq_getElem hj, List.getD_eq_getElem?_getD, List.getElem?_eq_getElem hj]; rfl)
  have e : (⟨g, 0, none⟩ : Addr).add j = ⟨g, 0 + j, none⟩ := by unfold Addr.add; split <;> simp_all
  rwa [e] at this
set_option maxHeartbeats 8000000 in
theorem valid_yes (q : SQry) (Ab Aw : Option Addr) (nb nw cb cw B : Nat) (w : World) (hq : OkQ q) (hb : RdBy w B Ab q.by_) (hnb : nb = q.by_.length) (hcb : nb ≤ cb) (hw : Reads w B 3 Aw nw (cndC q.wh)) (hB : B ≤ w.heap.size) (hn : nb ≤ 10000) :
    Calls Tryz.prog 20 #[.agg #[.int .i64 q.verb, .slice Ab nb cb, .slice Aw nw cw]] w fun e w' => e = .returned (.bool true) ∧ Below w.heap.size w w' := by
  obtain ⟨verb, byl, wh⟩ := q
  obtain ⟨v0, v1, wl, br, bd, cn⟩ := hq
  simp only [] at v0 v1 wl br bd cn hb hnb hw ⊢
  have hnw : wh.length = nw := by have := hw.1; rw [cndC_len] at this; omega
  rw [hnw] at wl
  have hb0 := (Below.refl w.heap.size w).alloc (Nat.le_refl _) (.cells (#[.int .i64 verb, .slice Ab nb cb, .slice Aw nw cw] : Array Value) 26)
  have hk0 := Blk.new w 26 #[.int .i64 verb, .slice Ab nb cb, .slice Aw nw cw]
  obtain ⟨wz, hwz⟩ : ∃ wz, w.alloc (.cells (#[.int .i64 verb, .slice Ab nb cb, .slice Aw nw cw] : Array Value) 26) = wz := ⟨_, rfl⟩
  rw [hwz] at hb0 hk0
  have hb1 := hb.low hB (Nat.le_refl _) hb0
  have hw1 := hw.lowQ hB (Nat.le_refl _) hb0
  have HWZ := Lib.hid hwz
  obtain ⟨c0, c1, c2⟩ := rd_cells hk0
  have hlt0 : w.heap.size < wz.heap.size := hk0.lt
  have hBz : B ≤ wz.heap.size := by omega
  have HB0 := Lib.hid hb0
  have HK0 := Lib.hid hk0
  have HBY := Lib.hid hb1
  have HWH := Lib.hid hw1
  have HNB := Lib.hid hnb
  have HBR := Lib.hid br
  have HBD := Lib.hid bd
  have HCN := Lib.hid cn
  have x1 : decide (verb < 0) = false := by rw [decide_eq_false_iff_not]; omega
  have x2 : decide (1 < verb) = false := by rw [decide_eq_false_iff_not]; omega
  have x3 : decide (20 < nw) = false := by rw [decide_eq_false_iff_not]; omega
  clear hb0 hk0 hb1 hw1 hb hw hnb br bd cn hnw
  go_enter Tryz.func20, Tryz.ntmps20
  go_wp2_with fail
  go_loopw [22] (fun i wr => ∃ k : Nat, k ≤ nb ∧ i = .int .i64 k ∧ wr = wz) (fun i _ => nb - (intOf i).toNat)
  case atStart => exact ⟨0, by omega, rfl, rfl⟩
  case round =>
    obtain ⟨k, hk, rfl, rfl⟩ := hrel
    by_cases hlt : k < nb
    · have k3 : decide ((k : Int) < (nb : Int)) = true := by rw [decide_eq_true_eq]; omega
      have k4 : (k : Int) < (nb : Int) := by omega
      have hkl : k < byl.length := by have := HNB.out; omega
      obtain ⟨g, o, rfl, hg, hc⟩ := HBY.out (by omega)
      have y3 := hc k hkl
      obtain ⟨r0, r4⟩ := HBR.out k hkl
      have HC := Lib.hid (Tryz.slices_Contains_int g o k cb byl (byl.getD k 0) wr (by omega) (by omega) hc)
      have HD := Lib.hid (HBD.out k hkl)
      generalize byl.getD k 0 = x at *
      have e1 : decide (x < 0) = false := by rw [decide_eq_false_iff_not]; omega
      have e2 : decide (4 < x) = false := by rw [decide_eq_false_iff_not]; omega
      clear hc hkl
      go_wp2_with fail
      refine HC.out.mono ?_
      rintro e wx ⟨rfl, rfl⟩
      rw [HD.out]
      go_wp2_with fail
      go_roundw
      case rel => exact ⟨k + 1, by omega, by go_num, by first | rfl | trivial⟩
      case measure => simp [intOf]; omega
    · have k3 : decide ((k : Int) < (nb : Int)) = false := by rw [decide_eq_false_iff_not]; omega
      have HCF := Lib.hid (contF_no wh Aw nw cw B wr HCN.out HWH.out hBz (by omega))
      go_wp2_with fail
      refine HCF.out.mono ?_
      rintro e wx ⟨rfl, hb⟩
      have HBX := Lib.hid (below_two HB0.out hb)
      clear hb
      go_wp2_with fail
      go_ret
      exact ⟨rfl, HBX.out⟩
end Go.Proofs.YtfnlddloalineaaGreatDoor
namespace Go.Proofs.YtfnlddloalineaaGreatDoor
open Go.RowKit
set_option linter.unusedVariables false
set_option maxRecDepth 100000
def valT (c : SCond) : Wd := if c.f = 3 then kdL.getD c.v.toNat [] else if c.f = 4 then datT c.v else Lib.itoa c.v
theorem text_num (f o v : Int) (w : World) (n3 : f ≠ 3) (n4 : f ≠ 4) (v0 : -1000000000000 ≤ v) (v1 : v ≤ 1000000000000) (hE : Env w) :
    Calls Tryz.prog 47 #[.agg #[.int .i64 f, .int .i64 o, .int .i64 v]] w fun e w' => e = .returned (.string ⟨(Lib.itoa v).toArray⟩) ∧ Below w.heap.size w w' := by
  have hb := (Below.refl w.heap.size w).alloc (Nat.le_refl _) (.cells (#[.int .i64 f, .int .i64 o, .int .i64 v] : Array Value) 95)
  have HB := Lib.hid hb
  have HI := Lib.hid (Tryz.strconv_Itoa v (by omega) (by omega) _ (hE.after hb).tab)
  have q3 : (f == 3) = false := by rw [beq_eq_false_iff_ne]; exact n3
  have q4 : (f == 4) = false := by rw [beq_eq_false_iff_ne]; exact n4
  clear n3 n4 hb
  go_enter Tryz.func47, Tryz.ntmps47
  go_wp2_with fail
  refine HI.out.mono ?_
  rintro e w1 ⟨rfl, hw1⟩
  have HB1 := Lib.hid (below_two HB.out (below_itoa hw1))
  clear hw1
  go_wp2_with fail
  go_ret
  exact ⟨rfl, HB1.out⟩
theorem text_date (o v : Int) (w : World) :
    Calls Tryz.prog 47 #[.agg #[.int .i64 4, .int .i64 o, .int .i64 v]] w fun e w' => e = .returned (.string ⟨(datT v).toArray⟩) ∧ Below w.heap.size w w' := by
  have hb := (Below.refl w.heap.size w).alloc (Nat.le_refl _) (.cells (#[.int .i64 4, .int .i64 o, .int .i64 v] : Array Value) 95)
  have HB := Lib.hid hb
  have HI := Lib.hid (dtext_any v (w.alloc (.cells (#[.int .i64 4, .int .i64 o, .int .i64 v] : Array Value) 95)))
  clear hb
  go_enter Tryz.func47, Tryz.ntmps47
  go_wp2_with fail
  refine HI.out.mono ?_
  rintro e w1 ⟨rfl, hw1⟩
  have HB1 := Lib.hid (below_two HB.out hw1)
  clear hw1
  go_wp2_with fail
  go_ret
  exact ⟨rfl, HB1.out⟩
set_option maxHeartbeats 4000000 in
theorem text_kind (o : Int) (k : Nat) (w : World) (hk : k < 11) :
    Calls Tryz.prog 47 #[.agg #[.int .i64 3, .int .i64 o, .int .i64 (k : Int)]] w fun e w' => e = .returned (.string ⟨(kdL.getD k []).toArray⟩) ∧ Below w.heap.size w w' := by
  have hb := (Below.refl w.heap.size w).alloc (Nat.le_refl _) (.cells (#[.int .i64 3, .int .i64 o, .int .i64 (k : Int)] : Array Value) 95)
  have hk0 := Blk.new w 95 #[.int .i64 3, .int .i64 o, .int .i64 (k : Int)]
  obtain ⟨wz, hwz⟩ : ∃ wz, w.alloc (.cells (#[.int .i64 3, .int .i64 o, .int .i64 (k : Int)] : Array Value) 95) = wz := ⟨_, rfl⟩
  rw [hwz] at hb hk0
  obtain ⟨c0, c1, c2⟩ := rd_cells hk0
  have hsz : w.heap.size < wz.heap.size := hk0.lt
  have HB := Lib.hid (((hb.alloc hb.size (.cells (kdL.map strV).toArray 9))).drew)
  have KC := word_cell (Blk.new wz 9 (kdL.map strV).toArray) hk
  have kb : (k : Int) < 11 := by omega
  generalize kdL.getD k [] = tx at *
  clear hb hk0
  go_enter Tryz.func47, Tryz.ntmps47
  go_upto_region 3 with fail
  go_region_with (go_at_call 79; refine (kd_any _).mono ?_; rintro e wx ⟨rfl, rfl⟩)
  all_goals
    go_wp2_with fail
    go_ret
    exact ⟨rfl, HB.out⟩
theorem text_yes (c : SCond) (w : World) (h : okCnd c) (hE : Env w) : Calls Tryz.prog 47 #[condV c] w fun e w' => e = .returned (.string ⟨(valT c).toArray⟩) ∧ Below w.heap.size w w' := by
  obtain ⟨f, o, v⟩ := c
  obtain ⟨h0, h4, o0, o5, hk, hd, hn⟩ := h
  show Calls Tryz.prog 47 #[.agg #[.int .i64 f, .int .i64 o, .int .i64 v]] w _
  simp only [] at *
  unfold valT
  simp only []
  by_cases h3 : f = 3
  · subst h3
    obtain ⟨k1, k2, k3⟩ := hk rfl
    obtain ⟨k, rfl⟩ : ∃ k : Nat, v = (k : Int) := ⟨v.toNat, by omega⟩
    rw [if_pos rfl, show ((k : Int)).toNat = k by omega]
    exact text_kind o k w (by omega)
  · by_cases h5 : f = 4
    · subst h5
      rw [if_neg (by decide), if_pos rfl]
      exact text_date o v w
    · obtain ⟨v0, v1⟩ := hn h3 h5
      rw [if_neg h3, if_neg h5]
      exact text_num f o v w h3 h5 v0 v1 hE
/-- strings.Join at a row of the call's own -/
theorem join_own (xs : List Wd) (sep : Wd) (v : Value) (base : Nat) (w : World) (ho : w.ownsRow base 9 1 v xs.length (xs.map strV)) (hn : xs.length ≤ 100000) (hl : (Lib.join xs sep).length ≤ 140737488355328) :
    Calls Tryz.prog 45 #[v, .string ⟨sep.toArray⟩] w fun e w' => e = .returned (.string ⟨(Lib.join xs sep).toArray⟩) ∧ Below w.heap.size w w' := by
  rcases Nat.eq_zero_or_pos xs.length with h0 | h0
  · obtain ⟨A, c, rfl⟩ := own_slice ho
    have e : xs = [] := List.eq_nil_of_length_eq_zero h0
    subst e
    refine (Tryz.strings_Join_none A c _ w).mono ?_
    rintro e wx ⟨rfl, rfl⟩
    exact ⟨rfl, Below.refl _ _⟩
  · obtain ⟨g, cap, hv, _, hlt⟩ := ho.form h0
    have hc := ho.cells (g := g) (by rw [hv]; rfl)
    have hcap : xs.length ≤ cap := by
      rcases ho.2 with ⟨_, hx⟩ | ⟨g', cap', cur, rfl, _, _, hnc, _⟩
      · rw [hx] at h0; simp at h0
      · injection hv with _ _ h3; omega
    subst hv
    have e1 : (xs.map fun x => (⟨x.toArray⟩ : ByteArray)).map (fun b => b.data.toList) = xs := by
      rw [List.map_map]
      conv => rhs; rw [← List.map_id xs]
      apply List.map_congr_left
      intro x _
      rfl
    have h := Tryz.strings_Join g 0 cap (xs.map fun x => (⟨x.toArray⟩ : ByteArray)) ⟨sep.toArray⟩ w (by
      intro j x hx
      rw [List.getElem?_map] at hx
      cases hz : xs[j]? with
      | none => rw [hz] at hx; cases hx
      | some z =>
        rw [hz] at hx
        injection hx with hx
        subst hx
        have := hc j (.string ⟨z.toArray⟩) (by rw [List.getElem?_map, hz]; rfl)
        rw [Nat.zero_add, ← this]
        unfold Addr.add
        split
        · rename_i h; rw [h]
        · simp) hlt (by rw [List.length_map]; omega) (by rw [List.length_map]; exact hcap) (by rw [e1]; exact hl)
    rw [e1, List.length_map] at h
    exact h
end Go.Proofs.YtfnlddloalineaaGreatDoor
namespace Go.Proofs.YtfnlddloalineaaGreatDoor
open Go.RowKit
set_option linter.unusedVariables false
set_option maxRecDepth 100000
def fdW (n : Int) : Wd := fdL.getD n.toNat []
def byP (l : List Int) : List Wd := if l = [] then [] else [byW, Lib.join (l.map fdW) [44]]
def cW (j : Wd) (c : SCond) : List Wd := [j, fdW c.f, opL.getD c.o.toNat [], valT c]
def whP : List SCond → List Wd
  | [] => []
  | c :: r => cW whereW c ++ r.flatMap (cW andW)
def hdP (q : SQry) : List Wd := vbL.getD q.verb.toNat [] :: byP q.by_
def prT (q : SQry) : Wd := Lib.join (hdP q ++ whP q.wh) [32]
theorem whP_step {l : List SCond} {k : Nat} (hk : k < l.length) : whP (l.take (k + 1)) = whP (l.take k) ++ cW (if k = 0 then whereW else andW) (l.getD k default) := by
  cases l with
  | nil => simp at hk
  | cons c r =>
    cases k with
    | zero => simp [whP]
    | succ k =>
      have hk' : k < r.length := by simpa using hk
      rw [List.take_succ_cons, List.take_succ_cons, if_neg (by omega)]
      show cW whereW c ++ (r.take (k + 1)).flatMap (cW andW) = cW whereW c ++ (r.take k).flatMap (cW andW) ++ cW andW (r.getD k default)
      rw [List.take_succ_eq_append_getElem hk', List.flatMap_append, List.append_assoc]
      congr 1
      simp [List.getD, hk']
theorem info_strQ : (Tryz.prog.info? 9).map (fun i => (i.zero, i.size, i.bytes)) = some (some (.string ⟨#[]⟩), 1, 16) := by kernel_rfl
structure PrS (w : World) (q : SQry) (Ab Aw : Option Addr) (nb nw cb cw B : Nat) (ws : List Wd) (v4 : Value) (x : World) : Prop where
  blk : Blk x w.heap.size 26 #[.int .i64 q.verb, .slice Ab nb cb, .slice Aw nw cw]
  rby : RdBy x B Ab q.by_
  rwh : Reads x B 3 Aw nw (cndC q.wh)
  row : x.ownsRow (w.heap.size + 1) 9 1 v4 ws.length (ws.map strV)
  below : Below w.heap.size w x
theorem PrS.same {w : World} {q : SQry} {Ab Aw : Option Addr} {nb nw cb cw B : Nat} {ws : List Wd} {v4 : Value} {x y : World} (h : PrS w q Ab Aw nb nw cb cw B ws v4 x) (hB : B ≤ w.heap.size) (hb : Below x.heap.size x y) : PrS w q Ab Aw nb nw cb cw B ws v4 y := by
  have h1 := h.below.size
  exact ⟨h.blk.below hb h.blk.lt, h.rby.low (by omega) (Nat.le_refl _) hb, h.rwh.lowQ (by omega) (Nat.le_refl _) hb, own_below h.row hb, h.below.trans (hb.mono h1)⟩
theorem PrS.drew {w : World} {q : SQry} {Ab Aw : Option Addr} {nb nw cb cw B : Nat} {ws : List Wd} {v4 : Value} {x : World} (h : PrS w q Ab Aw nb nw cb cw B ws v4 x) (hB : B ≤ w.heap.size) : PrS w q Ab Aw nb nw cb cw B ws v4 x.drew := h.same hB (Below.refl _ _).drew
theorem PrS.alloc {w : World} {q : SQry} {Ab Aw : Option Addr} {nb nw cb cw B : Nat} {ws : List Wd} {v4 : Value} {x : World} (h : PrS w q Ab Aw nb nw cb cw B ws v4 x) (hB : B ≤ w.heap.size) (o : Obj) : PrS w q Ab Aw nb nw cb cw B ws v4 (x.alloc o) := h.same hB ((Below.refl _ _).alloc (Nat.le_refl _) _)
/-- another row of the call's own has grown -/
theorem PrS.grown {w : World} {q : SQry} {Ab Aw : Option Addr} {nb nw cb cw B : Nat} {ws : List Wd} {v4 v5 : Value} {x y : World} (h : PrS w q Ab Aw nb nw cb cw B ws v4 x) (hB : B ≤ w.heap.size) (hg : x.grownBy y v5.ownBlock) (hne : v4.ownBlock = none ∨ v4.ownBlock ≠ v5.ownBlock) (h5 : ∀ k, v5.ownBlock = some k → w.heap.size < k) : PrS w q Ab Aw nb nw cb cw B ws v4 y := by
  have h1 := h.below.size
  have hk : ∀ p : Addr, p.block < B → y.cell? p = x.cell? p := fun p hp => World.cell?_of_block (hg.block p.block (by omega) (fun e => by have := h5 _ e.symm; omega))
  refine ⟨h.blk.grown hg (fun e => by have := h5 _ e.symm; omega), fun hn => ?_, h.rwh.grown hg (by omega) (fun g e => by have := h5 _ e; omega), h.row.kept hg hne, h.below.grown hg (by omega) (fun r e => by have := h5 _ e; omega)⟩
  obtain ⟨g, o, e, hgb, hc⟩ := h.rby hn
  exact ⟨g, o, e, hgb, fun j hj => (hk _ hgb).trans (hc j hj)⟩
/-- the words have grown -/
theorem PrS.push {w : World} {q : SQry} {Ab Aw : Option Addr} {nb nw cb cw B : Nat} {ws news : List Wd} {v4 v' : Value} {x y : World} (h : PrS w q Ab Aw nb nw cb cw B ws v4 x) (hB : B ≤ w.heap.size) (hg : x.grownBy y v4.ownBlock) (hown : y.ownsRow (w.heap.size + 1) 9 1 v' (ws.length + news.length) (ws.map strV ++ news.map strV)) : PrS w q Ab Aw nb nw cb cw B (ws ++ news) v' y := by
  have h1 := h.below.size
  have h5 : ∀ k, v4.ownBlock = some k → w.heap.size < k := fun k e => own_base h.row k e
  have hk : ∀ p : Addr, p.block < B → y.cell? p = x.cell? p := fun p hp => World.cell?_of_block (hg.block p.block (by omega) (fun e => by have := h5 _ e.symm; omega))
  refine ⟨h.blk.grown hg (fun e => by have := h5 _ e.symm; omega), fun hn => ?_, h.rwh.grown hg (by omega) (fun g e => by have := h5 _ e; omega), by rw [List.length_append, List.map_append]; exact hown, h.below.grown hg (by omega) (fun r e => by have := h5 _ e; omega)⟩
  obtain ⟨g, o, e, hgb, hc⟩ := h.rby hn
  exact ⟨g, o, e, hgb, fun j hj => (hk _ hgb).trans (hc j hj)⟩
theorem PrS.cells {w : World} {q : SQry} {Ab Aw : Option Addr} {nb nw cb cw B : Nat} {ws : List Wd} {v4 : Value} {x : World} (h : PrS w q Ab Aw nb nw cb cw B ws v4 x) : w.heap.size < x.heap.size ∧ x.cell? ⟨w.heap.size, 0, none⟩ = some (.int .i64 q.verb) ∧ x.cell? ⟨w.heap.size, 1, none⟩ = some (.slice Ab nb cb) ∧ x.cell? ⟨w.heap.size, 2, none⟩ = some (.slice Aw nw cw) := ⟨h.blk.lt, h.blk.cell 0, h.blk.cell 1, h.blk.cell 2⟩
theorem own_lit1 (w : World) (b : Nat) (hb : b ≤ w.heap.size) (v : Wd) : (w.alloc (.cells #[.string ⟨v.toArray⟩] 9)).ownsRow b 9 1 (.slice (some ⟨w.heap.size, 0, none⟩) 1 1) 1 [.string ⟨v.toArray⟩] :=
  World.ownsRow_lit w #[.string ⟨v.toArray⟩] 1 hb (by simp only [maxLen]; omega) rfl
theorem strs_oneQ (l : List Wd) : ∀ u ∈ l.map strV, u.oneCell' = true := by
  intro u hu
  obtain ⟨z, _, rfl⟩ := List.mem_map.1 hu
  rfl
end Go.Proofs.YtfnlddloalineaaGreatDoor
namespace Go.Proofs.YtfnlddloalineaaGreatDoor
open Go.RowKit
set_option linter.unusedVariables false
set_option linter.unusedSimpArgs false
set_option maxRecDepth 100000
theorem own_apart {v v' : Value} {M : Nat} (h : ∀ k, v.ownBlock = some k → k < M) (h' : ∀ k, v'.ownBlock = some k → M ≤ k) : v.ownBlock = none ∨ v.ownBlock ≠ v'.ownBlock := by
  cases h4 : v.ownBlock with
  | none => exact .inl rfl
  | some b => exact .inr (fun e => by have := h b h4; have := h' b e.symm; omega)
theorem wpAnyH_weak {P : Program} {md : Region.Mode} {ops : Array Oper} {Q : Exit → Act → World → Prop} {S S2 : World → Prop} (h : ∀ w, S2 w → S w) : ∀ (fuel : Nat) (listed : Array Bool) (a : Act) (w : World), wpAnyH P md ops Q S2 fuel listed a w → wpAnyH P md ops Q S fuel listed a w
  | 0, _, _, _, hh => hh
  | fuel + 1, _, _, _, hh => ⟨hh.1, fun i hi => wpOp_mono (fun a' w' h' => ⟨h _ h'.1, wpAnyH_weak h fuel _ a' w' h'.2⟩) (hh.2 i hi)⟩
theorem whP_len : ∀ (l : List SCond), (whP l).length = 4 * l.length := by
  intro l
  cases l with
  | nil => rfl
  | cons c r =>
    have h : ∀ (r : List SCond), (r.flatMap (cW andW)).length = 4 * r.length := by
      intro r
      induction r with
      | nil => rfl
      | cons x r ih => rw [List.flatMap_cons, List.length_append, ih]; simp only [cW, List.length_cons, List.length_nil]; omega
    show (cW whereW c ++ r.flatMap (cW andW)).length = _
    rw [List.length_append, h]; simp only [cW, List.length_cons, List.length_nil]; omega
set_option maxHeartbeats 8000000 in
theorem print_yes (q : SQry) (Ab Aw : Option Addr) (nb nw cb cw B : Nat) (w : World) (hE : Env w) (hq : OkQ q) (hb : RdBy w B Ab q.by_) (hnb : nb = q.by_.length) (hcb : nb ≤ cb) (hw : Reads w B 3 Aw nw (cndC q.wh)) (hB : B ≤ w.heap.size) (hn : nb ≤ 10000) (hl : (prT q).length ≤ 100000000) (hl2 : (Lib.join (q.by_.map fdW) [44]).length ≤ 100000000) :
    Calls Tryz.prog 17 #[.agg #[.int .i64 q.verb, .slice Ab nb cb, .slice Aw nw cw]] w fun e w' => e = .returned (.tuple #[.string ⟨(prT q).toArray⟩, .int .i64 0]) ∧ Below w.heap.size w w' := by
  have hnw : q.wh.length = nw := by have := hw.1; rw [cndC_len] at this; omega
  have hwl : nw ≤ 20 := by have := hq.wl; omega
  have hb0 := (Below.refl w.heap.size w).alloc (Nat.le_refl _) (.cells (#[.int .i64 q.verb, .slice Ab nb cb, .slice Aw nw cw] : Array Value) 26)
  have hk0 := Blk.new w 26 #[.int .i64 q.verb, .slice Ab nb cb, .slice Aw nw cw]
  obtain ⟨wz, hwz⟩ : ∃ wz, w.alloc (.cells (#[.int .i64 q.verb, .slice Ab nb cb, .slice Aw nw cw] : Array Value) 26) = wz := ⟨_, rfl⟩
  rw [hwz] at hb0 hk0
  have hs0 : PrS w q Ab Aw nb nw cb cw B [] (.slice none 0 0) wz := ⟨hk0, hb.low hB (Nat.le_refl _) hb0, hw.lowQ hB (Nat.le_refl _) hb0, World.ownsRow_nil _ _ _ _, hb0⟩
  obtain ⟨hlt0, c0, c1, c2⟩ := hs0.cells
  have HV := Lib.hid (valid_yes q Ab Aw nb nw cb cw B wz hq hs0.rby hnb hcb hs0.rwh (by omega) hn)
  have HS0 := Lib.hid hs0
  have HNB := Lib.hid hnb
  have HNW := Lib.hid hnw
  have HQ := Lib.hid hq
  have HE := Lib.hid hE
  have HLT : Hid ((prT q).length ≤ 100000000 ∧ (Lib.join (q.by_.map fdW) [44]).length ≤ 100000000) := ⟨hl, hl2⟩
  obtain ⟨vk, hvk⟩ : ∃ vk : Nat, q.verb = (vk : Int) := ⟨q.verb.toNat, by have := hq.v0; omega⟩
  have hvk2 : vk < 2 := by have := hq.v1; omega
  have HVK : Hid (vbL.getD q.verb.toNat [] = vbL.getD vk []) := by show _ = _; rw [hvk]; rfl
  rw [hvk] at HV c0 ⊢
  have HVE := Lib.hid hvk
  clear hb0 hk0 hs0 hb hw hnb hnw hq hE hvk hl hl2
  rw [HVE.out] at hwz
  go_enter Tryz.func17, Tryz.ntmps17
  go_wp2_with fail
  refine HV.out.mono ?_
  rintro e w1 ⟨rfl, hb1⟩
  have hs1 := HS0.out.same hB hb1
  obtain ⟨hlt1, d0, d1, d2⟩ := hs1.cells
  rw [HVE.out] at d0
  have HS1 := Lib.hid hs1
  clear hb1 HS0 HV c0 c1 c2 hwz hs1
  go_upto_region 3 with fail
  go_cut [4] from 11 (fun s4 x => PrS w q Ab Aw nb nw cb cw B [vbL.getD vk []] s4 x)
  case first =>
    have KC := word_cell (Blk.new w1 9 (vbL.map strV).toArray) (show vk < vbL.length from hvk2)
    have hvi : (vk : Int) < 2 := by omega
    generalize vbL.getD vk [] = tx at *
    have h1 := HS1.out.alloc hB (.cells (vbL.map strV).toArray 9)
    have h2 := h1.alloc hB (.cells #[.string ⟨tx.toArray⟩] 9)
    have hr := own_lit1 (w1.alloc (.cells (vbL.map strV).toArray 9)) (w.heap.size + 1) (by rw [World.size_alloc]; omega) tx
    have HREL : Hid (PrS w q Ab Aw nb nw cb cw B [tx] (.slice (some ⟨w1.heap.size + 1, 0, none⟩) 1 1) (((w1.alloc (.cells (vbL.map strV).toArray 9)).alloc (.cells #[.string ⟨tx.toArray⟩] 9)).drew)) := by
      show PrS _ _ _ _ _ _ _ _ _ _ _ _
      rw [World.size_alloc] at hr
      exact ((⟨h2.blk, h2.rby, h2.rwh, hr, h2.below⟩ : PrS w q Ab Aw nb nw cb cw B [tx] (.slice (some ⟨w1.heap.size + 1, 0, none⟩) 1 1) _)).drew hB
    clear h1 h2 hr
    go_region_with (go_at_call 43; refine (vb_any _).mono ?_; rintro e wx ⟨rfl, rfl⟩)
    all_goals
      go_wp2_with fail
      go_meet
      case rel => exact HREL.out
  case rest =>
    have hs2 := hcut
    obtain ⟨hlt2, e0, e1, e2⟩ := hs2.cells
    have HS2 := Lib.hid hs2
    clear hs2 hcut HS1 d0 d1 d2
    obtain ⟨qn, hqn⟩ : ∃ qn, decide (0 < nb) = qn := ⟨_, rfl⟩
    have HQN := Lib.hid hqn
    go_upto_if 23 with fail
    clear hqn
    go_cut [4] from 11 (fun s4 x => PrS w q Ab Aw nb nw cb cw B (vbL.getD vk [] :: byP q.by_) s4 x)
    case first =>
      cases qn with
      | false =>
        have HREL : Hid (PrS w q Ab Aw nb nw cb cw B (vbL.getD vk [] :: byP q.by_) u4 wc) := by
          have h0 : q.by_ = [] := by
            have := HQN.out
            rw [decide_eq_false_iff_not] at this
            have h2 := HNB.out
            exact List.eq_nil_of_length_eq_zero (by omega)
          show PrS _ _ _ _ _ _ _ _ _ _ _ _
          rw [show byP q.by_ = [] by unfold byP; exact if_pos h0]
          exact HS2.out
        go_wp2_with fail
        go_meet
        case rel => exact HREL.out
      | true =>
        have hn0 : 0 < nb := by
          have := HQN.out
          rw [decide_eq_true_eq] at this
          omega
        obtain ⟨A4, c4, rfl⟩ := own_slice (n := 1) HS2.out.row
        have H4 := Lib.hid (own_lt HS2.out.row)
        obtain ⟨M, hM⟩ : ∃ M, wc.heap.size = M := ⟨_, rfl⟩
        rw [hM] at H4
        have HMX := Lib.hid hM
        have hMw : w.heap.size < M := by omega
        clear hM
        obtain ⟨i0, hi0, hz0, hz1, hz2⟩ := info_parts info_strQ
        clear HQN
        go_wp2_with fail
        go_loopw [5, 27] (fun v5 i x => ∃ k : Nat, k ≤ nb ∧ i = .int .i64 k ∧ PrS w q Ab Aw nb nw cb cw B [vbL.getD vk []] (.slice A4 1 c4) x ∧ x.ownsRow M 9 1 v5 k (((q.by_.take k).map fdW).map strV) ∧ M ≤ x.heap.size) (fun _ i _ => nb - (intOf i).toNat)
        case atStart => exact ⟨0, by omega, rfl, HS2.out, World.ownsRow_nil _ _ _ _, by rw [HMX.out]; exact Nat.le_refl _⟩
        case round =>
          clear HS2 e0 e1 e2 hlt2
          obtain ⟨k, hk, rfl, hs, hown, hMr⟩ := hrel
          obtain ⟨A5, c5, rfl⟩ := own_slice hown
          obtain ⟨hltr, g0, g1, g2⟩ := hs.cells
          have HS := Lib.hid hs
          have HO := Lib.hid hown
          by_cases hlt : k < nb
          · have k3 : decide ((k : Int) < (nb : Int)) = true := by rw [decide_eq_true_eq]; omega
            have k4 : (k : Int) < (nb : Int) := by omega
            have hkl : k < q.by_.length := by have := HNB.out; omega
            obtain ⟨g, o, rfl, hg, hc⟩ := hs.rby (by omega)
            have y3 := hc k hkl
            obtain ⟨fk, hfk, hfk2⟩ : ∃ fk : Nat, q.by_.getD k 0 = (fk : Int) ∧ fk < 5 := by
              have := HQ.out.br k hkl
              exact ⟨(q.by_.getD k 0).toNat, by omega, by omega⟩
            rw [hfk] at y3
            have HST : Hid (((q.by_.take (k + 1)).map fdW).map strV = ((q.by_.take k).map fdW).map strV ++ [.string ⟨(fdL.getD fk []).toArray⟩]) := by
              show _ = _
              rw [List.take_succ_eq_append_getElem hkl, List.map_append, List.map_append]
              have e : q.by_[k] = (fk : Int) := by rw [← hfk]; simp [List.getD, hkl]
              rw [e]; rfl
            have KC := word_cell (Blk.new wr 9 (fdL.map strV).toArray) (show fk < fdL.length from hfk2)
            have hfi : (fk : Int) < 5 := by omega
            have hgr : g < wr.heap.size := by omega
            generalize fdL.getD fk [] = tx at *
            have HRO : Hid (Reads ((wr.alloc (.cells (fdL.map strV).toArray 9)).alloc (.cells #[.string ⟨tx.toArray⟩] 9)) (wr.heap.size + 1 + 1) 1 (some ⟨wr.heap.size + 1, 0, none⟩) 1 [.string ⟨tx.toArray⟩]) := by
              have := reads_one (wr.alloc (.cells (fdL.map strV).toArray 9)) #[.string ⟨tx.toArray⟩] 9 1 rfl
              rw [World.size_alloc] at this
              exact this
            have H5 := Lib.hid (own_base hown)
            have HNE : Hid ((Value.slice A4 1 c4).ownBlock = none ∨ (Value.slice A4 1 c4).ownBlock ≠ (Value.slice A5 k c5).ownBlock) := own_apart H4.out H5.out
            have H5w : Hid (∀ b, (Value.slice A5 k c5).ownBlock = some b → w.heap.size < b) := fun b hb => by have := H5.out b hb; omega
            clear hs hown hkl hc
            go_wp2_with fail
            refine (fd_any _).mono ?_
            rintro e wx ⟨rfl, rfl⟩
            go_wp2_with (at_builtin; refine wpList_append_any _ rfl (.tmp 31) (.tmp 36) _ rfl M 9 i0 _ 1 16 Tryz.underlying92 hi0 hz0 hz1 hz2 rfl (by omega) _ k (((q.by_.take k).map fdW).map strV) rfl ((HO.out.alloc _).alloc _) (wr.heap.size + 1 + 1) (some ⟨wr.heap.size + 1, 0, none⟩) 1 1 [.string ⟨tx.toArray⟩] rfl HRO.out (strs_oneQ [tx]) (by simp only [maxLen]; omega) (by omega) (by simp only [World.size_alloc]; omega) ?_; intro v6 w6 hown6 hg6 hat6)
            go_roundw
            case rel => exact ⟨k + 1, by omega, by go_num, ((HS.out.alloc hB _).alloc hB _).grown hB hg6 HNE.out H5w.out, by rw [HST.out]; exact hown6, by have := hg6.size; simp only [World.size_alloc] at this; omega⟩
            case measure => simp [intOf]; omega
          · have k3 : decide ((k : Int) < (nb : Int)) = false := by rw [decide_eq_false_iff_not]; omega
            have hk' : k = nb := by omega
            subst hk'
            have hrow : wr.ownsRow M 9 1 (.slice A5 k c5) (q.by_.map fdW).length ((q.by_.map fdW).map strV) := by
              have := HO.out
              rw [List.take_of_length_le (by have := HNB.out; omega)] at this
              rw [List.length_map, ← HNB.out]
              exact this
            have HJ := Lib.hid (join_own (q.by_.map fdW) [44] (.slice A5 k c5) M wr hrow (by rw [List.length_map, ← HNB.out]; omega) (by have := HLT.out.2; omega))
            have HBP : Hid (byP q.by_ = [byW, Lib.join (q.by_.map fdW) [44]]) := by
              show _ = _
              unfold byP
              exact if_neg (fun e => by have := HNB.out; rw [e] at this; simp at this; omega)
            generalize Lib.join (q.by_.map fdW) [44] = J at *
            clear hs hown hrow k3
            go_wp2_with fail
            refine HJ.out.mono ?_
            rintro e w5 ⟨rfl, hb5⟩
            have hs5 := HS.out.same hB hb5
            have hM5 : M ≤ w5.heap.size := by have := hb5.size; omega
            have HS5 := Lib.hid hs5
            have HRO : Hid (Reads (w5.alloc (.cells #[.string ⟨byW.toArray⟩, .string ⟨J.toArray⟩] 9)) (w5.heap.size + 1) 1 (some ⟨w5.heap.size, 0, none⟩) 2 [.string ⟨byW.toArray⟩, .string ⟨J.toArray⟩]) := reads_lit w5 #[.string ⟨byW.toArray⟩, .string ⟨J.toArray⟩] 9
            clear hb5 hs5
            go_wp2_with (at_builtin; refine wpList_append_any _ rfl (.tmp 39) (.tmp 42) _ rfl (w.heap.size + 1) 9 i0 _ 1 16 Tryz.underlying92 hi0 hz0 hz1 hz2 rfl (by omega) _ 1 ([vbL.getD vk []].map strV) rfl (HS5.out.row.alloc _) (w5.heap.size + 1) (some ⟨w5.heap.size, 0, none⟩) 2 2 [.string ⟨byW.toArray⟩, .string ⟨J.toArray⟩] rfl HRO.out (strs_oneQ [byW, J]) (by simp only [maxLen]; omega) (by omega) (by simp only [World.size_alloc]; omega) ?_; intro v6 w6 hown6 hg6 hat6)
            go_meet
            case rel =>
              rw [HBP.out]
              exact (HS5.out.alloc hB _).push (news := [byW, J]) hB hg6 hown6
    case rest =>
      have HS3 := Lib.hid hcut
      obtain ⟨A4, c4, rfl⟩ := own_slice hcut.row
      obtain ⟨hlt3, m0, m1, m2⟩ := hcut.cells
      clear hcut HS2 e0 e1 e2 hlt2 HQN
      obtain ⟨hd, hhd⟩ : ∃ hd, vbL.getD vk [] :: byP q.by_ = hd := ⟨_, rfl⟩
      have HHD : Hid (hdP q = hd) := by show _ = _; rw [← hhd]; unfold hdP; rw [HVK.out]
      have HHL : Hid (hd.length ≤ 3) := by
        show _ ≤ _
        rw [← hhd]
        unfold byP
        split <;> simp
      rw [hhd] at HS3 ⊢
      clear hhd
      obtain ⟨i0, hi0, hz0, hz1, hz2⟩ := info_parts info_strQ
      go_wp2_with fail
      go_loopw [4, 47] (fun v4 i x => ∃ k : Nat, k ≤ nw ∧ i = .int .i64 k ∧ PrS w q Ab Aw nb nw cb cw B (hd ++ whP (q.wh.take k)) v4 x) (fun _ i _ => nw - (intOf i).toNat)
      case atStart => exact ⟨0, by omega, rfl, by rw [List.take_zero]; show PrS _ _ _ _ _ _ _ _ _ (hd ++ []) _ _; rw [List.append_nil]; exact HS3.out⟩
      case round =>
        clear HS3 m0 m1 m2 hlt3
        obtain ⟨k, hk, rfl, hs⟩ := hrel
        have HWL : Hid ((hd ++ whP (q.wh.take k)).length ≤ 200) := by
          have h1 := HHL.out
          have h2 := whP_len (q.wh.take k)
          have h3 : (q.wh.take k).length ≤ nw := by rw [List.length_take]; omega
          show _ ≤ _
          rw [List.length_append]; omega
        obtain ⟨WS, hWS⟩ : ∃ WS, hd ++ whP (q.wh.take k) = WS := ⟨_, rfl⟩
        rw [hWS] at hs HWL
        have HWS := Lib.hid hWS
        clear hWS
        obtain ⟨A4, c4, rfl⟩ := own_slice hs.row
        obtain ⟨hltr, g0, g1, g2⟩ := hs.cells
        have HS := Lib.hid hs
        by_cases hlt : k < nw
        · have k3 : decide ((k : Int) < (nw : Int)) = true := by rw [decide_eq_true_eq]; omega
          obtain ⟨ad, rfl, had, b0, b1, b2⟩ := hs.rwh.cnd_at hlt
          have hkl : k < q.wh.length := by have := HNW.out; omega
          have HCN := Lib.hid (HQ.out.cn (q.wh.getD k default) (by rw [List.getD_eq_getElem?_getD, List.getElem?_eq_getElem hkl]; exact List.getElem_mem _))
          have HST := Lib.hid (whP_step hkl)
          generalize q.wh.getD k default = cc at *
          obtain ⟨f, o, v⟩ := cc
          simp only [] at b0 b1 b2
          obtain ⟨fk, rfl⟩ : ∃ fk : Nat, f = (fk : Int) := ⟨f.toNat, by have := HCN.out.1; simp only [] at this; omega⟩
          obtain ⟨ok, rfl⟩ : ∃ ok : Nat, o = (ok : Int) := ⟨o.toNat, by have := HCN.out.2.2.1; simp only [] at this; omega⟩
          have hf5 : fk < 5 := by have := HCN.out.2.1; simp only [] at this; omega
          have ho6 : ok < 6 := by have := HCN.out.2.2.2.1; simp only [] at this; omega
          have hadl : ad.block < wr.heap.size := by omega
          clear hs hkl
          obtain ⟨qk, hqk⟩ : ∃ qk, ((k : Int) == 0) = qk := ⟨_, rfl⟩
          have HQK := Lib.hid hqk
          go_upto_if 53 with fail
          clear hqk b0 b1 b2 g0 g1 g2
          have HP0 := Lib.hid (HS.out.alloc hB (.cells (#[.int .i64 (fk : Int), .int .i64 (ok : Int), .int .i64 v] : Array Value) 95))
          have HBX0 := Lib.hid (Blk.new wr 95 #[.int .i64 (fk : Int), .int .i64 (ok : Int), .int .i64 v])
          obtain ⟨x0, hx0⟩ : ∃ x0, wr.alloc (.cells (#[.int .i64 (fk : Int), .int .i64 (ok : Int), .int .i64 v] : Array Value) 95) = x0 := ⟨_, rfl⟩
          rw [hx0] at HP0 HBX0 ⊢
          clear hx0
          obtain ⟨J, hJ⟩ : ∃ J, (if k = 0 then whereW else andW) = J := ⟨_, rfl⟩
          rw [hJ] at HST
          have HJ := Lib.hid hJ
          clear hJ
          go_cut [10] from 54 to 69 (fun s10 x' => s10 = .string ⟨J.toArray⟩ ∧ x' = x0)
          case first =>
            cases qk with
            | true =>
              have HJ2 : Hid (whereW = J) := by
                have := HQK.out; rw [beq_iff_eq] at this; show _ = _; rw [← HJ.out, if_pos (by omega)]
              go_wp2_with fail
              go_meet
              case rel => exact ⟨by rw [← HJ2.out]; rfl, rfl⟩
            | false =>
              have HJ2 : Hid (andW = J) := by
                have := HQK.out; rw [beq_eq_false_iff_ne] at this; show _ = _; rw [← HJ.out, if_neg (by omega)]
              go_wp2_with fail
              go_meet
              case rel => exact ⟨by rw [← HJ2.out]; rfl, rfl⟩
          case rest =>
            obtain ⟨rfl, rfl⟩ := hcut
            go_upto_region 18 with fail
            obtain ⟨G, hG⟩ : ∃ G, wr.heap.size = G := ⟨_, rfl⟩
            rw [hG] at HBX0 ⊢
            have hGx : G < wc.heap.size := HBX0.out.lt
            obtain ⟨z0, z1, z2⟩ := rd_cells HBX0.out
            have hfi : (fk : Int) < 5 := by omega
            have hoi : (ok : Int) < 6 := by omega
            have HE2 : Hid (Env ((wc.alloc (.cells (fdL.map strV).toArray 9)).alloc (.cells (opL.map strV).toArray 9)).drew) := HE.out.after (((HP0.out.alloc hB _).alloc hB _).drew hB).below
            have HTX : Hid (Calls Tryz.prog 47 #[.agg #[.int .i64 (fk : Int), .int .i64 (ok : Int), .int .i64 v]] ((wc.alloc (.cells (fdL.map strV).toArray 9)).alloc (.cells (opL.map strV).toArray 9)).drew fun e w' => e = .returned (.string ⟨(valT ⟨fk, ok, v⟩).toArray⟩) ∧ Below ((wc.alloc (.cells (fdL.map strV).toArray 9)).alloc (.cells (opL.map strV).toArray 9)).drew.heap.size ((wc.alloc (.cells (fdL.map strV).toArray 9)).alloc (.cells (opL.map strV).toArray 9)).drew w') := text_yes ⟨fk, ok, v⟩ _ HCN.out HE2.out
            have HVT : Hid (cW J ⟨fk, ok, v⟩ = [J, fdL.getD fk [], opL.getD ok [], valT ⟨fk, ok, v⟩]) := rfl
            generalize valT ⟨fk, ok, v⟩ = VT at *
            have KF1 := word_cell (Blk.new wc 9 (fdL.map strV).toArray) (show fk < fdL.length from hf5)
            have KF2 := word_cell ((Blk.new wc 9 (fdL.map strV).toArray).alloc (.cells (opL.map strV).toArray 9)) (show fk < fdL.length from hf5)
            have KO2 : ((wc.alloc (.cells (fdL.map strV).toArray 9)).alloc (.cells (opL.map strV).toArray 9)).cell? ⟨wc.heap.size + 1, ok, none⟩ = some (.string ⟨(opL.getD ok []).toArray⟩) := by
              have h := Blk.new (wc.alloc (.cells (fdL.map strV).toArray 9)) 9 (opL.map strV).toArray
              rw [World.size_alloc] at h
              exact word_cell h (show ok < opL.length from ho6)
            generalize fdL.getD fk [] = FN at *
            generalize opL.getD ok [] = ON at *
            have HAF : Hid (∀ wy, Below ((wc.alloc (.cells (fdL.map strV).toArray 9)).alloc (.cells (opL.map strV).toArray 9)).drew.heap.size ((wc.alloc (.cells (fdL.map strV).toArray 9)).alloc (.cells (opL.map strV).toArray 9)).drew wy → PrS w q Ab (some ad) nb nw cb cw B WS (.slice A4 WS.length c4) wy ∧ Blk wy G 95 #[.int .i64 (fk : Int), .int .i64 (ok : Int), .int .i64 v] ∧ wc.heap.size + 2 ≤ wy.heap.size ∧ wy.cell? ⟨wc.heap.size, fk, none⟩ = some (.string ⟨FN.toArray⟩) ∧ wy.cell? ⟨wc.heap.size + 1, ok, none⟩ = some (.string ⟨ON.toArray⟩)) := fun wy hby =>
              ⟨(((HP0.out.alloc hB _).alloc hB _).drew hB).same hB hby, (((HBX0.out.alloc _).alloc _).drew).below hby (by simp only [World.size_drew, World.size_alloc]; omega), by have := hby.size; simp only [World.size_drew, World.size_alloc] at this; omega, (hby.cell (by simp only [World.size_drew, World.size_alloc]; omega)).trans KF2, (hby.cell (by simp only [World.size_drew, World.size_alloc]; omega)).trans KO2⟩
            have HWL2 : WS.length ≤ 200 := HWL.out
            -- by hand
            have HS1a : Hid ((fun w' : World => wc.heap.size ≤ w'.heap.size ∧ w'.cell? ⟨G, 0, none⟩ = some (.int .i64 (fk : Int)) ∧ w'.cell? ⟨G, 1, none⟩ = some (.int .i64 (ok : Int)) ∧ w'.cell? ⟨G, 2, none⟩ = some (.int .i64 v)) (wc.alloc (.cells (fdL.map strV).toArray 9)).drew) := ⟨by simp only [World.size_drew, World.size_alloc]; omega, (((HBX0.out.alloc _).drew).cell 0), (((HBX0.out.alloc _).drew).cell 1), (((HBX0.out.alloc _).drew).cell 2)⟩
            have HS2a : Hid ((fun w' : World => (wc.heap.size ≤ w'.heap.size ∧ w'.cell? ⟨G, 0, none⟩ = some (.int .i64 (fk : Int)) ∧ w'.cell? ⟨G, 1, none⟩ = some (.int .i64 (ok : Int)) ∧ w'.cell? ⟨G, 2, none⟩ = some (.int .i64 v)) ∧ w'.cell? ⟨wc.heap.size, fk, none⟩ = some (.string ⟨FN.toArray⟩)) ((wc.alloc (.cells (fdL.map strV).toArray 9)).alloc (.cells (opL.map strV).toArray 9)).drew) := ⟨⟨by simp only [World.size_drew, World.size_alloc]; omega, ((((HBX0.out.alloc _).alloc _).drew).cell 0), ((((HBX0.out.alloc _).alloc _).drew).cell 1), ((((HBX0.out.alloc _).alloc _).drew).cell 2)⟩, KF2⟩
            have HS3a : Hid (∀ wy, Blk wy G 95 #[.int .i64 (fk : Int), .int .i64 (ok : Int), .int .i64 v] → wc.heap.size ≤ wy.heap.size → wy.cell? ⟨wc.heap.size, fk, none⟩ = some (.string ⟨FN.toArray⟩) → wy.cell? ⟨wc.heap.size + 1, ok, none⟩ = some (.string ⟨ON.toArray⟩) → (fun w' : World => ((wc.heap.size ≤ w'.heap.size ∧ w'.cell? ⟨G, 0, none⟩ = some (.int .i64 (fk : Int)) ∧ w'.cell? ⟨G, 1, none⟩ = some (.int .i64 (ok : Int)) ∧ w'.cell? ⟨G, 2, none⟩ = some (.int .i64 v)) ∧ w'.cell? ⟨wc.heap.size, fk, none⟩ = some (.string ⟨FN.toArray⟩)) ∧ w'.cell? ⟨wc.heap.size + 1, ok, none⟩ = some (.string ⟨ON.toArray⟩)) wy) := fun wy hb h1 h2 h3 => ⟨⟨⟨h1, hb.cell 0, hb.cell 1, hb.cell 2⟩, h2⟩, h3⟩
            have H4 := Lib.hid (own_lt HP0.out.row)
            refine wp_region_held_drew (S := fun w' => wc.heap.size ≤ w'.heap.size ∧ w'.cell? ⟨G, 0, none⟩ = some (.int .i64 (fk : Int)) ∧ w'.cell? ⟨G, 1, none⟩ = some (.int .i64 (ok : Int)) ∧ w'.cell? ⟨G, 2, none⟩ = some (.int .i64 v)) (by kernel_rfl) ⟨Nat.le_refl _, z0, z1, z2⟩ (fun hHeld => ?_)
            refine wpAnyH_take (i := 0) (v := ?v0) rfl (by kernel_rfl) (by kernel_rfl) (by kernel_rfl) (fun _ _ _ h => h) (Or.inl ⟨by rfl, ?hy0⟩) (by assumption) ?rest0
            case hy0 => (intro w hSw; (try dsimp only at hSw); go_simp; (try with_reducible rfl))
            (try simp only [Act.put, List.setIfInBounds_toArray, List.set_cons_zero, List.set_cons_succ, List.getElem_toArray, List.getElem_cons_zero, List.getElem_cons_succ])
            refine wpAnyH_take (i := 1) (v := ?v1) rfl (by kernel_rfl) (by kernel_rfl) (by kernel_rfl) (fun _ _ _ h => h) (Or.inl ⟨by rfl, ?hy1⟩) (by assumption) ?rest1
            case hy1 => (intro w hSw; (try dsimp only at hSw); go_simp; (try with_reducible rfl))
            (try simp only [Act.put, List.setIfInBounds_toArray, List.set_cons_zero, List.set_cons_succ, List.getElem_toArray, List.getElem_cons_zero, List.getElem_cons_succ])
            refine wpAnyH_take (i := 3) (v := ?v3) rfl (by kernel_rfl) (by kernel_rfl) (by kernel_rfl) (fun _ _ _ h => h) (Or.inl ⟨by rfl, ?hy3⟩) (by assumption) ?rest3
            case hy3 => (intro w hSw; (try dsimp only at hSw); go_simp; (try with_reducible rfl))
            (try simp only [Act.put, List.setIfInBounds_toArray, List.set_cons_zero, List.set_cons_succ, List.getElem_toArray, List.getElem_cons_zero, List.getElem_cons_succ])
            refine wpAnyH_take (i := 4) (v := ?v4) rfl (by kernel_rfl) (by kernel_rfl) (by kernel_rfl) (fun _ _ _ h => h) (Or.inl ⟨by rfl, ?hy4⟩) (by assumption) ?rest4
            case hy4 => (intro w hSw; (try dsimp only at hSw); go_simp; (try with_reducible rfl))
            (try simp only [Act.put, List.setIfInBounds_toArray, List.set_cons_zero, List.set_cons_succ, List.getElem_toArray, List.getElem_cons_zero, List.getElem_cons_succ])
            refine wpAnyH_take (i := 8) (v := ?v8) rfl (by kernel_rfl) (by kernel_rfl) (by kernel_rfl) (fun _ _ _ h => h) (Or.inl ⟨by rfl, ?hy8⟩) (by assumption) ?rest8
            case hy8 => (intro w hSw; (try dsimp only at hSw); go_simp; (try with_reducible rfl))
            (try simp only [Act.put, List.setIfInBounds_toArray, List.set_cons_zero, List.set_cons_succ, List.getElem_toArray, List.getElem_cons_zero, List.getElem_cons_succ])
            refine wpAnyH_take (i := 9) (v := ?v9) rfl (by kernel_rfl) (by kernel_rfl) (by kernel_rfl) (fun _ _ _ h => h) (Or.inl ⟨by rfl, ?hy9⟩) (by assumption) ?rest9
            case hy9 => (intro w hSw; (try dsimp only at hSw); go_simp; (try with_reducible rfl))
            (try simp only [Act.put, List.setIfInBounds_toArray, List.set_cons_zero, List.set_cons_succ, List.getElem_toArray, List.getElem_cons_zero, List.getElem_cons_succ])
            refine wpAnyH_take (i := 12) (v := ?v12) rfl (by kernel_rfl) (by kernel_rfl) (by kernel_rfl) (fun _ _ _ h => h) (Or.inl ⟨by rfl, ?hy12⟩) (by assumption) ?rest12
            case hy12 => (intro w hSw; (try dsimp only at hSw); go_simp; (try with_reducible rfl))
            (try simp only [Act.put, List.setIfInBounds_toArray, List.set_cons_zero, List.set_cons_succ, List.getElem_toArray, List.getElem_cons_zero, List.getElem_cons_succ])
            refine wpAnyH_ready (rs := [2]) (by kernel_rfl) (by simp) ?_
            refine AllReadyH.cons rfl (fun K hK => ?_) AllReadyH.nil
            go_simp
            go_wp2_with (go_at_call 44; refine (fd_any _).mono ?_; rintro e wx ⟨rfl, rfl⟩)
            refine hK.out _ _ ?hS2 (fun hHeld => ?_)
            case hS2 => exact HS1a.out
            clear hK K
            refine wpAnyH_weak (S2 := fun w' => (wc.heap.size ≤ w'.heap.size ∧ w'.cell? ⟨G, 0, none⟩ = some (.int .i64 (fk : Int)) ∧ w'.cell? ⟨G, 1, none⟩ = some (.int .i64 (ok : Int)) ∧ w'.cell? ⟨G, 2, none⟩ = some (.int .i64 v)) ∧ w'.cell? ⟨wc.heap.size, fk, none⟩ = some (.string ⟨FN.toArray⟩)) (fun w h => h.1) _ _ _ _ ?_
            have hHeld2 : (fun w' : World => (wc.heap.size ≤ w'.heap.size ∧ w'.cell? ⟨G, 0, none⟩ = some (.int .i64 (fk : Int)) ∧ w'.cell? ⟨G, 1, none⟩ = some (.int .i64 (ok : Int)) ∧ w'.cell? ⟨G, 2, none⟩ = some (.int .i64 v)) ∧ w'.cell? ⟨wc.heap.size, fk, none⟩ = some (.string ⟨FN.toArray⟩)) (wc.alloc (.cells (fdL.map strV).toArray 9)).drew := ⟨hHeld, KF1⟩
            clear hHeld
            refine wpAnyH_take (i := 5) (v := ?v5) rfl (by kernel_rfl) (by kernel_rfl) (by kernel_rfl) (fun _ _ _ h => h) (Or.inl ⟨by rfl, ?hy5⟩) (by assumption) ?rest5
            case hy5 => (intro w hSw; (try dsimp only at hSw); go_simp; (try with_reducible rfl))
            (try simp only [Act.put, List.setIfInBounds_toArray, List.set_cons_zero, List.set_cons_succ, List.getElem_toArray, List.getElem_cons_zero, List.getElem_cons_succ])
            refine wpAnyH_take (i := 6) (v := ?v6) rfl (by kernel_rfl) (by kernel_rfl) (by kernel_rfl) (fun _ _ _ h => h) (Or.inl ⟨by rfl, ?hy6⟩) (by assumption) ?rest6
            case hy6 => (intro w hSw; (try dsimp only at hSw); go_simp; (try with_reducible rfl))
            (try simp only [Act.put, List.setIfInBounds_toArray, List.set_cons_zero, List.set_cons_succ, List.getElem_toArray, List.getElem_cons_zero, List.getElem_cons_succ])
            refine wpAnyH_ready (rs := [7]) (by kernel_rfl) (by simp) ?_
            refine AllReadyH.cons rfl (fun K hK => ?_) AllReadyH.nil
            go_simp
            go_wp2_with (go_at_call 46; refine (op_any _).mono ?_; rintro e wx ⟨rfl, rfl⟩)
            refine hK.out _ _ ?hS7 (fun hHeld => ?_)
            case hS7 => exact HS2a.out
            clear hK K hHeld2
            refine wpAnyH_weak (S2 := fun w' => ((wc.heap.size ≤ w'.heap.size ∧ w'.cell? ⟨G, 0, none⟩ = some (.int .i64 (fk : Int)) ∧ w'.cell? ⟨G, 1, none⟩ = some (.int .i64 (ok : Int)) ∧ w'.cell? ⟨G, 2, none⟩ = some (.int .i64 v)) ∧ w'.cell? ⟨wc.heap.size, fk, none⟩ = some (.string ⟨FN.toArray⟩)) ∧ w'.cell? ⟨wc.heap.size + 1, ok, none⟩ = some (.string ⟨ON.toArray⟩)) (fun w h => h.1) _ _ _ _ ?_
            have hHeld3 : (fun w' : World => ((wc.heap.size ≤ w'.heap.size ∧ w'.cell? ⟨G, 0, none⟩ = some (.int .i64 (fk : Int)) ∧ w'.cell? ⟨G, 1, none⟩ = some (.int .i64 (ok : Int)) ∧ w'.cell? ⟨G, 2, none⟩ = some (.int .i64 v)) ∧ w'.cell? ⟨wc.heap.size, fk, none⟩ = some (.string ⟨FN.toArray⟩)) ∧ w'.cell? ⟨wc.heap.size + 1, ok, none⟩ = some (.string ⟨ON.toArray⟩)) ((wc.alloc (.cells (fdL.map strV).toArray 9)).alloc (.cells (opL.map strV).toArray 9)).drew := ⟨hHeld, KO2⟩
            clear hHeld
            refine wpAnyH_take (i := 10) (v := ?v10) rfl (by kernel_rfl) (by kernel_rfl) (by kernel_rfl) (fun _ _ _ h => h) (Or.inl ⟨by rfl, ?hy10⟩) (by assumption) ?rest10
            case hy10 => (intro w hSw; (try dsimp only at hSw); go_simp; (try with_reducible rfl))
            (try simp only [Act.put, List.setIfInBounds_toArray, List.set_cons_zero, List.set_cons_succ, List.getElem_toArray, List.getElem_cons_zero, List.getElem_cons_succ])
            refine wpAnyH_take (i := 11) (v := ?v11) rfl (by kernel_rfl) (by kernel_rfl) (by kernel_rfl) (fun _ _ _ h => h) (Or.inl ⟨by rfl, ?hy11⟩) (by assumption) ?rest11
            case hy11 => (intro w hSw; (try dsimp only at hSw); go_simp; (try with_reducible rfl))
            (try simp only [Act.put, List.setIfInBounds_toArray, List.set_cons_zero, List.set_cons_succ, List.getElem_toArray, List.getElem_cons_zero, List.getElem_cons_succ])
            refine wpAnyH_ready (rs := [13]) (by kernel_rfl) (by simp) ?_
            refine AllReadyH.cons rfl (fun K hK => ?_) AllReadyH.nil
            go_simp
            go_wp2_with (go_at_call 47; refine HTX.out.mono ?_; rintro e wy ⟨rfl, hby⟩)
            refine hK.out _ _ ?hS13 (fun hHeld => ?_)
            case hS13 => (obtain ⟨_, hBy, hNy, kf, ko⟩ := HAF.out wy hby; exact HS3a.out wy hBy (by omega) kf ko)
            clear hK K hHeld3 hHeld
            obtain ⟨hPy, hBy, hNy, kf, ko⟩ := HAF.out wy hby
            have HPY := Lib.hid hPy
            have HBY := Lib.hid hBy
            clear hPy
            refine wpAnyH_ready (rs := [14]) (by kernel_rfl) (by simp) ?_
            refine AllReadyH.cons rfl (fun K hK => ?_) AllReadyH.nil
            go_simp
            refine hK.out _ _ ?hS14 (fun hHeld => ?_)
            case hS14 => exact HS3a.out _ (HBY.out.alloc _) (by simp only [World.size_alloc]; omega) ((World.cell?_alloc_lt _ _ _ (by simp only []; omega)).trans kf) ((World.cell?_alloc_lt _ _ _ (by simp only []; omega)).trans ko)
            clear hK K hHeld
            refine wpAnyH_ready (rs := [15]) (by kernel_rfl) (by simp) ?_
            refine AllReadyH.cons rfl (fun K hK => ?_) AllReadyH.nil
            (refine step_append_any _ rfl (.tmp 54) (.tmp 68) _ rfl (w.heap.size + 1) 9 i0 _ 1 16 Tryz.underlying92 hi0 hz0 hz1 hz2 rfl (by omega) _ WS.length (WS.map strV) (by simp [Act.eval]) (HPY.out.row.alloc _) (wy.heap.size + 1) (some ⟨wy.heap.size, 0, none⟩) 4 4 [.string ⟨J.toArray⟩, .string ⟨FN.toArray⟩, .string ⟨ON.toArray⟩, .string ⟨VT.toArray⟩] (by simp [Act.eval]) (reads_lit wy #[.string ⟨J.toArray⟩, .string ⟨FN.toArray⟩, .string ⟨ON.toArray⟩, .string ⟨VT.toArray⟩] 9) (strs_oneQ [J, FN, ON, VT]) (by simp only [maxLen]; omega) (by omega) (by simp only [World.size_alloc]; have := HPY.out.below.size; omega) ?_; intro v6 w6 hown6 hg6 hat6)
            refine hK.out _ _ ?hS15 (fun hHeld => ?_)
            case hS15 =>
              have hpos : ∀ j b u, b < wy.heap.size → some b ≠ (Value.slice A4 WS.length c4).ownBlock → wy.cell? ⟨b, j, none⟩ = some u → w6.cell? ⟨b, j, none⟩ = some u := fun j b u hb hne hc => (World.cell?_of_block (hg6.block b (by rw [World.size_alloc]; omega) hne)).trans ((World.cell?_alloc_lt _ _ _ hb).trans hc)
              exact HS3a.out w6 ((HBY.out.alloc (.cells #[.string ⟨J.toArray⟩, .string ⟨FN.toArray⟩, .string ⟨ON.toArray⟩, .string ⟨VT.toArray⟩] 9)).grown hg6 (fun e => own_blk_ne HPY.out.row HBY.out (by decide) e.symm)) (by have := hg6.size; simp only [World.size_alloc] at this; omega) (hpos _ _ _ (by omega) (fun e => by have := H4.out _ e.symm; omega) kf) (hpos _ _ _ (by omega) (fun e => by have := H4.out _ e.symm; omega) ko)
            have HH6 := Lib.hid hHeld
            clear hK K hHeld
            have hF := PrS.push (news := [J, FN, ON, VT]) (HPY.out.alloc hB (.cells #[.string ⟨J.toArray⟩, .string ⟨FN.toArray⟩, .string ⟨ON.toArray⟩, .string ⟨VT.toArray⟩] 9)) hB hg6 hown6
            have HF := Lib.hid hF
            clear hF hown6 hg6 hat6 hBy
            refine wpAnyH_ready (rs := [16]) (by kernel_rfl) (by simp) ?_
            refine AllReadyH.cons rfl (fun K hK => ?_) AllReadyH.nil
            go_simp
            refine hK.out _ _ ?hS16 (fun hHeld => ?_)
            case hS16 => exact HH6.out
            clear hK K
            refine wpAnyH_done (by kernel_rfl) ?_ _
            go_wp2_with fail
            go_roundw
            case rel => exact ⟨k + 1, by omega, by go_num, by rw [HST.out, ← List.append_assoc, HWS.out, HVT.out]; exact HF.out⟩
            case measure => simp [intOf]; omega
        · have k3 : decide ((k : Int) < (nw : Int)) = false := by rw [decide_eq_false_iff_not]; omega
          have hrow : wr.ownsRow (w.heap.size + 1) 9 1 (.slice A4 WS.length c4) WS.length (WS.map strV) := hs.row
          have hWq : Lib.join WS [32] = prT q := by
            unfold prT
            rw [HHD.out, ← HWS.out, List.take_of_length_le (by have := HNW.out; omega)]
          have HJ := Lib.hid (join_own WS [32] (.slice A4 WS.length c4) (w.heap.size + 1) wr hrow (by have := HWL.out; omega) (by rw [hWq]; have := HLT.out.1; omega))
          rw [hWq] at HJ
          have HBW := Lib.hid hs.below
          clear hs hrow hWq
          go_wp2_with fail
          refine HJ.out.mono ?_
          rintro e w5 ⟨rfl, hb5⟩
          have HB5 := Lib.hid (below_two HBW.out hb5)
          clear hb5
          go_wp2_with fail
          refine bodyPost_ret (v := .tuple #[.string ⟨(prT q).toArray⟩, .int .i64 0]) ?_ rfl ⟨rfl, HB5.out⟩
          simp [results, Tryz.results17, go_sem]
end Go.Proofs.YtfnlddloalineaaGreatDoor
