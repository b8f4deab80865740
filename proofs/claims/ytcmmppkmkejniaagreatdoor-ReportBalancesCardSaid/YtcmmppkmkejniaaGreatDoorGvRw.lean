/-
  The program's rows of sections; Position and Income.
-/
import Derived.Test.YtcmmppkmkejniaaGreatDoorGvRi
namespace Go.Proofs.YtcmmppkmkejniaaGreatDoor
open Go.RowKit
set_option linter.unusedVariables false
set_option linter.unusedSimpArgs false
/-- a section of a statement: kind, name, whether its amounts turn their sign -/
structure SSec where
  kind : Int
  name : List UInt8
  neg : Bool
deriving Inhabited
def secC (s : SSec) : List Value := [.int .i64 s.kind, .string ⟨s.name.toArray⟩, .bool s.neg]
def secsC (l : List SSec) : List Value := l.flatMap secC
def secsRows (ch : List SAcc) (l : List SSec) : List SRow := l.flatMap fun s => secRows ch s.name s.kind s.neg
theorem secC_len (s : SSec) : (secC s).length = 3 := rfl
theorem secs_len {w : World} {B n : Nat} {A : Option Addr} {l : List SSec} (h : Reads w B 3 A n (secsC l)) : l.length = n := by
  have := h.1
  unfold secsC at this
  rw [flat_len secC secC_len] at this
  omega
theorem Reads.sec_at {w : World} {B n k : Nat} {A : Option Addr} {l : List SSec} (h : Reads w B 3 A n (secsC l)) (hk : k < n) :
    ∃ ad, A = some ad ∧ ad.block < B ∧ w.cell? (ad.add (k * 3)) = some (.int .i64 (l.getD k default).kind) ∧ w.cell? ⟨(ad.add (k * 3)).block, (ad.add (k * 3)).off + 1, none⟩ = some (.string ⟨(l.getD k default).name.toArray⟩) ∧
      w.cell? ⟨(ad.add (k * 3)).block, (ad.add (k * 3)).off + 2, none⟩ = some (.bool (l.getD k default).neg) := by
  have hl := secs_len h
  obtain ⟨ad, rfl, hb, hc⟩ := h.2 (by omega)
  have hx : ∀ j, j < 3 → ∀ u, (secC (l.getD k default))[j]? = some u → w.cell? (ad.add (k * 3 + j)) = some u := by
    intro j hj u hu
    refine hc _ _ ?_
    unfold secsC
    rw [flat_at secC secC_len (by omega) hj, hu]
  have g0 := hx 0 (by omega) _ rfl
  have g1 := hx 1 (by omega) _ rfl
  have g2 := hx 2 (by omega) _ rfl
  rw [← add_of_add, add_pos _ 1 (by omega)] at g1
  rw [← add_of_add, add_pos _ 2 (by omega)] at g2
  exact ⟨ad, rfl, hb, g0, g1, g2⟩
theorem reads_litn (w : World) (cs : Array Value) (T : TypeId) (size n : Nat) (h : cs.size = n * size) : Reads (w.alloc (.cells cs T)) (w.heap.size + 1) size (some ⟨w.heap.size, 0, none⟩) n cs.toList := by
  refine ⟨by simpa using h, fun _ => ⟨_, rfl, Nat.lt_succ_self _, fun j u hj => ?_⟩⟩
  have hb := Blk.new w T cs
  have e : (⟨w.heap.size, 0, none⟩ : Addr).add j = ⟨w.heap.size, j, none⟩ := by unfold Addr.add; split <;> simp_all
  rw [e, hb.cell]
  simpa using hj
theorem secsRows_step {ch : List SAcc} {l : List SSec} {k : Nat} (hk : k < l.length) : secsRows ch (l.take (k + 1)) = secsRows ch (l.take k) ++ secRows ch (l.getD k default).name (l.getD k default).kind (l.getD k default).neg := by
  have e : l.getD k default = l[k] := by simp [List.getD, hk]
  rw [e]
  unfold secsRows
  rw [List.take_succ_eq_append_getElem hk, List.flatMap_append]
  simp
theorem secsRows_len (ch : List SAcc) (l : List SSec) : (secsRows ch l).length ≤ l.length * (ch.length + 1) := by
  unfold secsRows
  induction l with
  | nil => simp
  | cons s t ih =>
    rw [List.flatMap_cons, List.length_append, List.length_cons, Nat.add_mul, Nat.one_mul]
    have := secRows_len ch s.name s.kind s.neg
    omega
/-- what a section's row of an account has before it -/
def RwS (w : World) (CG : Array Value) (ab sb : Nat) (x0 x1 x2 x3 kd : Int) (nm : List UInt8) (ng : Bool) (W : World) : Prop :=
  W.cell? ⟨ab, 0, none⟩ = some (.int .i64 x0) ∧ W.cell? ⟨sb, 2, none⟩ = some (.bool ng) ∧ Below w.heap.size w W ∧ Blk W ab 42 #[.int .i64 x0, .int .i64 x1, .int .i64 x2, .int .i64 x3] ∧ Blk W sb 64 #[.int .i64 kd, .string ⟨nm.toArray⟩, .bool ng] ∧ Blk W w.heap.size 29 CG
section
variable {w W W' : World} {CG : Array Value} {ab sb : Nat} {x0 x1 x2 x3 kd : Int} {nm : List UInt8} {ng : Bool}
theorem RwS.of (hb : Below w.heap.size w W) (ha : Blk W ab 42 #[.int .i64 x0, .int .i64 x1, .int .i64 x2, .int .i64 x3]) (hs : Blk W sb 64 #[.int .i64 kd, .string ⟨nm.toArray⟩, .bool ng]) (hg : Blk W w.heap.size 29 CG) : RwS w CG ab sb x0 x1 x2 x3 kd nm ng W :=
  ⟨ha.cell 0, hs.cell 2, hb, ha, hs, hg⟩
theorem RwS.step (h : RwS w CG ab sb x0 x1 x2 x3 kd nm ng W) (hb : Below W.heap.size W W') : RwS w CG ab sb x0 x1 x2 x3 kd nm ng W' := by
  obtain ⟨_, _, h1, h2, h3, h4⟩ := h
  exact RwS.of (below_two h1 hb) (h2.below hb h2.lt) (h3.below hb h3.lt) (h4.below hb h4.lt)
theorem RwS.app {v : Value} {n : Nat} {xs : List Value} (h : RwS w CG ab sb x0 x1 x2 x3 kd nm ng W) (ho : W.ownsRow (w.heap.size + 1) 39 5 v n xs) (hg : W.grownBy W' v.ownBlock) : RwS w CG ab sb x0 x1 x2 x3 kd nm ng W' := by
  obtain ⟨_, _, h1, h2, h3, h4⟩ := h
  exact RwS.of (h1.grown hg h1.size (fun k hk => by have := own_base ho k hk; omega)) (h2.grown hg (fun e => own_blk_ne ho h2 (by decide) e.symm)) (h3.grown hg (fun e => own_blk_ne ho h3 (by decide) e.symm)) (h4.grown hg (fun e => own_blk_ne ho h4 (by decide) e.symm))
end
set_option maxRecDepth 100000 in
set_option maxHeartbeats 16000000 in
theorem rows_no (g : SGrp) (ss : List SSec) (A : Option Addr) (n c : Nat) (B B2 : Nat) (w : World) (hg : GrpIn w B g) (hr : Reads w B2 3 A n (secsC ss)) (hB : B ≤ w.heap.size) (hB2 : B2 ≤ w.heap.size) (hn : g.nc ≤ 1000) (hen : ∀ x ∈ g.ents, x.nc ≤ 1000) (hn8 : n ≤ 8) (hv : grpP g.p = false) :
    Calls Tryz.prog 21 #[grpV g, .slice A n c] w fun e w' => e = .returned (.tuple #[.slice none 0 0, .int .i64 1]) ∧ Below w.heap.size w w' := by
  have HVA : Hid (∀ W : World, Below w.heap.size w W → Calls Tryz.prog 33 #[grpV g] W fun e w' => e = .returned (.bool (grpP g.p)) ∧ Below W.heap.size W w') := fun W hW =>
    grp_any g B W (hg.low hB (Nat.le_refl _) hW) (by have := hW.size; omega) hn hen
  rw [hv] at HVA
  clear hg hen hv hr
  obtain ⟨cu, yr, mo, pe, Ac, nc, cc, ch, ro, Ae, ne, ce, es⟩ := g
  unfold grpV at HVA ⊢
  simp only [] at HVA hn ⊢
  have HBX := Lib.hid ((Below.refl w.heap.size w).alloc (Nat.le_refl _) (.cells #[.string ⟨cu.toArray⟩, .int .i64 yr, .int .i64 mo, .int .i64 pe, .slice Ac nc cc, .int .i64 ro.c0, .int .i64 ro.c1, .int .i64 ro.c2, .int .i64 ro.c3, .int .i64 ro.c4, .int .i64 ro.c5, .int .i64 ro.c6, .int .i64 ro.c7, .int .i64 ro.c8, .int .i64 ro.c9, .int .i64 ro.c10, .int .i64 ro.c11, .int .i64 ro.c12, .int .i64 ro.c13, .int .i64 ro.c14, .slice Ae ne ce] 29))
  have HE := Lib.hid (Blk.new w 29 #[.string ⟨cu.toArray⟩, .int .i64 yr, .int .i64 mo, .int .i64 pe, .slice Ac nc cc, .int .i64 ro.c0, .int .i64 ro.c1, .int .i64 ro.c2, .int .i64 ro.c3, .int .i64 ro.c4, .int .i64 ro.c5, .int .i64 ro.c6, .int .i64 ro.c7, .int .i64 ro.c8, .int .i64 ro.c9, .int .i64 ro.c10, .int .i64 ro.c11, .int .i64 ro.c12, .int .i64 ro.c13, .int .i64 ro.c14, .slice Ae ne ce])
  go_enter Tryz.func21, Tryz.ntmps21
  go_wp2_with (refine wpList_load_grp (by first | rfl | simp [Region.wanted, yielded]) _ rfl _ rfl _ rfl HE.out ?_)
  refine (HVA.out _ HBX.out).mono ?_
  rintro e w1 ⟨rfl, hb1⟩
  have HB1 := Lib.hid (below_two HBX.out hb1)
  clear hb1
  go_wp2_with fail
  go_ret2
  exact ⟨rfl, HB1.out⟩
set_option maxRecDepth 100000 in
set_option maxHeartbeats 16000000 in
theorem rows_yes (g : SGrp) (ss : List SSec) (A : Option Addr) (n c : Nat) (B B2 : Nat) (w : World) (hE : Env w) (hg : GrpIn w B g) (hr : Reads w B2 3 A n (secsC ss)) (hB : B ≤ w.heap.size) (hB2 : B2 ≤ w.heap.size) (hn : g.nc ≤ 1000) (hen : ∀ x ∈ g.ents, x.nc ≤ 1000) (hn8 : n ≤ 8) (hco : ∀ x ∈ g.chart, 0 ≤ x.code ∧ x.code ≤ 99999) (hv : grpP g.p = true) :
    Calls Tryz.prog 21 #[grpV g, .slice A n c] w fun e w' => ∃ v, e = .returned (.tuple #[v, .int .i64 0]) ∧ w'.ownsRow w.heap.size 39 5 v (secsRows g.chart ss).length (rowsCells (secsRows g.chart ss)) ∧ Below w.heap.size w w' := by
  obtain ⟨i0, hi0, hz0, hz1, hz2⟩ := info_parts info_rowG
  have HVA : Hid (∀ W : World, Below w.heap.size w W → Calls Tryz.prog 33 #[grpV g] W fun e w' => e = .returned (.bool (grpP g.p)) ∧ Below W.heap.size W w') := fun W hW =>
    grp_any g B W (hg.low hB (Nat.le_refl _) hW) (by have := hW.size; omega) hn hen
  rw [hv] at HVA
  have HEV : Hid (∀ W, Below w.heap.size w W → Env W) := fun W h => hE.after h
  have HSR := Lib.hid hr
  have HSL := Lib.hid (secs_len hr)
  have HCH := Lib.hid hg.ch
  have HCO := Lib.hid hco
  have HLC := Lib.hid hg.ch.len
  clear hg hen hv hr hE hco
  obtain ⟨cu, yr, mo, pe, Ac, nc, cc, ch, ro, Ae, ne, ce, es⟩ := g
  unfold grpV at HVA ⊢
  simp only [] at HVA HCH HCO HLC hn ⊢
  have HBX := Lib.hid ((Below.refl w.heap.size w).alloc (Nat.le_refl _) (.cells #[.string ⟨cu.toArray⟩, .int .i64 yr, .int .i64 mo, .int .i64 pe, .slice Ac nc cc, .int .i64 ro.c0, .int .i64 ro.c1, .int .i64 ro.c2, .int .i64 ro.c3, .int .i64 ro.c4, .int .i64 ro.c5, .int .i64 ro.c6, .int .i64 ro.c7, .int .i64 ro.c8, .int .i64 ro.c9, .int .i64 ro.c10, .int .i64 ro.c11, .int .i64 ro.c12, .int .i64 ro.c13, .int .i64 ro.c14, .slice Ae ne ce] 29))
  have HE := Lib.hid (Blk.new w 29 #[.string ⟨cu.toArray⟩, .int .i64 yr, .int .i64 mo, .int .i64 pe, .slice Ac nc cc, .int .i64 ro.c0, .int .i64 ro.c1, .int .i64 ro.c2, .int .i64 ro.c3, .int .i64 ro.c4, .int .i64 ro.c5, .int .i64 ro.c6, .int .i64 ro.c7, .int .i64 ro.c8, .int .i64 ro.c9, .int .i64 ro.c10, .int .i64 ro.c11, .int .i64 ro.c12, .int .i64 ro.c13, .int .i64 ro.c14, .slice Ae ne ce])
  go_enter Tryz.func21, Tryz.ntmps21
  go_wp2_with (refine wpList_load_grp (by first | rfl | simp [Region.wanted, yielded]) _ rfl _ rfl _ rfl HE.out ?_)
  refine (HVA.out _ HBX.out).mono ?_
  rintro e w1 ⟨rfl, hb1⟩
  have HB1 := Lib.hid (below_two HBX.out hb1)
  have HE1 := Lib.hid (HE.out.below hb1 (by simp))
  have hs1 : w.heap.size + 1 ≤ w1.heap.size := by have := hb1.size; simp only [World.size_alloc] at this; omega
  clear hb1 HVA
  go_wp2_with fail
  go_loopw [6, 16] (fun out iv wr => ∃ k : Nat, iv = .int .i64 k ∧ k ≤ n ∧ wr.ownsRow (w.heap.size + 1) 39 5 out (secsRows ch (ss.take k)).length (rowsCells (secsRows ch (ss.take k))) ∧ Below w.heap.size w wr ∧ Blk wr w.heap.size 29 #[.string ⟨cu.toArray⟩, .int .i64 yr, .int .i64 mo, .int .i64 pe, .slice Ac nc cc, .int .i64 ro.c0, .int .i64 ro.c1, .int .i64 ro.c2, .int .i64 ro.c3, .int .i64 ro.c4, .int .i64 ro.c5, .int .i64 ro.c6, .int .i64 ro.c7, .int .i64 ro.c8, .int .i64 ro.c9, .int .i64 ro.c10, .int .i64 ro.c11, .int .i64 ro.c12, .int .i64 ro.c13, .int .i64 ro.c14, .slice Ae ne ce]) (fun _ iv _ => n - (intOf iv).toNat)
  case atStart => exact ⟨0, rfl, by omega, World.ownsRow_nil _ _ _ _, HB1.out, HE1.out⟩
  case round =>
    obtain ⟨k, rfl, hk, hown, hbr, hbl⟩ := hrel
    obtain ⟨wo, rfl⟩ : ∃ wo : World, wo = wr := ⟨_, rfl⟩
    obtain ⟨Ao, co, rfl⟩ := own_slice hown
    have HO := Lib.hid hown
    have HEO := Lib.hid hbl
    have hlt0 := hbl.lt
    have hs2 := hbr.size
    clear hown hbl
    by_cases hlt : k < n
    case neg =>
      have k3 : decide ((k : Int) < (n : Int)) = false := by rw [decide_eq_false_iff_not]; omega
      have F : Hid (secsRows ch (ss.take k) = secsRows ch ss) := by show _ = _; rw [List.take_of_length_le (by rw [HSL.out]; omega)]
      go_wp2_with fail
      go_ret2
      refine ⟨_, rfl, ?_, hbr⟩
      rw [← F.out]
      exact own_mono HO.out (by omega)
    case pos =>
      have k3 : decide ((k : Int) < (n : Int)) = true := by rw [decide_eq_true_eq]; omega
      have b15 : (k : Int) < (n : Int) := by omega
      have hkl : k < ss.length := by rw [HSL.out]; exact hlt
      obtain ⟨ad, rfl, hbk, c0, c1, c2⟩ := (HSR.out.lowg hB2 (Nat.le_refl _) hbr).sec_at hlt
      have HSS := Lib.hid (secsRows_step (ch := ch) hkl)
      have hlr : (secsRows ch (ss.take k)).length ≤ 7 * 1001 := by
        have h1 := secsRows_len ch (ss.take k)
        have h2 : (ss.take k).length = k := by rw [List.length_take]; omega
        have h3 : ch.length + 1 ≤ 1001 := by have := HLC.out; omega
        rw [h2] at h1
        have := Nat.mul_le_mul (show k ≤ 7 by omega) h3
        omega
      clear hkl
      generalize ss.getD k default = x at *
      generalize secsRows ch (ss.take k) = r0 at *
      obtain ⟨kd, nm, ng⟩ := x
      simp only [] at c0 c1 c2 HSS
      have HRT : Hid (rowCells ⟨nm, 0, 1, 0, false⟩ = [.string ⟨nm.toArray⟩, .int .i64 0, .int .i64 1, .int .i64 0, .bool false]) := rfl
      go_wp2_with (at_builtin; go_loud (refine wpList_append_any _ rfl (.tmp 20) (.tmp 24) _ rfl (w.heap.size + 1) 39 i0 _ 5 48 Tryz.underlying32 hi0 hz0 hz1 hz2 rfl (by omega) _ r0.length (rowsCells r0) rfl ((HO.out.alloc _).alloc _) (wo.heap.size + 1 + 1) (some ⟨wo.heap.size + 1, 0, none⟩) 1 1 (rowCells ⟨nm, 0, 1, 0, false⟩) rfl (by have := reads_one (wo.alloc (.cells #[.int .i64 kd, .string ⟨nm.toArray⟩, .bool ng] 64)) #[.string ⟨nm.toArray⟩, .int .i64 0, .int .i64 1, .int .i64 0, .bool false] 39 5 rfl; simp only [World.size_alloc] at this; exact this) (rowG_one _) (by simp only [maxLen]; omega) (by omega) (by simp only [World.size_alloc]; omega) ?_; intro v4 w4 hown4 hg4 hat4; obtain ⟨A4, c4, rfl⟩ := own_slice hown4; have HO4 := Lib.hid hown4; have HB4 := Lib.hid (((hbr.alloc hs2 _).alloc (by simp only [World.size_alloc]; omega) _).grown hg4 (by simp only [World.size_alloc]; omega) (fun j hj => by have := own_base HO.out j hj; omega)); have HE4 := Lib.hid (((HEO.out.alloc _).alloc _).grown hg4 (by intro e; have := own_base HO.out _ e.symm; omega)); have HS4 := Lib.hid (((Blk.new wo 64 #[.int .i64 kd, .string ⟨nm.toArray⟩, .bool ng]).alloc _).grown hg4 (by intro e; have := own_lt HO.out _ e.symm; omega)); have hg44 := HE4.out.cell 4; simp only [List.getElem?_toArray, List.getElem?_cons_succ, List.getElem?_cons_zero] at hg44; clear hown4 hg4 hat4))
      go_loopw [6, 29] (fun out iv wr => ∃ j : Nat, iv = .int .i64 j ∧ j ≤ nc ∧ wr.ownsRow (w.heap.size + 1) 39 5 out (r0 ++ secRows (ch.take j) nm kd ng).length (rowsCells (r0 ++ secRows (ch.take j) nm kd ng)) ∧ Below w.heap.size w wr ∧ Blk wr wo.heap.size 64 #[.int .i64 kd, .string ⟨nm.toArray⟩, .bool ng] ∧ Blk wr w.heap.size 29 #[.string ⟨cu.toArray⟩, .int .i64 yr, .int .i64 mo, .int .i64 pe, .slice Ac nc cc, .int .i64 ro.c0, .int .i64 ro.c1, .int .i64 ro.c2, .int .i64 ro.c3, .int .i64 ro.c4, .int .i64 ro.c5, .int .i64 ro.c6, .int .i64 ro.c7, .int .i64 ro.c8, .int .i64 ro.c9, .int .i64 ro.c10, .int .i64 ro.c11, .int .i64 ro.c12, .int .i64 ro.c13, .int .i64 ro.c14, .slice Ae ne ce]) (fun _ iv _ => nc - (intOf iv).toNat)
      case atStart =>
        refine ⟨0, rfl, by omega, ?_, HB4.out, HS4.out, HE4.out⟩
        have e0 : secRows (ch.take 0) nm kd ng = [⟨nm, 0, 1, 0, false⟩] := rfl
        rw [e0, List.length_append, List.length_singleton, rowsCells_app, rowsCells_one]
        exact HO4.out
      case round =>
        obtain ⟨j, rfl, hj, hown, hbi, hsb, hbl⟩ := hrel
        obtain ⟨wi, rfl⟩ : ∃ wi : World, wi = wr := ⟨_, rfl⟩
        obtain ⟨Aj, cj, rfl⟩ := own_slice hown
        have HO := Lib.hid hown
        have HEO := Lib.hid hbl
        have HSB := Lib.hid hsb
        have hlt1 := hbl.lt
        have hs3 := hbi.size
        have ssb := hsb.cell 0
        have sfb := hsb.frozen 0
        simp only [List.getElem?_toArray, List.getElem?_cons_zero] at ssb
        generalize hsbe : wo.heap.size = sb at *
        have hsl := hsb.lt
        clear hown hbl hsb HO4 HE4 HS4 HB4 hg44 c0 c1 c2
        by_cases hlj : j < nc
        case neg =>
          have k4 : decide ((j : Int) < (nc : Int)) = false := by rw [decide_eq_false_iff_not]; omega
          have F : Hid (r0 ++ secRows (ch.take j) nm kd ng = secsRows ch (ss.take (k + 1))) := by show _ = _; rw [HSS.out, List.take_of_length_le (by rw [HLC.out]; omega)]
          go_wp2_with fail
          refine ⟨⟨k + 1, by go_num, by omega, by rw [← F.out]; exact HO.out, hbi, HEO.out⟩, by simp [intOf]; omega⟩
        case pos =>
          have k4 : decide ((j : Int) < (nc : Int)) = true := by rw [decide_eq_true_eq]; omega
          have b16 : (j : Int) < (nc : Int) := by omega
          have hjl : j < ch.length := by rw [HLC.out]; exact hlj
          obtain ⟨ac, rfl, hab, a0, a1, a2, a3⟩ := (HCH.out.rd.lowg hB (Nat.le_refl _) hbi).acc_at hlj
          have hlen : (secRows (ch.take j) nm kd ng).length ≤ j + 1 := by have := secRows_len (ch.take j) nm kd ng; rw [List.length_take] at this; omega
          have hco := HCO.out _ (getD_memA hjl)
          have HY : Hid (((ch.getD j default).kind == kd) = true → r0 ++ secRows (ch.take (j + 1)) nm kd ng = (r0 ++ secRows (ch.take j) nm kd ng) ++ [accRow ng (ch.getD j default)]) := fun h => by rw [secRows_yes hjl h, List.append_assoc]
          have HN : Hid (((ch.getD j default).kind == kd) = false → r0 ++ secRows (ch.take (j + 1)) nm kd ng = r0 ++ secRows (ch.take j) nm kd ng) := fun h => by rw [secRows_no hjl h]
          have hrl : (r0 ++ secRows (ch.take j) nm kd ng).length ≤ 8100 := by rw [List.length_append]; omega
          clear hjl hlen
          generalize ch.getD j default = x at *
          generalize r0 ++ secRows (ch.take j) nm kd ng = rs at *
          obtain ⟨x0, x1, x2, x3⟩ := x
          simp only [] at a0 a1 a2 a3 HY HN hco
          cases hkd : x1 == kd
          case false =>
            have F := Lib.hid (HN.out hkd)
            have HKD := Lib.hid hkd
            clear HY HN
            go_wp2_with fail
            exact ⟨⟨j + 1, by go_num, by omega, by rw [F.out]; exact HO.out.alloc _, hbi.alloc hs3 _, HSB.out.alloc _, HEO.out.alloc _⟩, by simp [intOf]; omega⟩
          case true =>
            have F := Lib.hid (HY.out hkd)
            have HKD := Lib.hid hkd
            clear HY HN
            have q1 : (Lib.itoa x0).length ≤ 21 := itoa_len (by omega) (by omega)
            have hsz : ¬ 9223372036854775807 < 8 + (Lib.itoa x0).length := by omega
            have hsz2 : ¬ 9223372036854775807 < (Lib.itoa x0).length + 8 := by omega
            have HCAT : Hid ((⟨#[65, 99, 99, 111, 117, 110, 116, 32]⟩ : ByteArray) ++ ⟨(Lib.itoa x0).toArray⟩ = ⟨(accName x0).toArray⟩) := by
              show _ = _
              unfold accName
              apply ByteArray.ext
              simp
            go_upto_region 12 with fail
            have HO0 := own_below HO.out (((Below.refl _ _).alloc (Nat.le_refl _) (.cells #[.int .i64 x0, .int .i64 x1, .int .i64 x2, .int .i64 x3] 42)))
            have HR0 : RwS w #[.string ⟨cu.toArray⟩, .int .i64 yr, .int .i64 mo, .int .i64 pe, .slice (some ac) nc cc, .int .i64 ro.c0, .int .i64 ro.c1, .int .i64 ro.c2, .int .i64 ro.c3, .int .i64 ro.c4, .int .i64 ro.c5, .int .i64 ro.c6, .int .i64 ro.c7, .int .i64 ro.c8, .int .i64 ro.c9, .int .i64 ro.c10, .int .i64 ro.c11, .int .i64 ro.c12, .int .i64 ro.c13, .int .i64 ro.c14, .slice Ae ne ce] wi.heap.size sb x0 x1 x2 x3 kd nm ng (wi.alloc (.cells #[.int .i64 x0, .int .i64 x1, .int .i64 x2, .int .i64 x3] 42)) := RwS.of (hbi.alloc (by omega) _) (Blk.new _ _ _) (HSB.out.alloc _) (HEO.out.alloc _)
            generalize hwz : wi.alloc (.cells #[.int .i64 x0, .int .i64 x1, .int .i64 x2, .int .i64 x3] 42) = wz at *
            have hsz0 : wi.heap.size < wz.heap.size := by rw [← hwz]; simp
            clear hwz
            refine wp_region_held_drew (S := RwS w #[.string ⟨cu.toArray⟩, .int .i64 yr, .int .i64 mo, .int .i64 pe, .slice (some ac) nc cc, .int .i64 ro.c0, .int .i64 ro.c1, .int .i64 ro.c2, .int .i64 ro.c3, .int .i64 ro.c4, .int .i64 ro.c5, .int .i64 ro.c6, .int .i64 ro.c7, .int .i64 ro.c8, .int .i64 ro.c9, .int .i64 ro.c10, .int .i64 ro.c11, .int .i64 ro.c12, .int .i64 ro.c13, .int .i64 ro.c14, .slice Ae ne ce] wi.heap.size sb x0 x1 x2 x3 kd nm ng) (by kernel_rfl) (HR0.step (below_drew (Below.refl _ _))) (fun hHeld => ?_)
            refine wpAnyH_take (i := 0) (v := ?vrw0) rfl (by kernel_rfl) (by kernel_rfl) (by kernel_rfl) (fun _ _ _ h => h) (Or.inl ⟨by rfl, ?hyrw0⟩) (by assumption) ?restrw0
            case hyrw0 => (intro w_ hSw; (try dsimp only at hSw); obtain ⟨hca, hcs, -⟩ := hSw; go_simp; (try with_reducible rfl))
            (try simp only [Act.put, List.setIfInBounds_toArray, List.set_cons_zero, List.set_cons_succ, List.getElem_toArray, List.getElem_cons_zero, List.getElem_cons_succ])
            refine wpAnyH_take (i := 1) (v := ?vrw1) rfl (by kernel_rfl) (by kernel_rfl) (by kernel_rfl) (fun _ _ _ h => h) (Or.inl ⟨by rfl, ?hyrw1⟩) (by assumption) ?restrw1
            case hyrw1 => (intro w_ hSw; (try dsimp only at hSw); obtain ⟨hca, hcs, -⟩ := hSw; go_simp; (try with_reducible rfl))
            (try simp only [Act.put, List.setIfInBounds_toArray, List.set_cons_zero, List.set_cons_succ, List.getElem_toArray, List.getElem_cons_zero, List.getElem_cons_succ])
            refine wpAnyH_take (i := 2) (v := ?vrw2) rfl (by kernel_rfl) (by kernel_rfl) (by kernel_rfl) (fun _ _ _ h => h) (Or.inl ⟨by rfl, ?hyrw2⟩) (by assumption) ?restrw2
            case hyrw2 => (intro w_ hSw; (try dsimp only at hSw); obtain ⟨hca, hcs, -⟩ := hSw; go_simp; (try with_reducible rfl))
            (try simp only [Act.put, List.setIfInBounds_toArray, List.set_cons_zero, List.set_cons_succ, List.getElem_toArray, List.getElem_cons_zero, List.getElem_cons_succ])
            refine wpAnyH_take (i := 5) (v := ?vrw5) rfl (by kernel_rfl) (by kernel_rfl) (by kernel_rfl) (fun _ _ _ h => h) (Or.inl ⟨by rfl, ?hyrw5⟩) (by assumption) ?restrw5
            case hyrw5 => (intro w_ hSw; (try dsimp only at hSw); obtain ⟨hca, hcs, -⟩ := hSw; go_simp; (try with_reducible rfl))
            (try simp only [Act.put, List.setIfInBounds_toArray, List.set_cons_zero, List.set_cons_succ, List.getElem_toArray, List.getElem_cons_zero, List.getElem_cons_succ])
            refine wpAnyH_take (i := 6) (v := ?vrw6) rfl (by kernel_rfl) (by kernel_rfl) (by kernel_rfl) (fun _ _ _ h => h) (Or.inl ⟨by rfl, ?hyrw6⟩) (by assumption) ?restrw6
            case hyrw6 => (intro w_ hSw; (try dsimp only at hSw); obtain ⟨hca, hcs, -⟩ := hSw; go_simp; (try with_reducible rfl))
            (try simp only [Act.put, List.setIfInBounds_toArray, List.set_cons_zero, List.set_cons_succ, List.getElem_toArray, List.getElem_cons_zero, List.getElem_cons_succ])
            refine wpAnyH_take (i := 7) (v := ?vrw7) rfl (by kernel_rfl) (by kernel_rfl) (by kernel_rfl) (fun _ _ _ h => h) (Or.inl ⟨by rfl, ?hyrw7⟩) (by assumption) ?restrw7
            case hyrw7 => (intro w_ hSw; (try dsimp only at hSw); obtain ⟨hca, hcs, -⟩ := hSw; go_simp; (try with_reducible rfl))
            (try simp only [Act.put, List.setIfInBounds_toArray, List.set_cons_zero, List.set_cons_succ, List.getElem_toArray, List.getElem_cons_zero, List.getElem_cons_succ])
            refine wpAnyH_take (i := 8) (v := ?vrw8) rfl (by kernel_rfl) (by kernel_rfl) (by kernel_rfl) (fun _ _ _ h => h) (Or.inl ⟨by rfl, ?hyrw8⟩) (by assumption) ?restrw8
            case hyrw8 => (intro w_ hSw; (try dsimp only at hSw); obtain ⟨hca, hcs, -⟩ := hSw; go_simp; (try with_reducible rfl))
            (try simp only [Act.put, List.setIfInBounds_toArray, List.set_cons_zero, List.set_cons_succ, List.getElem_toArray, List.getElem_cons_zero, List.getElem_cons_succ])
            refine wpAnyH_take (i := 9) (v := ?vrw9) rfl (by kernel_rfl) (by kernel_rfl) (by kernel_rfl) (fun _ _ _ h => h) (Or.inl ⟨by rfl, ?hyrw9⟩) (by assumption) ?restrw9
            case hyrw9 => (intro w_ hSw; (try dsimp only at hSw); obtain ⟨hca, hcs, -⟩ := hSw; go_simp; (try with_reducible rfl))
            (try simp only [Act.put, List.setIfInBounds_toArray, List.set_cons_zero, List.set_cons_succ, List.getElem_toArray, List.getElem_cons_zero, List.getElem_cons_succ])
            refine wpAnyH_take (i := 10) (v := ?vrw10) rfl (by kernel_rfl) (by kernel_rfl) (by kernel_rfl) (fun _ _ _ h => h) (Or.inl ⟨by rfl, ?hyrw10⟩) (by assumption) ?restrw10
            case hyrw10 => (intro w_ hSw; (try dsimp only at hSw); obtain ⟨hca, hcs, -⟩ := hSw; go_simp; (try with_reducible rfl))
            (try simp only [Act.put, List.setIfInBounds_toArray, List.set_cons_zero, List.set_cons_succ, List.getElem_toArray, List.getElem_cons_zero, List.getElem_cons_succ])
            refine wpAnyH_ready (rs := [3]) (by kernel_rfl) (by simp) ?_
            refine AllReadyH.cons rfl (fun K hK => ?_) AllReadyH.nil
            go_simp
            refine (itoa_any x0 _ (by omega) (by omega) (HEV.out _ hHeld.2.2.1)).mono ?_
            rintro e w5 ⟨rfl, hb5⟩
            dsimp only
            have hHelda := hHeld.step hb5
            have HO5 := own_below (own_below HO0 (below_drew (Below.refl _ _))) hb5
            have hs5 : wz.heap.size ≤ w5.heap.size := hb5.size
            refine hK.out _ _ ?hSa (fun _ => ?_)
            case hSa => exact hHelda
            clear hK K hb5 hHeld HO0 HR0
            have hcat := HCAT.out
            (try simp only [Act.put, List.setIfInBounds_toArray, List.set_cons_zero, List.set_cons_succ, List.getElem_toArray, List.getElem_cons_zero, List.getElem_cons_succ])
            refine wpAnyH_take (i := 4) (v := ?vrw4) rfl (by kernel_rfl) (by kernel_rfl) (by kernel_rfl) (fun _ _ _ h => h) (Or.inl ⟨by rfl, ?hyrw4⟩) (by assumption) ?restrw4
            case hyrw4 => (intro w_ hSw; (try dsimp only at hSw); obtain ⟨hca, hcs, -⟩ := hSw; go_simp; (try with_reducible rfl))
            (try simp only [Act.put, List.setIfInBounds_toArray, List.set_cons_zero, List.set_cons_succ, List.getElem_toArray, List.getElem_cons_zero, List.getElem_cons_succ])
            refine wpAnyH_take (i := 11) (v := ?vrw11) rfl (by kernel_rfl) (by kernel_rfl) (by kernel_rfl) (fun _ _ _ h => h) (Or.inl ⟨by rfl, ?hyrw11⟩) (by assumption) ?restrw11
            case hyrw11 => (intro w_ hSw; (try dsimp only at hSw); obtain ⟨hca, hcs, -⟩ := hSw; go_simp; (try with_reducible rfl))
            (try simp only [Act.put, List.setIfInBounds_toArray, List.set_cons_zero, List.set_cons_succ, List.getElem_toArray, List.getElem_cons_zero, List.getElem_cons_succ])
            refine wpAnyH_ready (rs := [12]) (by kernel_rfl) (by simp) ?_
            refine AllReadyH.cons rfl (fun K hK => ?_) AllReadyH.nil
            go_simp
            have hHeldb := hHelda.step ((Below.refl _ _).alloc (Nat.le_refl _) (.cells #[.string ⟨(accName x0).toArray⟩, .int .i64 1, .int .i64 x0, .int .i64 x0, .bool ng] 39))
            refine hK.out _ _ ?hSb (fun _ => ?_)
            case hSb => exact hHeldb
            clear hK K
            (try simp only [Act.put, List.setIfInBounds_toArray, List.set_cons_zero, List.set_cons_succ, List.getElem_toArray, List.getElem_cons_zero, List.getElem_cons_succ])
            refine wpAnyH_ready (rs := [13]) (by kernel_rfl) (by simp) ?_
            refine AllReadyH.cons rfl (fun K hK => ?_) AllReadyH.nil
            refine step_append_any _ rfl (.tmp 38) (.tmp 50) _ rfl (w.heap.size + 1) 39 i0 _ 5 48 Tryz.underlying32 hi0 hz0 hz1 hz2 rfl (by omega) _ rs.length (rowsCells rs) (by simp [Act.eval]) (HO5.alloc _) (w5.heap.size + 1) (some ⟨w5.heap.size, 0, none⟩) 1 1 (rowCells (accRow ng ⟨x0, x1, x2, x3⟩)) (by simp [Act.eval]) (reads_one w5 #[.string ⟨(accName x0).toArray⟩, .int .i64 1, .int .i64 x0, .int .i64 x0, .bool ng] 39 5 rfl) (rowG_one _) (by simp only [maxLen]; omega) (by omega) (by simp only [World.size_alloc]; omega) ?_
            intro v6 w6 hown6 hg6 hat6
            have hHeldc := hHeldb.app (HO5.alloc _) hg6
            have HF := Lib.hid (And.intro hown6 (And.intro hHeldc hg6.size))
            refine hK.out _ _ ?hSc (fun _ => ?_)
            case hSc => exact hHeldc
            clear hK K hown6 hg6 hat6 HO5 hHelda hHeldb
            (try simp only [Act.put, List.setIfInBounds_toArray, List.set_cons_zero, List.set_cons_succ, List.getElem_toArray, List.getElem_cons_zero, List.getElem_cons_succ])
            refine wpAnyH_take (i := 14) (v := ?vrw14) rfl (by kernel_rfl) (by kernel_rfl) (by kernel_rfl) (fun _ _ _ h => h) (Or.inl ⟨by rfl, ?hyrw14⟩) (by assumption) ?restrw14
            case hyrw14 => (intro w_ hSw; (try dsimp only at hSw); obtain ⟨hca, hcs, -⟩ := hSw; go_simp; (try with_reducible rfl))
            (try simp only [Act.put, List.setIfInBounds_toArray, List.set_cons_zero, List.set_cons_succ, List.getElem_toArray, List.getElem_cons_zero, List.getElem_cons_succ])
            refine wpAnyH_done (by kernel_rfl) ?_ _
            clear hHeldc
            go_wp2_with fail
            obtain ⟨hown6, hR6, hs6⟩ := HF.out
            simp only [World.size_alloc] at hs6
            refine ⟨⟨j + 1, by go_num, by omega, ?_, hR6.2.2.1, hR6.2.2.2.2.1, hR6.2.2.2.2.2⟩, by simp [intOf]; omega⟩
            rw [F.out, List.length_append, List.length_singleton, rowsCells_app, rowsCells_one]
            exact hown6
set_option maxRecDepth 100000 in
set_option maxHeartbeats 8000000 in
theorem ppos_yes (g : SGrp) (B : Nat) (w : World) (hE : Env w) (hg : GrpIn w B g) (hB : B ≤ w.heap.size) (hn : g.nc ≤ 1000) (hen : ∀ x ∈ g.ents, x.nc ≤ 1000) (hco : ∀ x ∈ g.chart, 0 ≤ x.code ∧ x.code ≤ 99999) (hv : grpP g.p = true) :
    Calls Tryz.prog 8 #[grpV g] w fun e w' => ∃ v, e = .returned (.tuple #[v, .int .i64 0]) ∧ w'.ownsRow w.heap.size 39 5 v (posRows g.chart).length (rowsCells (posRows g.chart)) ∧ Below w.heap.size w w' := by
  have HC : Hid (∀ (W : World) (C : Nat), Below w.heap.size w W → Reads W C 3 (some ⟨w.heap.size + 1, 0, none⟩) 3 (secsC [⟨1, nmAssets, false⟩, ⟨2, nmLiab, true⟩, ⟨3, nmEquity, true⟩]) → C ≤ W.heap.size → _) := fun W C hW hrd hC => rows_yes g [⟨1, nmAssets, false⟩, ⟨2, nmLiab, true⟩, ⟨3, nmEquity, true⟩] (some ⟨w.heap.size + 1, 0, none⟩) 3 3 B C W (hE.after hW) (hg.low hB (Nat.le_refl _) hW) hrd (by have := hW.size; omega) hC hn hen (by omega) hco hv
  clear hg hen hv hE hco
  obtain ⟨cu, yr, mo, pe, Ac, nc, cc, ch, ro, Ae, ne, ce, es⟩ := g
  unfold grpV at HC ⊢
  simp only [] at HC hn ⊢
  have HB2 : Hid (Below w.heap.size w ((w.alloc (.cells #[.string ⟨cu.toArray⟩, .int .i64 yr, .int .i64 mo, .int .i64 pe, .slice Ac nc cc, .int .i64 ro.c0, .int .i64 ro.c1, .int .i64 ro.c2, .int .i64 ro.c3, .int .i64 ro.c4, .int .i64 ro.c5, .int .i64 ro.c6, .int .i64 ro.c7, .int .i64 ro.c8, .int .i64 ro.c9, .int .i64 ro.c10, .int .i64 ro.c11, .int .i64 ro.c12, .int .i64 ro.c13, .int .i64 ro.c14, .slice Ae ne ce] 29)).alloc (.cells #[.int .i64 1, .string ⟨#[65, 115, 115, 101, 116, 115]⟩, .bool false, .int .i64 2, .string ⟨#[76, 105, 97, 98, 105, 108, 105, 116, 105, 101, 115]⟩, .bool true, .int .i64 3, .string ⟨#[69, 113, 117, 105, 116, 121]⟩, .bool true] 64))) := ((Below.refl w.heap.size w).alloc (Nat.le_refl _) _).alloc (by simp) _
  have HR2 : Hid (Reads ((w.alloc (.cells #[.string ⟨cu.toArray⟩, .int .i64 yr, .int .i64 mo, .int .i64 pe, .slice Ac nc cc, .int .i64 ro.c0, .int .i64 ro.c1, .int .i64 ro.c2, .int .i64 ro.c3, .int .i64 ro.c4, .int .i64 ro.c5, .int .i64 ro.c6, .int .i64 ro.c7, .int .i64 ro.c8, .int .i64 ro.c9, .int .i64 ro.c10, .int .i64 ro.c11, .int .i64 ro.c12, .int .i64 ro.c13, .int .i64 ro.c14, .slice Ae ne ce] 29)).alloc (.cells #[.int .i64 1, .string ⟨#[65, 115, 115, 101, 116, 115]⟩, .bool false, .int .i64 2, .string ⟨#[76, 105, 97, 98, 105, 108, 105, 116, 105, 101, 115]⟩, .bool true, .int .i64 3, .string ⟨#[69, 113, 117, 105, 116, 121]⟩, .bool true] 64)) (w.heap.size + 1 + 1) 3 (some ⟨w.heap.size + 1, 0, none⟩) 3 (secsC [⟨1, nmAssets, false⟩, ⟨2, nmLiab, true⟩, ⟨3, nmEquity, true⟩])) := by
    have := reads_litn (w.alloc (.cells #[.string ⟨cu.toArray⟩, .int .i64 yr, .int .i64 mo, .int .i64 pe, .slice Ac nc cc, .int .i64 ro.c0, .int .i64 ro.c1, .int .i64 ro.c2, .int .i64 ro.c3, .int .i64 ro.c4, .int .i64 ro.c5, .int .i64 ro.c6, .int .i64 ro.c7, .int .i64 ro.c8, .int .i64 ro.c9, .int .i64 ro.c10, .int .i64 ro.c11, .int .i64 ro.c12, .int .i64 ro.c13, .int .i64 ro.c14, .slice Ae ne ce] 29)) #[.int .i64 1, .string ⟨#[65, 115, 115, 101, 116, 115]⟩, .bool false, .int .i64 2, .string ⟨#[76, 105, 97, 98, 105, 108, 105, 116, 105, 101, 115]⟩, .bool true, .int .i64 3, .string ⟨#[69, 113, 117, 105, 116, 121]⟩, .bool true] 64 3 3 rfl
    simp only [World.size_alloc] at this
    exact this
  have HE := Lib.hid (Blk.new w 29 #[.string ⟨cu.toArray⟩, .int .i64 yr, .int .i64 mo, .int .i64 pe, .slice Ac nc cc, .int .i64 ro.c0, .int .i64 ro.c1, .int .i64 ro.c2, .int .i64 ro.c3, .int .i64 ro.c4, .int .i64 ro.c5, .int .i64 ro.c6, .int .i64 ro.c7, .int .i64 ro.c8, .int .i64 ro.c9, .int .i64 ro.c10, .int .i64 ro.c11, .int .i64 ro.c12, .int .i64 ro.c13, .int .i64 ro.c14, .slice Ae ne ce])
  go_enter Tryz.func8, Tryz.ntmps8
  go_wp2_with (refine wpList_load_grp (by first | rfl | simp [Region.wanted, yielded]) _ rfl _ rfl _ rfl HE.out ?_)
  refine (HC.out _ _ HB2.out HR2.out (by simp only [World.size_alloc]; omega)).mono ?_
  rintro e w1 ⟨v, rfl, ho, hb1⟩
  have e1 : secsRows ch [⟨1, nmAssets, false⟩, ⟨2, nmLiab, true⟩, ⟨3, nmEquity, true⟩] = posRows ch := by simp [secsRows, posRows]
  rw [e1] at ho
  clear e1
  obtain ⟨A1, c1, rfl⟩ := own_slice ho
  have HO := Lib.hid ho
  have HB1 := Lib.hid (below_two HB2.out hb1)
  clear ho hb1
  go_wp2_with fail
  go_ret2
  refine ⟨_, rfl, ?_, HB1.out⟩
  exact own_mono (b' := w.heap.size) HO.out (by simp only [World.size_alloc]; omega)
set_option maxRecDepth 100000 in
set_option maxHeartbeats 8000000 in
theorem ppos_no (g : SGrp) (B : Nat) (w : World) (hg : GrpIn w B g) (hB : B ≤ w.heap.size) (hn : g.nc ≤ 1000) (hen : ∀ x ∈ g.ents, x.nc ≤ 1000) (hv : grpP g.p = false) :
    Calls Tryz.prog 8 #[grpV g] w fun e w' => e = .returned (.tuple #[.slice none 0 0, .int .i64 1]) ∧ Below w.heap.size w w' := by
  have HC : Hid (∀ (W : World) (C : Nat), Below w.heap.size w W → Reads W C 3 (some ⟨w.heap.size + 1, 0, none⟩) 3 (secsC [⟨1, nmAssets, false⟩, ⟨2, nmLiab, true⟩, ⟨3, nmEquity, true⟩]) → C ≤ W.heap.size → _) := fun W C hW hrd hC => rows_no g [⟨1, nmAssets, false⟩, ⟨2, nmLiab, true⟩, ⟨3, nmEquity, true⟩] (some ⟨w.heap.size + 1, 0, none⟩) 3 3 B C W (hg.low hB (Nat.le_refl _) hW) hrd (by have := hW.size; omega) hC hn hen (by omega) hv
  clear hg hen hv 
  obtain ⟨cu, yr, mo, pe, Ac, nc, cc, ch, ro, Ae, ne, ce, es⟩ := g
  unfold grpV at HC ⊢
  simp only [] at HC hn ⊢
  have HB2 : Hid (Below w.heap.size w ((w.alloc (.cells #[.string ⟨cu.toArray⟩, .int .i64 yr, .int .i64 mo, .int .i64 pe, .slice Ac nc cc, .int .i64 ro.c0, .int .i64 ro.c1, .int .i64 ro.c2, .int .i64 ro.c3, .int .i64 ro.c4, .int .i64 ro.c5, .int .i64 ro.c6, .int .i64 ro.c7, .int .i64 ro.c8, .int .i64 ro.c9, .int .i64 ro.c10, .int .i64 ro.c11, .int .i64 ro.c12, .int .i64 ro.c13, .int .i64 ro.c14, .slice Ae ne ce] 29)).alloc (.cells #[.int .i64 1, .string ⟨#[65, 115, 115, 101, 116, 115]⟩, .bool false, .int .i64 2, .string ⟨#[76, 105, 97, 98, 105, 108, 105, 116, 105, 101, 115]⟩, .bool true, .int .i64 3, .string ⟨#[69, 113, 117, 105, 116, 121]⟩, .bool true] 64))) := ((Below.refl w.heap.size w).alloc (Nat.le_refl _) _).alloc (by simp) _
  have HR2 : Hid (Reads ((w.alloc (.cells #[.string ⟨cu.toArray⟩, .int .i64 yr, .int .i64 mo, .int .i64 pe, .slice Ac nc cc, .int .i64 ro.c0, .int .i64 ro.c1, .int .i64 ro.c2, .int .i64 ro.c3, .int .i64 ro.c4, .int .i64 ro.c5, .int .i64 ro.c6, .int .i64 ro.c7, .int .i64 ro.c8, .int .i64 ro.c9, .int .i64 ro.c10, .int .i64 ro.c11, .int .i64 ro.c12, .int .i64 ro.c13, .int .i64 ro.c14, .slice Ae ne ce] 29)).alloc (.cells #[.int .i64 1, .string ⟨#[65, 115, 115, 101, 116, 115]⟩, .bool false, .int .i64 2, .string ⟨#[76, 105, 97, 98, 105, 108, 105, 116, 105, 101, 115]⟩, .bool true, .int .i64 3, .string ⟨#[69, 113, 117, 105, 116, 121]⟩, .bool true] 64)) (w.heap.size + 1 + 1) 3 (some ⟨w.heap.size + 1, 0, none⟩) 3 (secsC [⟨1, nmAssets, false⟩, ⟨2, nmLiab, true⟩, ⟨3, nmEquity, true⟩])) := by
    have := reads_litn (w.alloc (.cells #[.string ⟨cu.toArray⟩, .int .i64 yr, .int .i64 mo, .int .i64 pe, .slice Ac nc cc, .int .i64 ro.c0, .int .i64 ro.c1, .int .i64 ro.c2, .int .i64 ro.c3, .int .i64 ro.c4, .int .i64 ro.c5, .int .i64 ro.c6, .int .i64 ro.c7, .int .i64 ro.c8, .int .i64 ro.c9, .int .i64 ro.c10, .int .i64 ro.c11, .int .i64 ro.c12, .int .i64 ro.c13, .int .i64 ro.c14, .slice Ae ne ce] 29)) #[.int .i64 1, .string ⟨#[65, 115, 115, 101, 116, 115]⟩, .bool false, .int .i64 2, .string ⟨#[76, 105, 97, 98, 105, 108, 105, 116, 105, 101, 115]⟩, .bool true, .int .i64 3, .string ⟨#[69, 113, 117, 105, 116, 121]⟩, .bool true] 64 3 3 rfl
    simp only [World.size_alloc] at this
    exact this
  have HE := Lib.hid (Blk.new w 29 #[.string ⟨cu.toArray⟩, .int .i64 yr, .int .i64 mo, .int .i64 pe, .slice Ac nc cc, .int .i64 ro.c0, .int .i64 ro.c1, .int .i64 ro.c2, .int .i64 ro.c3, .int .i64 ro.c4, .int .i64 ro.c5, .int .i64 ro.c6, .int .i64 ro.c7, .int .i64 ro.c8, .int .i64 ro.c9, .int .i64 ro.c10, .int .i64 ro.c11, .int .i64 ro.c12, .int .i64 ro.c13, .int .i64 ro.c14, .slice Ae ne ce])
  go_enter Tryz.func8, Tryz.ntmps8
  go_wp2_with (refine wpList_load_grp (by first | rfl | simp [Region.wanted, yielded]) _ rfl _ rfl _ rfl HE.out ?_)
  refine (HC.out _ _ HB2.out HR2.out (by simp only [World.size_alloc]; omega)).mono ?_
  rintro e w1 ⟨rfl, hb1⟩
  have HB1 := Lib.hid (below_two HB2.out hb1)
  clear hb1
  go_wp2_with fail
  go_ret2
  exact ⟨rfl, HB1.out⟩
set_option maxRecDepth 100000 in
set_option maxHeartbeats 8000000 in
theorem pinc_yes (g : SGrp) (B : Nat) (w : World) (hE : Env w) (hg : GrpIn w B g) (hB : B ≤ w.heap.size) (hn : g.nc ≤ 1000) (hen : ∀ x ∈ g.ents, x.nc ≤ 1000) (hco : ∀ x ∈ g.chart, 0 ≤ x.code ∧ x.code ≤ 99999) (hv : grpP g.p = true) :
    Calls Tryz.prog 10 #[grpV g] w fun e w' => ∃ v, e = .returned (.tuple #[v, .int .i64 0]) ∧ w'.ownsRow w.heap.size 39 5 v (incRows g.chart).length (rowsCells (incRows g.chart)) ∧ Below w.heap.size w w' := by
  have HC : Hid (∀ (W : World) (C : Nat), Below w.heap.size w W → Reads W C 3 (some ⟨w.heap.size + 1, 0, none⟩) 2 (secsC [⟨4, nmIncome, true⟩, ⟨5, nmExpenses, false⟩]) → C ≤ W.heap.size → _) := fun W C hW hrd hC => rows_yes g [⟨4, nmIncome, true⟩, ⟨5, nmExpenses, false⟩] (some ⟨w.heap.size + 1, 0, none⟩) 2 2 B C W (hE.after hW) (hg.low hB (Nat.le_refl _) hW) hrd (by have := hW.size; omega) hC hn hen (by omega) hco hv
  clear hg hen hv hE hco
  obtain ⟨cu, yr, mo, pe, Ac, nc, cc, ch, ro, Ae, ne, ce, es⟩ := g
  unfold grpV at HC ⊢
  simp only [] at HC hn ⊢
  have HB2 : Hid (Below w.heap.size w ((w.alloc (.cells #[.string ⟨cu.toArray⟩, .int .i64 yr, .int .i64 mo, .int .i64 pe, .slice Ac nc cc, .int .i64 ro.c0, .int .i64 ro.c1, .int .i64 ro.c2, .int .i64 ro.c3, .int .i64 ro.c4, .int .i64 ro.c5, .int .i64 ro.c6, .int .i64 ro.c7, .int .i64 ro.c8, .int .i64 ro.c9, .int .i64 ro.c10, .int .i64 ro.c11, .int .i64 ro.c12, .int .i64 ro.c13, .int .i64 ro.c14, .slice Ae ne ce] 29)).alloc (.cells #[.int .i64 4, .string ⟨#[73, 110, 99, 111, 109, 101]⟩, .bool true, .int .i64 5, .string ⟨#[69, 120, 112, 101, 110, 115, 101, 115]⟩, .bool false] 64))) := ((Below.refl w.heap.size w).alloc (Nat.le_refl _) _).alloc (by simp) _
  have HR2 : Hid (Reads ((w.alloc (.cells #[.string ⟨cu.toArray⟩, .int .i64 yr, .int .i64 mo, .int .i64 pe, .slice Ac nc cc, .int .i64 ro.c0, .int .i64 ro.c1, .int .i64 ro.c2, .int .i64 ro.c3, .int .i64 ro.c4, .int .i64 ro.c5, .int .i64 ro.c6, .int .i64 ro.c7, .int .i64 ro.c8, .int .i64 ro.c9, .int .i64 ro.c10, .int .i64 ro.c11, .int .i64 ro.c12, .int .i64 ro.c13, .int .i64 ro.c14, .slice Ae ne ce] 29)).alloc (.cells #[.int .i64 4, .string ⟨#[73, 110, 99, 111, 109, 101]⟩, .bool true, .int .i64 5, .string ⟨#[69, 120, 112, 101, 110, 115, 101, 115]⟩, .bool false] 64)) (w.heap.size + 1 + 1) 3 (some ⟨w.heap.size + 1, 0, none⟩) 2 (secsC [⟨4, nmIncome, true⟩, ⟨5, nmExpenses, false⟩])) := by
    have := reads_litn (w.alloc (.cells #[.string ⟨cu.toArray⟩, .int .i64 yr, .int .i64 mo, .int .i64 pe, .slice Ac nc cc, .int .i64 ro.c0, .int .i64 ro.c1, .int .i64 ro.c2, .int .i64 ro.c3, .int .i64 ro.c4, .int .i64 ro.c5, .int .i64 ro.c6, .int .i64 ro.c7, .int .i64 ro.c8, .int .i64 ro.c9, .int .i64 ro.c10, .int .i64 ro.c11, .int .i64 ro.c12, .int .i64 ro.c13, .int .i64 ro.c14, .slice Ae ne ce] 29)) #[.int .i64 4, .string ⟨#[73, 110, 99, 111, 109, 101]⟩, .bool true, .int .i64 5, .string ⟨#[69, 120, 112, 101, 110, 115, 101, 115]⟩, .bool false] 64 3 2 rfl
    simp only [World.size_alloc] at this
    exact this
  have HE := Lib.hid (Blk.new w 29 #[.string ⟨cu.toArray⟩, .int .i64 yr, .int .i64 mo, .int .i64 pe, .slice Ac nc cc, .int .i64 ro.c0, .int .i64 ro.c1, .int .i64 ro.c2, .int .i64 ro.c3, .int .i64 ro.c4, .int .i64 ro.c5, .int .i64 ro.c6, .int .i64 ro.c7, .int .i64 ro.c8, .int .i64 ro.c9, .int .i64 ro.c10, .int .i64 ro.c11, .int .i64 ro.c12, .int .i64 ro.c13, .int .i64 ro.c14, .slice Ae ne ce])
  go_enter Tryz.func10, Tryz.ntmps10
  go_wp2_with (refine wpList_load_grp (by first | rfl | simp [Region.wanted, yielded]) _ rfl _ rfl _ rfl HE.out ?_)
  refine (HC.out _ _ HB2.out HR2.out (by simp only [World.size_alloc]; omega)).mono ?_
  rintro e w1 ⟨v, rfl, ho, hb1⟩
  have e1 : secsRows ch [⟨4, nmIncome, true⟩, ⟨5, nmExpenses, false⟩] = incRows ch := by simp [secsRows, incRows]
  rw [e1] at ho
  clear e1
  obtain ⟨A1, c1, rfl⟩ := own_slice ho
  have HO := Lib.hid ho
  have HB1 := Lib.hid (below_two HB2.out hb1)
  clear ho hb1
  go_wp2_with fail
  go_ret2
  refine ⟨_, rfl, ?_, HB1.out⟩
  exact own_mono (b' := w.heap.size) HO.out (by simp only [World.size_alloc]; omega)
set_option maxRecDepth 100000 in
set_option maxHeartbeats 8000000 in
theorem pinc_no (g : SGrp) (B : Nat) (w : World) (hg : GrpIn w B g) (hB : B ≤ w.heap.size) (hn : g.nc ≤ 1000) (hen : ∀ x ∈ g.ents, x.nc ≤ 1000) (hv : grpP g.p = false) :
    Calls Tryz.prog 10 #[grpV g] w fun e w' => e = .returned (.tuple #[.slice none 0 0, .int .i64 1]) ∧ Below w.heap.size w w' := by
  have HC : Hid (∀ (W : World) (C : Nat), Below w.heap.size w W → Reads W C 3 (some ⟨w.heap.size + 1, 0, none⟩) 2 (secsC [⟨4, nmIncome, true⟩, ⟨5, nmExpenses, false⟩]) → C ≤ W.heap.size → _) := fun W C hW hrd hC => rows_no g [⟨4, nmIncome, true⟩, ⟨5, nmExpenses, false⟩] (some ⟨w.heap.size + 1, 0, none⟩) 2 2 B C W (hg.low hB (Nat.le_refl _) hW) hrd (by have := hW.size; omega) hC hn hen (by omega) hv
  clear hg hen hv 
  obtain ⟨cu, yr, mo, pe, Ac, nc, cc, ch, ro, Ae, ne, ce, es⟩ := g
  unfold grpV at HC ⊢
  simp only [] at HC hn ⊢
  have HB2 : Hid (Below w.heap.size w ((w.alloc (.cells #[.string ⟨cu.toArray⟩, .int .i64 yr, .int .i64 mo, .int .i64 pe, .slice Ac nc cc, .int .i64 ro.c0, .int .i64 ro.c1, .int .i64 ro.c2, .int .i64 ro.c3, .int .i64 ro.c4, .int .i64 ro.c5, .int .i64 ro.c6, .int .i64 ro.c7, .int .i64 ro.c8, .int .i64 ro.c9, .int .i64 ro.c10, .int .i64 ro.c11, .int .i64 ro.c12, .int .i64 ro.c13, .int .i64 ro.c14, .slice Ae ne ce] 29)).alloc (.cells #[.int .i64 4, .string ⟨#[73, 110, 99, 111, 109, 101]⟩, .bool true, .int .i64 5, .string ⟨#[69, 120, 112, 101, 110, 115, 101, 115]⟩, .bool false] 64))) := ((Below.refl w.heap.size w).alloc (Nat.le_refl _) _).alloc (by simp) _
  have HR2 : Hid (Reads ((w.alloc (.cells #[.string ⟨cu.toArray⟩, .int .i64 yr, .int .i64 mo, .int .i64 pe, .slice Ac nc cc, .int .i64 ro.c0, .int .i64 ro.c1, .int .i64 ro.c2, .int .i64 ro.c3, .int .i64 ro.c4, .int .i64 ro.c5, .int .i64 ro.c6, .int .i64 ro.c7, .int .i64 ro.c8, .int .i64 ro.c9, .int .i64 ro.c10, .int .i64 ro.c11, .int .i64 ro.c12, .int .i64 ro.c13, .int .i64 ro.c14, .slice Ae ne ce] 29)).alloc (.cells #[.int .i64 4, .string ⟨#[73, 110, 99, 111, 109, 101]⟩, .bool true, .int .i64 5, .string ⟨#[69, 120, 112, 101, 110, 115, 101, 115]⟩, .bool false] 64)) (w.heap.size + 1 + 1) 3 (some ⟨w.heap.size + 1, 0, none⟩) 2 (secsC [⟨4, nmIncome, true⟩, ⟨5, nmExpenses, false⟩])) := by
    have := reads_litn (w.alloc (.cells #[.string ⟨cu.toArray⟩, .int .i64 yr, .int .i64 mo, .int .i64 pe, .slice Ac nc cc, .int .i64 ro.c0, .int .i64 ro.c1, .int .i64 ro.c2, .int .i64 ro.c3, .int .i64 ro.c4, .int .i64 ro.c5, .int .i64 ro.c6, .int .i64 ro.c7, .int .i64 ro.c8, .int .i64 ro.c9, .int .i64 ro.c10, .int .i64 ro.c11, .int .i64 ro.c12, .int .i64 ro.c13, .int .i64 ro.c14, .slice Ae ne ce] 29)) #[.int .i64 4, .string ⟨#[73, 110, 99, 111, 109, 101]⟩, .bool true, .int .i64 5, .string ⟨#[69, 120, 112, 101, 110, 115, 101, 115]⟩, .bool false] 64 3 2 rfl
    simp only [World.size_alloc] at this
    exact this
  have HE := Lib.hid (Blk.new w 29 #[.string ⟨cu.toArray⟩, .int .i64 yr, .int .i64 mo, .int .i64 pe, .slice Ac nc cc, .int .i64 ro.c0, .int .i64 ro.c1, .int .i64 ro.c2, .int .i64 ro.c3, .int .i64 ro.c4, .int .i64 ro.c5, .int .i64 ro.c6, .int .i64 ro.c7, .int .i64 ro.c8, .int .i64 ro.c9, .int .i64 ro.c10, .int .i64 ro.c11, .int .i64 ro.c12, .int .i64 ro.c13, .int .i64 ro.c14, .slice Ae ne ce])
  go_enter Tryz.func10, Tryz.ntmps10
  go_wp2_with (refine wpList_load_grp (by first | rfl | simp [Region.wanted, yielded]) _ rfl _ rfl _ rfl HE.out ?_)
  refine (HC.out _ _ HB2.out HR2.out (by simp only [World.size_alloc]; omega)).mono ?_
  rintro e w1 ⟨rfl, hb1⟩
  have HB1 := Lib.hid (below_two HB2.out hb1)
  clear hb1
  go_wp2_with fail
  go_ret2
  exact ⟨rfl, HB1.out⟩
end Go.Proofs.YtcmmppkmkejniaaGreatDoor
