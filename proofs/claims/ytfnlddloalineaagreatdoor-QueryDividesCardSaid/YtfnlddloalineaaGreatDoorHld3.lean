/-
  The filter's function at a fact; Holds of both. (printed by wip/tools/gen_hld3.py)
-/
import Derived.Test.YtfnlddloalineaaGreatDoorHld2
import Derived.Test.YtfnlddloalineaaGreatDoorRvl
namespace Go.Proofs.YtfnlddloalineaaGreatDoor
open Go.RowKit
set_option linter.unusedVariables false
set_option linter.unusedSimpArgs false
set_option maxRecDepth 100000
theorem own_at {w : World} {b n c : Nat} {e : TypeId} {A : Option Addr} {xs : List Value} (h : w.ownsRow b e 1 (.slice A n c) n xs) (hx : xs.length = n) {k : Nat} (hk : k < n) : ∃ g, A = some ⟨g, 0, none⟩ ∧ g < w.heap.size ∧ w.cell? ⟨g, k, none⟩ = some (xs.getD k undef) := by
  obtain ⟨g, cap, hv, _, hlt⟩ := h.form (by omega)
  have hA : A = some ⟨g, 0, none⟩ := by injection hv
  subst hA
  refine ⟨g, rfl, hlt, ?_⟩
  have := h.cells (g := g) rfl k (xs.getD k undef) (by rw [List.getD_eq_getElem?_getD, List.getElem?_eq_getElem (by omega)]; rfl)
  have e2 : (⟨g, 0, none⟩ : Addr).add k = ⟨g, k, none⟩ := by unfold Addr.add; split <;> simp_all
  rwa [e2] at this
theorem all_take {cs : List SCond} {p : SCond → Bool} (h : ∀ j, j < cs.length → p (cs.getD j default) = true) : cs.all p = true := by
  rw [List.all_eq_true]
  intro x hx
  obtain ⟨j, hj, rfl⟩ := List.mem_iff_getElem.1 hx
  have := h j hj
  rwa [List.getD_eq_getElem?_getD, List.getElem?_eq_getElem hj] at this
theorem all_not {cs : List SCond} {p : SCond → Bool} {k : Nat} (hk : k < cs.length) (h : p (cs.getD k default) = false) : cs.all p = false := by
  cases ha : cs.all p with
  | false => rfl
  | true =>
    rw [List.all_eq_true] at ha
    rw [List.getD_eq_getElem?_getD, List.getElem?_eq_getElem hk] at h
    have := ha _ (List.getElem_mem hk)
    rw [show (some cs[k]).getD default = cs[k] from rfl] at h
    rw [this] at h
    cases h
set_option maxHeartbeats 8000000 in
theorem filt_any (x : SFact) (cs : List SCond) (vl : Value) (cl : List Value) (w0 w : World) (hs : FlS w0 cs vl cl w) (hok : ∀ c, c ∈ cs → okCnd c) (hlen : cl.length = cs.length) (hbd : cl.length ≤ 1000) :
    Calls Tryz.prog 90 #[fctV x, .pointer (some ⟨w0.heap.size + 1, 0, none⟩)] w fun e w' => e = .returned (.bool (cs.all fun c => cndB c x)) ∧ Below w.heap.size w w' := by
  obtain ⟨A, c, rfl⟩ := own_slice hs.row
  have HR := Lib.hid hs.row
  have hl0 : w.cell? ⟨w0.heap.size + 1, 0, none⟩ = some (.slice A cl.length c) := hs.lblk.cell 0
  have hl1 : w0.heap.size + 1 < w.heap.size := hs.lblk.lt
  have HCLO : Hid (∀ k, k < cl.length → ∃ C G, cl.getD k undef = cloV C G ∧ ∀ wx, Below w.heap.size w wx → Calls Tryz.prog 118 #[fctV x, .pointer (some ⟨C, 0, none⟩), .pointer (some ⟨G, 0, none⟩)] wx fun e w' => e = .returned (.bool (cndB (cs.getD k default) x)) ∧ Below wx.heap.size wx w') := fun k hk => by
    obtain ⟨C, G, e, _, _, hC, hG⟩ := hs.clo k hk
    refine ⟨C, G, e, fun wx hwx => ?_⟩
    have hokc := hok (cs.getD k default) (by rw [List.getD_eq_getElem?_getD, List.getElem?_eq_getElem (by omega)]; exact List.getElem_mem _)
    have hC2 := (hwx.cell (World.block_lt_of_cell? _ _ (hC.cell 0))).trans (hC.cell 0)
    have hG0 := (hwx.cell (World.block_lt_of_cell? _ _ (hG.cell 0))).trans (hG.cell 0)
    have hG2 := (hwx.cell (World.block_lt_of_cell? _ _ (hG.cell 2))).trans (hG.cell 2)
    generalize cs.getD k default = cc at *
    obtain ⟨f, op, v⟩ := cc
    obtain ⟨f0, f4, o0, o5, _⟩ := hokc
    simp only [] at f0 f4 o0 o5 hC2 hG0 hG2
    have eo : op = ((op.toNat : Nat) : Int) := by omega
    have := clo_any x f v op.toNat C G wx f0 f4 (by omega) hC2 hG0 hG2
    rw [← eo] at this
    exact this
  have HLEN := Lib.hid hlen
  clear hs hok hlen
  generalize hcp : (fun c => cndB c x) = cp
  have HCP : Hid (∀ k, cndB (cs.getD k default) x = cp (cs.getD k default)) := fun k => by rw [← hcp]
  clear hcp
  obtain ⟨acc, ent, par, kind, dat, amt⟩ := x
  have HCL2 : Hid (∀ k, k < cl.length → ∃ C G, cl.getD k undef = cloV C G ∧ ∀ wx, Below w.heap.size w wx → Calls Tryz.prog 118 #[.agg #[.int .i64 acc, .int .i64 ent, .int .i64 par, .int .i64 kind, .int .i64 dat, .int .i64 amt], .pointer (some ⟨C, 0, none⟩), .pointer (some ⟨G, 0, none⟩)] wx fun e w' => e = .returned (.bool (cp (cs.getD k default))) ∧ Below wx.heap.size wx w') := fun k hk => by
    obtain ⟨C, G, e, h⟩ := HCLO.out k hk
    refine ⟨C, G, e, fun wx hwx => ?_⟩
    have := h wx hwx
    rw [HCP.out k] at this
    exact this
  clear HCLO HCP
  show Calls Tryz.prog 90 #[.agg #[.int .i64 acc, .int .i64 ent, .int .i64 par, .int .i64 kind, .int .i64 dat, .int .i64 amt], .pointer (some ⟨w0.heap.size + 1, 0, none⟩)] w _
  have hb := (Below.refl w.heap.size w).alloc (Nat.le_refl _) (.cells (#[.int .i64 acc, .int .i64 ent, .int .i64 par, .int .i64 kind, .int .i64 dat, .int .i64 amt] : Array Value) 56)
  have hk := Blk.new w 56 #[.int .i64 acc, .int .i64 ent, .int .i64 par, .int .i64 kind, .int .i64 dat, .int .i64 amt]
  obtain ⟨wz, hwz⟩ : ∃ wz, w.alloc (.cells (#[.int .i64 acc, .int .i64 ent, .int .i64 par, .int .i64 kind, .int .i64 dat, .int .i64 amt] : Array Value) 56) = wz := ⟨_, rfl⟩
  rw [hwz] at hb hk
  have hl2 := (hb.cell hl1).trans hl0
  have HBK : Hid (Below w.heap.size w wz ∧ Blk wz w.heap.size 56 #[.int .i64 acc, .int .i64 ent, .int .i64 par, .int .i64 kind, .int .i64 dat, .int .i64 amt]) := ⟨hb, hk⟩
  have hlt0 : w.heap.size < wz.heap.size := hk.lt
  clear hb hk
  go_enter Tryz.func90, Tryz.ntmps90
  go_wp2_with fail
  go_loopw [8] (fun i y => ∃ k : Nat, k ≤ cl.length ∧ i = .int .i64 k ∧ Below w.heap.size w y ∧ Blk y w.heap.size 56 #[.int .i64 acc, .int .i64 ent, .int .i64 par, .int .i64 kind, .int .i64 dat, .int .i64 amt] ∧ ∀ j, j < k → cp (cs.getD j default) = true) (fun i _ => cl.length - (intOf i).toNat)
  case atStart => exact ⟨0, by omega, rfl, HBK.out.1, HBK.out.2, fun j h => by omega⟩
  case round =>
    clear hl2 hlt0 hwz HBK
    obtain ⟨k, hk, rfl, hby, hbk, hd⟩ := hrel
    have HD := Lib.hid hd
    have HBY := Lib.hid hby
    have HBK := Lib.hid hbk
    have x0 : wr.cell? ⟨w.heap.size, 0, none⟩ = some (.int .i64 acc) := hbk.cell 0
    have x1 : wr.cell? ⟨w.heap.size, 1, none⟩ = some (.int .i64 ent) := hbk.cell 1
    have x2 : wr.cell? ⟨w.heap.size, 2, none⟩ = some (.int .i64 par) := hbk.cell 2
    have x3 : wr.cell? ⟨w.heap.size, 3, none⟩ = some (.int .i64 kind) := hbk.cell 3
    have x4 : wr.cell? ⟨w.heap.size, 4, none⟩ = some (.int .i64 dat) := hbk.cell 4
    have x5 : wr.cell? ⟨w.heap.size, 5, none⟩ = some (.int .i64 amt) := hbk.cell 5
    have hlt : w.heap.size < wr.heap.size := hbk.lt
    clear hd hbk
    by_cases hlk : k < cl.length
    · have k3 : decide ((k : Int) < (cl.length : Int)) = true := by rw [decide_eq_true_eq]; omega
      have k4 : (k : Int) < (cl.length : Int) := by omega
      obtain ⟨g, rfl, hg, hc⟩ := own_at HR.out rfl hlk
      obtain ⟨C, G, hcv, hcall⟩ := HCL2.out k hlk
      rw [hcv] at hc
      unfold cloV at hc
      have hc2 := (hby.cell hg).trans hc
      have HCA := Lib.hid (hcall wr hby)
      have HKL : Hid (k < cs.length) := by show _ < _; have := HLEN.out; omega
      have HNX : Hid (cp (cs.getD k default) = true → ∀ j, j < k + 1 → cp (cs.getD j default) = true) := fun h j hj => by
        by_cases e : j = k
        · rw [e]; exact h
        · exact HD.out j (by omega)
      have HNO : Hid (cp (cs.getD k default) = false → cs.all cp = false) := fun h => all_not HKL.out h
      clear hc hcv hcall hby
      generalize cp (cs.getD k default) = bb at *
      go_wp2_with fail
      refine HCA.out.mono ?_
      rintro e w2 ⟨rfl, hb2⟩
      cases bb with
      | false =>
        have F := Lib.hid (HNO.out rfl)
        have HB3 := Lib.hid (below_two HBY.out hb2)
        go_wp2_with fail
        go_ret
        exact ⟨by rw [F.out]; rfl, HB3.out⟩
      | true =>
        have F := Lib.hid (HNX.out rfl)
        have HB3 := Lib.hid (below_two HBY.out hb2)
        have HK3 := Lib.hid (HBK.out.below hb2 HBK.out.lt)
        go_wp2_with fail
        go_roundw
        case rel => exact ⟨k + 1, by omega, by go_num, HB3.out, HK3.out, F.out⟩
        case measure => simp [intOf]; omega
    · have k3 : decide ((k : Int) < (cl.length : Int)) = false := by rw [decide_eq_false_iff_not]; omega
      have F : Hid (cs.all cp = true) := all_take (fun j hj => HD.out j (by have := HLEN.out; omega))
      clear hby
      go_wp2_with fail
      go_ret
      exact ⟨by rw [F.out]; rfl, HBY.out⟩
set_option maxHeartbeats 16000000 in
/-- query.Holds -/
theorem holds_any (x : SFact) (verb : Int) (wh : List SCond) (okb : Bool) (Ab Aw : Option Addr) (nb nw cb cw B : Nat) (w : World) (hB : B ≤ w.heap.size) (hw : Reads w B 3 Aw nw (cndC wh)) (hn : nw ≤ 1000) (hok : okb = true → ∀ c, c ∈ wh → okCnd c)
    (hv : ∀ y, Below w.heap.size w y → Calls Tryz.prog 20 #[.agg #[.int .i64 verb, .slice Ab nb cb, .slice Aw nw cw]] y fun e w' => e = .returned (.bool okb) ∧ Below y.heap.size y w') :
    Calls Tryz.prog 24 #[.agg #[.int .i64 verb, .slice Ab nb cb, .slice Aw nw cw], fctV x] w fun e w' => e = .returned (.bool (okb && wh.all fun c => cndB c x)) ∧ Below w.heap.size w w' := by
  have hnw : wh.length = nw := by have := hw.1; rw [cndC_len] at this; omega
  have HV := Lib.hid hv
  have HFI : Hid (okb = true → ∀ y, Below w.heap.size w y → Calls Tryz.prog 57 #[.agg #[.int .i64 verb, .slice Ab nb cb, .slice Aw nw cw]] y fun e w' => ∃ vl cl, cl.length = nw ∧ e = .returned (.func (.func 90) #[] #[.pointer (some ⟨y.heap.size + 1, 0, none⟩)]) ∧ FlS y wh vl cl w') := fun h y hy => filter_any verb wh Ab Aw nb nw cb cw B y (hok h) (hw.lowQ hB (Nat.le_refl _) hy) (by have := hy.size; omega) hn
  have HFT : Hid (okb = true → ∀ vl cl w0 y, FlS w0 wh vl cl y → cl.length = nw → Calls Tryz.prog 90 #[fctV x, .pointer (some ⟨w0.heap.size + 1, 0, none⟩)] y fun e w' => e = .returned (.bool (wh.all fun c => cndB c x)) ∧ Below y.heap.size y w') := fun h vl cl w0 y hs hl => filt_any x wh vl cl w0 y hs (hok h) (by omega) (by omega)
  generalize (wh.all fun c => cndB c x) = RB at *
  clear hv hok hw
  obtain ⟨acc, ent, par, kind, dat, amt⟩ := x
  have HFT2 : Hid (okb = true → ∀ vl cl w0 y, FlS w0 wh vl cl y → cl.length = nw → Calls Tryz.prog 90 #[.agg #[.int .i64 acc, .int .i64 ent, .int .i64 par, .int .i64 kind, .int .i64 dat, .int .i64 amt], .pointer (some ⟨w0.heap.size + 1, 0, none⟩)] y fun e w' => e = .returned (.bool RB) ∧ Below y.heap.size y w') := HFT.out
  clear HFT
  have HFT := HFT2
  clear HFT2
  show Calls Tryz.prog 24 #[.agg #[.int .i64 verb, .slice Ab nb cb, .slice Aw nw cw], .agg #[.int .i64 acc, .int .i64 ent, .int .i64 par, .int .i64 kind, .int .i64 dat, .int .i64 amt]] w _
  have hb1 := (Below.refl w.heap.size w).alloc (Nat.le_refl _) (.cells (#[.int .i64 verb, .slice Ab nb cb, .slice Aw nw cw] : Array Value) 26)
  have hk1 := Blk.new w 26 #[.int .i64 verb, .slice Ab nb cb, .slice Aw nw cw]
  obtain ⟨wy, hwy⟩ : ∃ wy, w.alloc (.cells (#[.int .i64 verb, .slice Ab nb cb, .slice Aw nw cw] : Array Value) 26) = wy := ⟨_, rfl⟩
  rw [hwy] at hb1 hk1
  have hry : RvI w verb Ab Aw nb nw cb cw wy := ⟨hb1, hk1.lt, hk1.cell 0, hk1.cell 1, hk1.cell 2⟩
  have hk2 := Blk.new wy 56 #[.int .i64 acc, .int .i64 ent, .int .i64 par, .int .i64 kind, .int .i64 dat, .int .i64 amt]
  have hrz := hry.same ((Below.refl wy.heap.size wy).alloc (Nat.le_refl _) (.cells (#[.int .i64 acc, .int .i64 ent, .int .i64 par, .int .i64 kind, .int .i64 dat, .int .i64 amt] : Array Value) 56))
  obtain ⟨wz, hwz⟩ : ∃ wz, wy.alloc (.cells (#[.int .i64 acc, .int .i64 ent, .int .i64 par, .int .i64 kind, .int .i64 dat, .int .i64 amt] : Array Value) 56) = wz := ⟨_, rfl⟩
  rw [hwz] at hrz hk2
  obtain ⟨X, hX⟩ : ∃ X, wy.heap.size = X := ⟨_, rfl⟩
  rw [hX] at hk2
  have x0 : wz.cell? ⟨X, 0, none⟩ = some (.int .i64 acc) := hk2.cell 0
  have x1 : wz.cell? ⟨X, 1, none⟩ = some (.int .i64 ent) := hk2.cell 1
  have x2 : wz.cell? ⟨X, 2, none⟩ = some (.int .i64 par) := hk2.cell 2
  have x3 : wz.cell? ⟨X, 3, none⟩ = some (.int .i64 kind) := hk2.cell 3
  have x4 : wz.cell? ⟨X, 4, none⟩ = some (.int .i64 dat) := hk2.cell 4
  have x5 : wz.cell? ⟨X, 5, none⟩ = some (.int .i64 amt) := hk2.cell 5
  have HRZ := Lib.hid hrz
  obtain ⟨_, l1, c0, c1, c2⟩ := hrz
  clear hb1 hk1 hry hk2
  cases okb with
  | true =>
    show Calls _ _ _ _ (fun e w' => e = .returned (.bool RB) ∧ Below w.heap.size w w')
    go_enter Tryz.func24, Tryz.ntmps24
    go_upto_region 1 with fail
    refine wp_region_held_drew (S := fun w' => RvI w verb Ab Aw nb nw cb cw w' ∧ w'.cell? ⟨X, 0, none⟩ = some (.int .i64 acc) ∧ w'.cell? ⟨X, 1, none⟩ = some (.int .i64 ent) ∧ w'.cell? ⟨X, 2, none⟩ = some (.int .i64 par) ∧ w'.cell? ⟨X, 3, none⟩ = some (.int .i64 kind) ∧ w'.cell? ⟨X, 4, none⟩ = some (.int .i64 dat) ∧ w'.cell? ⟨X, 5, none⟩ = some (.int .i64 amt)) (by kernel_rfl) ⟨HRZ.out.same (Below.refl _ _).drew, x0, x1, x2, x3, x4, x5⟩ (fun hHeld => ?_)
    refine wpAnyH_take (i := 0) (v := ?vhy0) rfl (by kernel_rfl) (by kernel_rfl) (by kernel_rfl) (fun _ _ _ h => h) (Or.inl ⟨by rfl, ?hyhy0⟩) (by assumption) ?resthy0
    case hyhy0 => (intro w_ hSw; (try dsimp only at hSw); obtain ⟨⟨_, h1_, d0_, d1_, d2_⟩, y0_, y1_, y2_, y3_, y4_, y5_⟩ := hSw; go_simp; (try with_reducible rfl))
    (try simp only [Act.put, List.setIfInBounds_toArray, List.set_cons_zero, List.set_cons_succ, List.getElem_toArray, List.getElem_cons_zero, List.getElem_cons_succ])
    refine wpAnyH_ready (rs := [1]) (by kernel_rfl) (by simp) ?_
    refine AllReadyH.cons rfl (fun K hK => ?_) AllReadyH.nil
    go_simp
    go_wp2_with (go_at_call 20; refine (HV.out _ hHeld.1.below).mono ?_; rintro e w3 ⟨rfl, hb3⟩)
    refine hK.out _ _ ?hShy1 (fun hHeldhy1 => ?_)
    case hShy1 => exact ⟨hHeld.1.same hb3, (hb3.cell (World.block_lt_of_cell? _ _ hHeld.2.1)).trans hHeld.2.1, (hb3.cell (World.block_lt_of_cell? _ _ hHeld.2.2.1)).trans hHeld.2.2.1, (hb3.cell (World.block_lt_of_cell? _ _ hHeld.2.2.2.1)).trans hHeld.2.2.2.1, (hb3.cell (World.block_lt_of_cell? _ _ hHeld.2.2.2.2.1)).trans hHeld.2.2.2.2.1, (hb3.cell (World.block_lt_of_cell? _ _ hHeld.2.2.2.2.2.1)).trans hHeld.2.2.2.2.2.1, (hb3.cell (World.block_lt_of_cell? _ _ hHeld.2.2.2.2.2.2)).trans hHeld.2.2.2.2.2.2⟩
    clear hK K
    (try simp only [Act.put, List.setIfInBounds_toArray, List.set_cons_zero, List.set_cons_succ, List.getElem_toArray, List.getElem_cons_zero, List.getElem_cons_succ])
    refine wpAnyH_take (i := 2) (v := ?vhy2) rfl (by kernel_rfl) (by kernel_rfl) (by kernel_rfl) (fun _ _ _ h => h) (Or.inl ⟨by rfl, ?hyhy2⟩) (by assumption) ?resthy2
    case hyhy2 => (intro w_ hSw; (try dsimp only at hSw); obtain ⟨⟨_, h1_, d0_, d1_, d2_⟩, y0_, y1_, y2_, y3_, y4_, y5_⟩ := hSw; go_simp; (try with_reducible rfl))
    (try simp only [Act.put, List.setIfInBounds_toArray, List.set_cons_zero, List.set_cons_succ, List.getElem_toArray, List.getElem_cons_zero, List.getElem_cons_succ])
    refine wpAnyH_take (i := 3) (v := ?vhy3) rfl (by kernel_rfl) (by kernel_rfl) (by kernel_rfl) (fun _ _ _ h => h) (Or.inl ⟨by rfl, ?hyhy3⟩) (by assumption) ?resthy3
    case hyhy3 => (intro w_ hSw; (try dsimp only at hSw); obtain ⟨⟨_, h1_, d0_, d1_, d2_⟩, y0_, y1_, y2_, y3_, y4_, y5_⟩ := hSw; go_simp; (try with_reducible rfl))
    (try simp only [Act.put, List.setIfInBounds_toArray, List.set_cons_zero, List.set_cons_succ, List.getElem_toArray, List.getElem_cons_zero, List.getElem_cons_succ])
    refine wpAnyH_take (i := 5) (v := ?vhy5) rfl (by kernel_rfl) (by kernel_rfl) (by kernel_rfl) (fun _ _ _ h => h) (Or.inl ⟨by rfl, ?hyhy5⟩) (by assumption) ?resthy5
    case hyhy5 => (intro w_ hSw; (try dsimp only at hSw); obtain ⟨⟨_, h1_, d0_, d1_, d2_⟩, y0_, y1_, y2_, y3_, y4_, y5_⟩ := hSw; go_simp; (try with_reducible rfl))
    (try simp only [Act.put, List.setIfInBounds_toArray, List.set_cons_zero, List.set_cons_succ, List.getElem_toArray, List.getElem_cons_zero, List.getElem_cons_succ])
    refine wpAnyH_ready (rs := [4]) (by kernel_rfl) (by simp) ?_
    refine AllReadyH.cons rfl (fun K hK => ?_) AllReadyH.nil
    go_simp
    go_wp2_with (go_at_call 57; refine (HFI.out (by simp) _ hHeldhy1.1.below).mono ?_; rintro e w4 ⟨vl, cl, hcl, rfl, hfl⟩)
    refine hK.out _ _ ?hShy4 (fun hHeldhy4 => ?_)
    case hShy4 => exact ⟨hHeldhy1.1.same hfl.below, (hfl.below.cell (World.block_lt_of_cell? _ _ hHeldhy1.2.1)).trans hHeldhy1.2.1, (hfl.below.cell (World.block_lt_of_cell? _ _ hHeldhy1.2.2.1)).trans hHeldhy1.2.2.1, (hfl.below.cell (World.block_lt_of_cell? _ _ hHeldhy1.2.2.2.1)).trans hHeldhy1.2.2.2.1, (hfl.below.cell (World.block_lt_of_cell? _ _ hHeldhy1.2.2.2.2.1)).trans hHeldhy1.2.2.2.2.1, (hfl.below.cell (World.block_lt_of_cell? _ _ hHeldhy1.2.2.2.2.2.1)).trans hHeldhy1.2.2.2.2.2.1, (hfl.below.cell (World.block_lt_of_cell? _ _ hHeldhy1.2.2.2.2.2.2)).trans hHeldhy1.2.2.2.2.2.2⟩
    clear hK K
    (try simp only [Act.put, List.setIfInBounds_toArray, List.set_cons_zero, List.set_cons_succ, List.getElem_toArray, List.getElem_cons_zero, List.getElem_cons_succ])
    refine wpAnyH_ready (rs := [6]) (by kernel_rfl) (by simp) ?_
    refine AllReadyH.cons rfl (fun K hK => ?_) AllReadyH.nil
    go_simp
    go_wp2_with (go_at_call 90; refine (HFT.out (by simp) vl cl _ _ hfl hcl).mono ?_; rintro e w5 ⟨rfl, hb5⟩)
    refine hK.out _ _ ?hShy6 (fun hHeldhy6 => ?_)
    case hShy6 => exact ⟨hHeldhy4.1.same hb5, (hb5.cell (World.block_lt_of_cell? _ _ hHeldhy4.2.1)).trans hHeldhy4.2.1, (hb5.cell (World.block_lt_of_cell? _ _ hHeldhy4.2.2.1)).trans hHeldhy4.2.2.1, (hb5.cell (World.block_lt_of_cell? _ _ hHeldhy4.2.2.2.1)).trans hHeldhy4.2.2.2.1, (hb5.cell (World.block_lt_of_cell? _ _ hHeldhy4.2.2.2.2.1)).trans hHeldhy4.2.2.2.2.1, (hb5.cell (World.block_lt_of_cell? _ _ hHeldhy4.2.2.2.2.2.1)).trans hHeldhy4.2.2.2.2.2.1, (hb5.cell (World.block_lt_of_cell? _ _ hHeldhy4.2.2.2.2.2.2)).trans hHeldhy4.2.2.2.2.2.2⟩
    clear hK K
    (try simp only [Act.put, List.setIfInBounds_toArray, List.set_cons_zero, List.set_cons_succ, List.getElem_toArray, List.getElem_cons_zero, List.getElem_cons_succ])
    refine wpAnyH_take (i := 7) (v := ?vhy7) rfl (by kernel_rfl) (by kernel_rfl) (by kernel_rfl) (fun _ _ _ h => h) (Or.inl ⟨by rfl, ?hyhy7⟩) (by assumption) ?resthy7
    case hyhy7 => (intro w_ hSw; (try dsimp only at hSw); obtain ⟨⟨_, h1_, d0_, d1_, d2_⟩, y0_, y1_, y2_, y3_, y4_, y5_⟩ := hSw; go_simp; (try with_reducible rfl))
    (try simp only [Act.put, List.setIfInBounds_toArray, List.set_cons_zero, List.set_cons_succ, List.getElem_toArray, List.getElem_cons_zero, List.getElem_cons_succ])
    refine wpAnyH_take (i := 8) (v := ?vhy8) rfl (by kernel_rfl) (by kernel_rfl) (by kernel_rfl) (fun _ _ _ h => h) (Or.inl ⟨by rfl, ?hyhy8⟩) (by assumption) ?resthy8
    case hyhy8 => (intro w_ hSw; (try dsimp only at hSw); obtain ⟨⟨_, h1_, d0_, d1_, d2_⟩, y0_, y1_, y2_, y3_, y4_, y5_⟩ := hSw; go_simp; (try with_reducible rfl))
    (try simp only [Act.put, List.setIfInBounds_toArray, List.set_cons_zero, List.set_cons_succ, List.getElem_toArray, List.getElem_cons_zero, List.getElem_cons_succ])
    refine wpAnyH_done (by kernel_rfl) ?_ _
    have HBF := Lib.hid hHeldhy6.1.below
    go_wp2_with fail
    go_ret
    exact ⟨rfl, HBF.out⟩
  | false =>
    show Calls _ _ _ _ (fun e w' => e = .returned (.bool false) ∧ Below w.heap.size w w')
    go_enter Tryz.func24, Tryz.ntmps24
    go_upto_region 1 with fail
    refine wp_region_held_drew (S := fun w' => RvI w verb Ab Aw nb nw cb cw w' ∧ w'.cell? ⟨X, 0, none⟩ = some (.int .i64 acc) ∧ w'.cell? ⟨X, 1, none⟩ = some (.int .i64 ent) ∧ w'.cell? ⟨X, 2, none⟩ = some (.int .i64 par) ∧ w'.cell? ⟨X, 3, none⟩ = some (.int .i64 kind) ∧ w'.cell? ⟨X, 4, none⟩ = some (.int .i64 dat) ∧ w'.cell? ⟨X, 5, none⟩ = some (.int .i64 amt)) (by kernel_rfl) ⟨HRZ.out.same (Below.refl _ _).drew, x0, x1, x2, x3, x4, x5⟩ (fun hHeld => ?_)
    refine wpAnyH_take (i := 0) (v := ?vhn0) rfl (by kernel_rfl) (by kernel_rfl) (by kernel_rfl) (fun _ _ _ h => h) (Or.inl ⟨by rfl, ?hyhn0⟩) (by assumption) ?resthn0
    case hyhn0 => (intro w_ hSw; (try dsimp only at hSw); obtain ⟨⟨_, h1_, d0_, d1_, d2_⟩, y0_, y1_, y2_, y3_, y4_, y5_⟩ := hSw; go_simp; (try with_reducible rfl))
    (try simp only [Act.put, List.setIfInBounds_toArray, List.set_cons_zero, List.set_cons_succ, List.getElem_toArray, List.getElem_cons_zero, List.getElem_cons_succ])
    refine wpAnyH_ready (rs := [1]) (by kernel_rfl) (by simp) ?_
    refine AllReadyH.cons rfl (fun K hK => ?_) AllReadyH.nil
    go_simp
    go_wp2_with (go_at_call 20; refine (HV.out _ hHeld.1.below).mono ?_; rintro e w3 ⟨rfl, hb3⟩)
    refine hK.out _ _ ?hShn1 (fun hHeldhn1 => ?_)
    case hShn1 => exact ⟨hHeld.1.same hb3, (hb3.cell (World.block_lt_of_cell? _ _ hHeld.2.1)).trans hHeld.2.1, (hb3.cell (World.block_lt_of_cell? _ _ hHeld.2.2.1)).trans hHeld.2.2.1, (hb3.cell (World.block_lt_of_cell? _ _ hHeld.2.2.2.1)).trans hHeld.2.2.2.1, (hb3.cell (World.block_lt_of_cell? _ _ hHeld.2.2.2.2.1)).trans hHeld.2.2.2.2.1, (hb3.cell (World.block_lt_of_cell? _ _ hHeld.2.2.2.2.2.1)).trans hHeld.2.2.2.2.2.1, (hb3.cell (World.block_lt_of_cell? _ _ hHeld.2.2.2.2.2.2)).trans hHeld.2.2.2.2.2.2⟩
    clear hK K
    (try simp only [Act.put, List.setIfInBounds_toArray, List.set_cons_zero, List.set_cons_succ, List.getElem_toArray, List.getElem_cons_zero, List.getElem_cons_succ])
    refine wpAnyH_take (i := 2) (v := ?vhn2) rfl (by kernel_rfl) (by kernel_rfl) (by kernel_rfl) (fun _ _ _ h => h) (Or.inl ⟨by rfl, ?hyhn2⟩) (by assumption) ?resthn2
    case hyhn2 => (intro w_ hSw; (try dsimp only at hSw); obtain ⟨⟨_, h1_, d0_, d1_, d2_⟩, y0_, y1_, y2_, y3_, y4_, y5_⟩ := hSw; go_simp; (try with_reducible rfl))
    (try simp only [Act.put, List.setIfInBounds_toArray, List.set_cons_zero, List.set_cons_succ, List.getElem_toArray, List.getElem_cons_zero, List.getElem_cons_succ])
    refine wpAnyH_take (i := 3) (v := undef) rfl (by kernel_rfl) (by kernel_rfl) (by kernel_rfl) (fun _ _ _ h => h) (Or.inr ⟨by rfl, rfl⟩) (by assumption) ?resthn3
    (try simp only [Act.put, List.setIfInBounds_toArray, List.set_cons_zero, List.set_cons_succ, List.getElem_toArray, List.getElem_cons_zero, List.getElem_cons_succ])
    refine wpAnyH_take (i := 4) (v := undef) rfl (by kernel_rfl) (by kernel_rfl) (by kernel_rfl) (fun _ _ _ h => h) (Or.inr ⟨by rfl, rfl⟩) (by assumption) ?resthn4
    (try simp only [Act.put, List.setIfInBounds_toArray, List.set_cons_zero, List.set_cons_succ, List.getElem_toArray, List.getElem_cons_zero, List.getElem_cons_succ])
    refine wpAnyH_take (i := 5) (v := undef) rfl (by kernel_rfl) (by kernel_rfl) (by kernel_rfl) (fun _ _ _ h => h) (Or.inr ⟨by rfl, rfl⟩) (by assumption) ?resthn5
    (try simp only [Act.put, List.setIfInBounds_toArray, List.set_cons_zero, List.set_cons_succ, List.getElem_toArray, List.getElem_cons_zero, List.getElem_cons_succ])
    refine wpAnyH_take (i := 6) (v := undef) rfl (by kernel_rfl) (by kernel_rfl) (by kernel_rfl) (fun _ _ _ h => h) (Or.inr ⟨by rfl, rfl⟩) (by assumption) ?resthn6
    (try simp only [Act.put, List.setIfInBounds_toArray, List.set_cons_zero, List.set_cons_succ, List.getElem_toArray, List.getElem_cons_zero, List.getElem_cons_succ])
    refine wpAnyH_take (i := 7) (v := ?vhn7) rfl (by kernel_rfl) (by kernel_rfl) (by kernel_rfl) (fun _ _ _ h => h) (Or.inl ⟨by rfl, ?hyhn7⟩) (by assumption) ?resthn7
    case hyhn7 => (intro w_ hSw; (try dsimp only at hSw); obtain ⟨⟨_, h1_, d0_, d1_, d2_⟩, y0_, y1_, y2_, y3_, y4_, y5_⟩ := hSw; go_simp; (try with_reducible rfl))
    (try simp only [Act.put, List.setIfInBounds_toArray, List.set_cons_zero, List.set_cons_succ, List.getElem_toArray, List.getElem_cons_zero, List.getElem_cons_succ])
    refine wpAnyH_take (i := 8) (v := ?vhn8) rfl (by kernel_rfl) (by kernel_rfl) (by kernel_rfl) (fun _ _ _ h => h) (Or.inl ⟨by rfl, ?hyhn8⟩) (by assumption) ?resthn8
    case hyhn8 => (intro w_ hSw; (try dsimp only at hSw); obtain ⟨⟨_, h1_, d0_, d1_, d2_⟩, y0_, y1_, y2_, y3_, y4_, y5_⟩ := hSw; go_simp; (try with_reducible rfl))
    (try simp only [Act.put, List.setIfInBounds_toArray, List.set_cons_zero, List.set_cons_succ, List.getElem_toArray, List.getElem_cons_zero, List.getElem_cons_succ])
    refine wpAnyH_done (by kernel_rfl) ?_ _
    have HBF := Lib.hid hHeldhn1.1.below
    go_wp2_with fail
    go_ret
    exact ⟨rfl, HBF.out⟩
set_option maxHeartbeats 16000000 in
/-- the reference's Holds -/
theorem rholds_any (x : SFact) (verb : Int) (wh : List SCond) (okb : Bool) (Ab Aw : Option Addr) (nb nw cb cw B : Nat) (w : World) (hB : B ≤ w.heap.size) (hw : Reads w B 3 Aw nw (cndC wh)) (hn : nw ≤ 1000) (hok : okb = true → ∀ c, c ∈ wh → okCnd c)
    (hv : ∀ y, Below w.heap.size w y → Calls Tryz.prog 21 #[.agg #[.int .i64 verb, .slice Ab nb cb, .slice Aw nw cw]] y fun e w' => e = .returned (.bool okb) ∧ Below y.heap.size y w') :
    Calls Tryz.prog 25 #[.agg #[.int .i64 verb, .slice Ab nb cb, .slice Aw nw cw], fctV x] w fun e w' => e = .returned (.bool (okb && wh.all fun c => cndB c x)) ∧ Below w.heap.size w w' := by
  have hnw : wh.length = nw := by have := hw.1; rw [cndC_len] at this; omega
  have HV := Lib.hid hv
  have HOK := Lib.hid hok
  have HWH := Lib.hid hw
  have HNW := Lib.hid hnw
  have HFD : Hid (∀ f y, 0 ≤ f → f ≤ 4 → Calls Tryz.prog 59 #[fctV x, .int .i64 f] y fun e w' => e = .returned (.int .i64 (fldF x f)) ∧ Below y.heap.size y w') := fun f y h0 h4 => rfield_any x f y h0 h4
  have HCP : Hid (∀ c : SCond, cndB c x = fulB (fldF x c.f) c.o c.v) := fun c => rfl
  generalize hcp : (fun c => cndB c x) = cp
  have HCP2 : Hid (∀ c : SCond, cp c = fulB (fldF x c.f) c.o c.v) := fun c => by rw [← hcp]; rfl
  clear hcp HCP hv hok hw hnw
  generalize hfx : fldF x = FX at *
  obtain ⟨acc, ent, par, kind, dat, amt⟩ := x
  have HFD2 : Hid (∀ f y, 0 ≤ f → f ≤ 4 → Calls Tryz.prog 59 #[.agg #[.int .i64 acc, .int .i64 ent, .int .i64 par, .int .i64 kind, .int .i64 dat, .int .i64 amt], .int .i64 f] y fun e w' => e = .returned (.int .i64 (FX f)) ∧ Below y.heap.size y w') := HFD.out
  clear HFD hfx
  have HFD := HFD2
  clear HFD2
  show Calls Tryz.prog 25 #[.agg #[.int .i64 verb, .slice Ab nb cb, .slice Aw nw cw], .agg #[.int .i64 acc, .int .i64 ent, .int .i64 par, .int .i64 kind, .int .i64 dat, .int .i64 amt]] w _
  have hb1 := (Below.refl w.heap.size w).alloc (Nat.le_refl _) (.cells (#[.int .i64 verb, .slice Ab nb cb, .slice Aw nw cw] : Array Value) 32)
  have hk1 := Blk.new w 32 #[.int .i64 verb, .slice Ab nb cb, .slice Aw nw cw]
  obtain ⟨wy, hwy⟩ : ∃ wy, w.alloc (.cells (#[.int .i64 verb, .slice Ab nb cb, .slice Aw nw cw] : Array Value) 32) = wy := ⟨_, rfl⟩
  rw [hwy] at hb1 hk1
  have hry : RvI w verb Ab Aw nb nw cb cw wy := ⟨hb1, hk1.lt, hk1.cell 0, hk1.cell 1, hk1.cell 2⟩
  have hk2 := Blk.new wy 55 #[.int .i64 acc, .int .i64 ent, .int .i64 par, .int .i64 kind, .int .i64 dat, .int .i64 amt]
  have hrz := hry.same ((Below.refl wy.heap.size wy).alloc (Nat.le_refl _) (.cells (#[.int .i64 acc, .int .i64 ent, .int .i64 par, .int .i64 kind, .int .i64 dat, .int .i64 amt] : Array Value) 55))
  obtain ⟨wz, hwz⟩ : ∃ wz, wy.alloc (.cells (#[.int .i64 acc, .int .i64 ent, .int .i64 par, .int .i64 kind, .int .i64 dat, .int .i64 amt] : Array Value) 55) = wz := ⟨_, rfl⟩
  rw [hwz] at hrz hk2
  obtain ⟨X, hX⟩ : ∃ X, wy.heap.size = X := ⟨_, rfl⟩
  rw [hX] at hk2
  have x0 : wz.cell? ⟨X, 0, none⟩ = some (.int .i64 acc) := hk2.cell 0
  have x1 : wz.cell? ⟨X, 1, none⟩ = some (.int .i64 ent) := hk2.cell 1
  have x2 : wz.cell? ⟨X, 2, none⟩ = some (.int .i64 par) := hk2.cell 2
  have x3 : wz.cell? ⟨X, 3, none⟩ = some (.int .i64 kind) := hk2.cell 3
  have x4 : wz.cell? ⟨X, 4, none⟩ = some (.int .i64 dat) := hk2.cell 4
  have x5 : wz.cell? ⟨X, 5, none⟩ = some (.int .i64 amt) := hk2.cell 5
  have HRZ := Lib.hid hrz
  obtain ⟨_, l1, c0, c1, c2⟩ := hrz
  clear hb1 hk1 hry hk2
  cases okb with
  | false =>
    show Calls _ _ _ _ (fun e w' => e = .returned (.bool false) ∧ Below w.heap.size w w')
    go_enter Tryz.func25, Tryz.ntmps25
    go_wp2_with fail
    refine (HV.out _ HRZ.out.below).mono ?_
    rintro e w3 ⟨rfl, hb3⟩
    have HBF := Lib.hid (HRZ.out.same hb3).below
    clear hb3
    go_wp2_with fail
    go_ret
    exact ⟨rfl, HBF.out⟩
  | true =>
    show Calls _ _ _ _ (fun e w' => e = .returned (.bool (wh.all cp)) ∧ Below w.heap.size w w')
    go_enter Tryz.func25, Tryz.ntmps25
    go_wp2_with fail
    refine (HV.out _ HRZ.out.below).mono ?_
    rintro e w3 ⟨rfl, hb3⟩
    have HS3 : Hid (RvI w verb Ab Aw nb nw cb cw w3 ∧ w3.cell? ⟨X, 0, none⟩ = some (.int .i64 acc) ∧ w3.cell? ⟨X, 1, none⟩ = some (.int .i64 ent) ∧ w3.cell? ⟨X, 2, none⟩ = some (.int .i64 par) ∧ w3.cell? ⟨X, 3, none⟩ = some (.int .i64 kind) ∧ w3.cell? ⟨X, 4, none⟩ = some (.int .i64 dat) ∧ w3.cell? ⟨X, 5, none⟩ = some (.int .i64 amt)) := ⟨HRZ.out.same hb3, (hb3.cell (World.block_lt_of_cell? _ _ x0)).trans x0, (hb3.cell (World.block_lt_of_cell? _ _ x1)).trans x1, (hb3.cell (World.block_lt_of_cell? _ _ x2)).trans x2, (hb3.cell (World.block_lt_of_cell? _ _ x3)).trans x3, (hb3.cell (World.block_lt_of_cell? _ _ x4)).trans x4, (hb3.cell (World.block_lt_of_cell? _ _ x5)).trans x5⟩
    clear hb3 HRZ c0 c1 c2 l1 x0 x1 x2 x3 x4 x5 hwz hX hwy
    go_wp2_with fail
    go_loopw [5] (fun i y => ∃ k : Nat, k ≤ nw ∧ i = .int .i64 k ∧ (RvI w verb Ab Aw nb nw cb cw y ∧ y.cell? ⟨X, 0, none⟩ = some (.int .i64 acc) ∧ y.cell? ⟨X, 1, none⟩ = some (.int .i64 ent) ∧ y.cell? ⟨X, 2, none⟩ = some (.int .i64 par) ∧ y.cell? ⟨X, 3, none⟩ = some (.int .i64 kind) ∧ y.cell? ⟨X, 4, none⟩ = some (.int .i64 dat) ∧ y.cell? ⟨X, 5, none⟩ = some (.int .i64 amt)) ∧ ∀ j, j < k → cp (wh.getD j default) = true) (fun i _ => nw - (intOf i).toNat)
    case atStart => exact ⟨0, by omega, rfl, HS3.out, fun j h => by omega⟩
    case round =>
      clear HS3
      obtain ⟨k, hk, rfl, hs, hd⟩ := hrel
      have HD := Lib.hid hd
      have HS := Lib.hid hs
      obtain ⟨⟨hbl, l1, c0, c1, c2⟩, x0, x1, x2, x3, x4, x5⟩ := hs
      clear hd
      by_cases hlk : k < nw
      · have k3 : decide ((k : Int) < (nw : Int)) = true := by rw [decide_eq_true_eq]; omega
        have k4 : (k : Int) < (nw : Int) := by omega
        obtain ⟨ad, rfl, had, b0, b1, b2⟩ := (HWH.out.lowQ hB (Nat.le_refl _) hbl).cnd_at hlk
        have hkl : k < wh.length := by have := HNW.out; omega
        have hokc := HOK.out (by simp) (wh.getD k default) (by rw [List.getD_eq_getElem?_getD, List.getElem?_eq_getElem hkl]; exact List.getElem_mem _)
        have HNX : Hid (cp (wh.getD k default) = true → ∀ j, j < k + 1 → cp (wh.getD j default) = true) := fun h j hj => by
          by_cases e : j = k
          · rw [e]; exact h
          · exact HD.out j (by omega)
        have HNO : Hid (cp (wh.getD k default) = false → wh.all cp = false) := fun h => all_not hkl h
        have HCE := Lib.hid (HCP2.out (wh.getD k default))
        generalize wh.getD k default = cc at *
        obtain ⟨f, op, v⟩ := cc
        obtain ⟨f0, f4, o0, o5, _⟩ := hokc
        simp only [] at b0 b1 b2 f0 f4 o0 o5
        replace HCE : Hid (cp ⟨f, op, v⟩ = fulB (FX f) op v) := HCE
        have HFF : Hid (∀ y, Calls Tryz.prog 58 #[.int .i64 (FX f), .int .i64 op, .int .i64 v] y fun e w' => e = .returned (.bool (cp ⟨f, op, v⟩)) ∧ y = w') := fun y => by rw [HCE.out]; exact fulfils_any _ _ _ y o0 o5
        have HFG : Hid (∀ y, Calls Tryz.prog 59 #[.agg #[.int .i64 acc, .int .i64 ent, .int .i64 par, .int .i64 kind, .int .i64 dat, .int .i64 amt], .int .i64 f] y fun e w' => e = .returned (.int .i64 (FX f)) ∧ Below y.heap.size y w') := fun y => HFD.out f y f0 f4
        clear HCE
        generalize cp ⟨f, op, v⟩ = bb at *
        generalize FX f = fx at *
        go_upto_region 6 with fail
        refine wp_region_held_drew (S := fun w' => (RvI w verb Ab (some ad) nb nw cb cw w' ∧ w'.cell? ⟨X, 0, none⟩ = some (.int .i64 acc) ∧ w'.cell? ⟨X, 1, none⟩ = some (.int .i64 ent) ∧ w'.cell? ⟨X, 2, none⟩ = some (.int .i64 par) ∧ w'.cell? ⟨X, 3, none⟩ = some (.int .i64 kind) ∧ w'.cell? ⟨X, 4, none⟩ = some (.int .i64 dat) ∧ w'.cell? ⟨X, 5, none⟩ = some (.int .i64 amt)) ∧ w'.cell? (ad.add (k * 3)) = some (.int .i64 f) ∧ w'.cell? ⟨(ad.add (k * 3)).block, (ad.add (k * 3)).off + 1, none⟩ = some (.int .i64 op) ∧ w'.cell? ⟨(ad.add (k * 3)).block, (ad.add (k * 3)).off + 2, none⟩ = some (.int .i64 v)) (by kernel_rfl) ⟨⟨HS.out.1.same (Below.refl _ _).drew, HS.out.2⟩, b0, b1, b2⟩ (fun hHeld => ?_)
        refine wpAnyH_take (i := 0) (v := ?vr0) rfl (by kernel_rfl) (by kernel_rfl) (by kernel_rfl) (fun _ _ _ h => h) (Or.inl ⟨by rfl, ?hyr0⟩) (by assumption) ?restr0
        case hyr0 => (intro w_ hSw; (try dsimp only at hSw); obtain ⟨⟨⟨_, h1_, d0_, d1_, d2_⟩, y0_, y1_, y2_, y3_, y4_, y5_⟩, z0_, z1_, z2_⟩ := hSw; go_simp; (try with_reducible rfl))
        (try simp only [Act.put, List.setIfInBounds_toArray, List.set_cons_zero, List.set_cons_succ, List.getElem_toArray, List.getElem_cons_zero, List.getElem_cons_succ])
        refine wpAnyH_take (i := 1) (v := ?vr1) rfl (by kernel_rfl) (by kernel_rfl) (by kernel_rfl) (fun _ _ _ h => h) (Or.inl ⟨by rfl, ?hyr1⟩) (by assumption) ?restr1
        case hyr1 => (intro w_ hSw; (try dsimp only at hSw); obtain ⟨⟨⟨_, h1_, d0_, d1_, d2_⟩, y0_, y1_, y2_, y3_, y4_, y5_⟩, z0_, z1_, z2_⟩ := hSw; go_simp; (try with_reducible rfl))
        (try simp only [Act.put, List.setIfInBounds_toArray, List.set_cons_zero, List.set_cons_succ, List.getElem_toArray, List.getElem_cons_zero, List.getElem_cons_succ])
        refine wpAnyH_take (i := 2) (v := ?vr2) rfl (by kernel_rfl) (by kernel_rfl) (by kernel_rfl) (fun _ _ _ h => h) (Or.inl ⟨by rfl, ?hyr2⟩) (by assumption) ?restr2
        case hyr2 => (intro w_ hSw; (try dsimp only at hSw); obtain ⟨⟨⟨_, h1_, d0_, d1_, d2_⟩, y0_, y1_, y2_, y3_, y4_, y5_⟩, z0_, z1_, z2_⟩ := hSw; go_simp; (try with_reducible rfl))
        (try simp only [Act.put, List.setIfInBounds_toArray, List.set_cons_zero, List.set_cons_succ, List.getElem_toArray, List.getElem_cons_zero, List.getElem_cons_succ])
        refine wpAnyH_take (i := 3) (v := ?vr3) rfl (by kernel_rfl) (by kernel_rfl) (by kernel_rfl) (fun _ _ _ h => h) (Or.inl ⟨by rfl, ?hyr3⟩) (by assumption) ?restr3
        case hyr3 => (intro w_ hSw; (try dsimp only at hSw); obtain ⟨⟨⟨_, h1_, d0_, d1_, d2_⟩, y0_, y1_, y2_, y3_, y4_, y5_⟩, z0_, z1_, z2_⟩ := hSw; go_simp; (try with_reducible rfl))
        (try simp only [Act.put, List.setIfInBounds_toArray, List.set_cons_zero, List.set_cons_succ, List.getElem_toArray, List.getElem_cons_zero, List.getElem_cons_succ])
        refine wpAnyH_take (i := 4) (v := ?vr4) rfl (by kernel_rfl) (by kernel_rfl) (by kernel_rfl) (fun _ _ _ h => h) (Or.inl ⟨by rfl, ?hyr4⟩) (by assumption) ?restr4
        case hyr4 => (intro w_ hSw; (try dsimp only at hSw); obtain ⟨⟨⟨_, h1_, d0_, d1_, d2_⟩, y0_, y1_, y2_, y3_, y4_, y5_⟩, z0_, z1_, z2_⟩ := hSw; go_simp; (try with_reducible rfl))
        (try simp only [Act.put, List.setIfInBounds_toArray, List.set_cons_zero, List.set_cons_succ, List.getElem_toArray, List.getElem_cons_zero, List.getElem_cons_succ])
        refine wpAnyH_take (i := 5) (v := ?vr5) rfl (by kernel_rfl) (by kernel_rfl) (by kernel_rfl) (fun _ _ _ h => h) (Or.inl ⟨by rfl, ?hyr5⟩) (by assumption) ?restr5
        case hyr5 => (intro w_ hSw; (try dsimp only at hSw); obtain ⟨⟨⟨_, h1_, d0_, d1_, d2_⟩, y0_, y1_, y2_, y3_, y4_, y5_⟩, z0_, z1_, z2_⟩ := hSw; go_simp; (try with_reducible rfl))
        (try simp only [Act.put, List.setIfInBounds_toArray, List.set_cons_zero, List.set_cons_succ, List.getElem_toArray, List.getElem_cons_zero, List.getElem_cons_succ])
        refine wpAnyH_take (i := 6) (v := ?vr6) rfl (by kernel_rfl) (by kernel_rfl) (by kernel_rfl) (fun _ _ _ h => h) (Or.inl ⟨by rfl, ?hyr6⟩) (by assumption) ?restr6
        case hyr6 => (intro w_ hSw; (try dsimp only at hSw); obtain ⟨⟨⟨_, h1_, d0_, d1_, d2_⟩, y0_, y1_, y2_, y3_, y4_, y5_⟩, z0_, z1_, z2_⟩ := hSw; go_simp; (try with_reducible rfl))
        (try simp only [Act.put, List.setIfInBounds_toArray, List.set_cons_zero, List.set_cons_succ, List.getElem_toArray, List.getElem_cons_zero, List.getElem_cons_succ])
        refine wpAnyH_take (i := 8) (v := ?vr8) rfl (by kernel_rfl) (by kernel_rfl) (by kernel_rfl) (fun _ _ _ h => h) (Or.inl ⟨by rfl, ?hyr8⟩) (by assumption) ?restr8
        case hyr8 => (intro w_ hSw; (try dsimp only at hSw); obtain ⟨⟨⟨_, h1_, d0_, d1_, d2_⟩, y0_, y1_, y2_, y3_, y4_, y5_⟩, z0_, z1_, z2_⟩ := hSw; go_simp; (try with_reducible rfl))
        (try simp only [Act.put, List.setIfInBounds_toArray, List.set_cons_zero, List.set_cons_succ, List.getElem_toArray, List.getElem_cons_zero, List.getElem_cons_succ])
        refine wpAnyH_take (i := 9) (v := ?vr9) rfl (by kernel_rfl) (by kernel_rfl) (by kernel_rfl) (fun _ _ _ h => h) (Or.inl ⟨by rfl, ?hyr9⟩) (by assumption) ?restr9
        case hyr9 => (intro w_ hSw; (try dsimp only at hSw); obtain ⟨⟨⟨_, h1_, d0_, d1_, d2_⟩, y0_, y1_, y2_, y3_, y4_, y5_⟩, z0_, z1_, z2_⟩ := hSw; go_simp; (try with_reducible rfl))
        (try simp only [Act.put, List.setIfInBounds_toArray, List.set_cons_zero, List.set_cons_succ, List.getElem_toArray, List.getElem_cons_zero, List.getElem_cons_succ])
        refine wpAnyH_take (i := 10) (v := ?vr10) rfl (by kernel_rfl) (by kernel_rfl) (by kernel_rfl) (fun _ _ _ h => h) (Or.inl ⟨by rfl, ?hyr10⟩) (by assumption) ?restr10
        case hyr10 => (intro w_ hSw; (try dsimp only at hSw); obtain ⟨⟨⟨_, h1_, d0_, d1_, d2_⟩, y0_, y1_, y2_, y3_, y4_, y5_⟩, z0_, z1_, z2_⟩ := hSw; go_simp; (try with_reducible rfl))
        (try simp only [Act.put, List.setIfInBounds_toArray, List.set_cons_zero, List.set_cons_succ, List.getElem_toArray, List.getElem_cons_zero, List.getElem_cons_succ])
        refine wpAnyH_take (i := 11) (v := ?vr11) rfl (by kernel_rfl) (by kernel_rfl) (by kernel_rfl) (fun _ _ _ h => h) (Or.inl ⟨by rfl, ?hyr11⟩) (by assumption) ?restr11
        case hyr11 => (intro w_ hSw; (try dsimp only at hSw); obtain ⟨⟨⟨_, h1_, d0_, d1_, d2_⟩, y0_, y1_, y2_, y3_, y4_, y5_⟩, z0_, z1_, z2_⟩ := hSw; go_simp; (try with_reducible rfl))
        (try simp only [Act.put, List.setIfInBounds_toArray, List.set_cons_zero, List.set_cons_succ, List.getElem_toArray, List.getElem_cons_zero, List.getElem_cons_succ])
        refine wpAnyH_take (i := 12) (v := ?vr12) rfl (by kernel_rfl) (by kernel_rfl) (by kernel_rfl) (fun _ _ _ h => h) (Or.inl ⟨by rfl, ?hyr12⟩) (by assumption) ?restr12
        case hyr12 => (intro w_ hSw; (try dsimp only at hSw); obtain ⟨⟨⟨_, h1_, d0_, d1_, d2_⟩, y0_, y1_, y2_, y3_, y4_, y5_⟩, z0_, z1_, z2_⟩ := hSw; go_simp; (try with_reducible rfl))
        (try simp only [Act.put, List.setIfInBounds_toArray, List.set_cons_zero, List.set_cons_succ, List.getElem_toArray, List.getElem_cons_zero, List.getElem_cons_succ])
        refine wpAnyH_take (i := 13) (v := ?vr13) rfl (by kernel_rfl) (by kernel_rfl) (by kernel_rfl) (fun _ _ _ h => h) (Or.inl ⟨by rfl, ?hyr13⟩) (by assumption) ?restr13
        case hyr13 => (intro w_ hSw; (try dsimp only at hSw); obtain ⟨⟨⟨_, h1_, d0_, d1_, d2_⟩, y0_, y1_, y2_, y3_, y4_, y5_⟩, z0_, z1_, z2_⟩ := hSw; go_simp; (try with_reducible rfl))
        (try simp only [Act.put, List.setIfInBounds_toArray, List.set_cons_zero, List.set_cons_succ, List.getElem_toArray, List.getElem_cons_zero, List.getElem_cons_succ])
        refine wpAnyH_take (i := 14) (v := ?vr14) rfl (by kernel_rfl) (by kernel_rfl) (by kernel_rfl) (fun _ _ _ h => h) (Or.inl ⟨by rfl, ?hyr14⟩) (by assumption) ?restr14
        case hyr14 => (intro w_ hSw; (try dsimp only at hSw); obtain ⟨⟨⟨_, h1_, d0_, d1_, d2_⟩, y0_, y1_, y2_, y3_, y4_, y5_⟩, z0_, z1_, z2_⟩ := hSw; go_simp; (try with_reducible rfl))
        (try simp only [Act.put, List.setIfInBounds_toArray, List.set_cons_zero, List.set_cons_succ, List.getElem_toArray, List.getElem_cons_zero, List.getElem_cons_succ])
        refine wpAnyH_take (i := 15) (v := ?vr15) rfl (by kernel_rfl) (by kernel_rfl) (by kernel_rfl) (fun _ _ _ h => h) (Or.inl ⟨by rfl, ?hyr15⟩) (by assumption) ?restr15
        case hyr15 => (intro w_ hSw; (try dsimp only at hSw); obtain ⟨⟨⟨_, h1_, d0_, d1_, d2_⟩, y0_, y1_, y2_, y3_, y4_, y5_⟩, z0_, z1_, z2_⟩ := hSw; go_simp; (try with_reducible rfl))
        (try simp only [Act.put, List.setIfInBounds_toArray, List.set_cons_zero, List.set_cons_succ, List.getElem_toArray, List.getElem_cons_zero, List.getElem_cons_succ])
        refine wpAnyH_take (i := 16) (v := ?vr16) rfl (by kernel_rfl) (by kernel_rfl) (by kernel_rfl) (fun _ _ _ h => h) (Or.inl ⟨by rfl, ?hyr16⟩) (by assumption) ?restr16
        case hyr16 => (intro w_ hSw; (try dsimp only at hSw); obtain ⟨⟨⟨_, h1_, d0_, d1_, d2_⟩, y0_, y1_, y2_, y3_, y4_, y5_⟩, z0_, z1_, z2_⟩ := hSw; go_simp; (try with_reducible rfl))
        (try simp only [Act.put, List.setIfInBounds_toArray, List.set_cons_zero, List.set_cons_succ, List.getElem_toArray, List.getElem_cons_zero, List.getElem_cons_succ])
        refine wpAnyH_take (i := 17) (v := ?vr17) rfl (by kernel_rfl) (by kernel_rfl) (by kernel_rfl) (fun _ _ _ h => h) (Or.inl ⟨by rfl, ?hyr17⟩) (by assumption) ?restr17
        case hyr17 => (intro w_ hSw; (try dsimp only at hSw); obtain ⟨⟨⟨_, h1_, d0_, d1_, d2_⟩, y0_, y1_, y2_, y3_, y4_, y5_⟩, z0_, z1_, z2_⟩ := hSw; go_simp; (try with_reducible rfl))
        (try simp only [Act.put, List.setIfInBounds_toArray, List.set_cons_zero, List.set_cons_succ, List.getElem_toArray, List.getElem_cons_zero, List.getElem_cons_succ])
        refine wpAnyH_take (i := 18) (v := ?vr18) rfl (by kernel_rfl) (by kernel_rfl) (by kernel_rfl) (fun _ _ _ h => h) (Or.inl ⟨by rfl, ?hyr18⟩) (by assumption) ?restr18
        case hyr18 => (intro w_ hSw; (try dsimp only at hSw); obtain ⟨⟨⟨_, h1_, d0_, d1_, d2_⟩, y0_, y1_, y2_, y3_, y4_, y5_⟩, z0_, z1_, z2_⟩ := hSw; go_simp; (try with_reducible rfl))
        (try simp only [Act.put, List.setIfInBounds_toArray, List.set_cons_zero, List.set_cons_succ, List.getElem_toArray, List.getElem_cons_zero, List.getElem_cons_succ])
        refine wpAnyH_take (i := 19) (v := ?vr19) rfl (by kernel_rfl) (by kernel_rfl) (by kernel_rfl) (fun _ _ _ h => h) (Or.inl ⟨by rfl, ?hyr19⟩) (by assumption) ?restr19
        case hyr19 => (intro w_ hSw; (try dsimp only at hSw); obtain ⟨⟨⟨_, h1_, d0_, d1_, d2_⟩, y0_, y1_, y2_, y3_, y4_, y5_⟩, z0_, z1_, z2_⟩ := hSw; go_simp; (try with_reducible rfl))
        (try simp only [Act.put, List.setIfInBounds_toArray, List.set_cons_zero, List.set_cons_succ, List.getElem_toArray, List.getElem_cons_zero, List.getElem_cons_succ])
        refine wpAnyH_ready (rs := [7]) (by kernel_rfl) (by simp) ?_
        refine AllReadyH.cons rfl (fun K hK => ?_) AllReadyH.nil
        go_simp
        go_wp2_with (go_at_call 59; refine (HFG.out _).mono ?_; rintro e w4 ⟨rfl, hb4⟩)
        refine hK.out _ _ ?hSr7 (fun hHeldr7 => ?_)
        case hSr7 => exact ⟨⟨hHeld.1.1.same hb4, (hb4.cell (World.block_lt_of_cell? _ _ hHeld.1.2.1)).trans hHeld.1.2.1, (hb4.cell (World.block_lt_of_cell? _ _ hHeld.1.2.2.1)).trans hHeld.1.2.2.1, (hb4.cell (World.block_lt_of_cell? _ _ hHeld.1.2.2.2.1)).trans hHeld.1.2.2.2.1, (hb4.cell (World.block_lt_of_cell? _ _ hHeld.1.2.2.2.2.1)).trans hHeld.1.2.2.2.2.1, (hb4.cell (World.block_lt_of_cell? _ _ hHeld.1.2.2.2.2.2.1)).trans hHeld.1.2.2.2.2.2.1, (hb4.cell (World.block_lt_of_cell? _ _ hHeld.1.2.2.2.2.2.2)).trans hHeld.1.2.2.2.2.2.2⟩, (hb4.cell (World.block_lt_of_cell? _ _ hHeld.2.1)).trans hHeld.2.1, (hb4.cell (World.block_lt_of_cell? _ _ hHeld.2.2.1)).trans hHeld.2.2.1, (hb4.cell (World.block_lt_of_cell? _ _ hHeld.2.2.2)).trans hHeld.2.2.2⟩
        clear hK K
        (try simp only [Act.put, List.setIfInBounds_toArray, List.set_cons_zero, List.set_cons_succ, List.getElem_toArray, List.getElem_cons_zero, List.getElem_cons_succ])
        refine wpAnyH_ready (rs := [20]) (by kernel_rfl) (by simp) ?_
        refine AllReadyH.cons rfl (fun K hK => ?_) AllReadyH.nil
        go_simp
        go_wp2_with (go_at_call 58; refine (HFF.out _).mono ?_; rintro e w5 ⟨rfl, rfl⟩)
        refine hK.out _ _ ?hSr20 (fun hHeldr20 => ?_)
        case hSr20 => exact hHeldr7
        clear hK K
        (try simp only [Act.put, List.setIfInBounds_toArray, List.set_cons_zero, List.set_cons_succ, List.getElem_toArray, List.getElem_cons_zero, List.getElem_cons_succ])
        refine wpAnyH_take (i := 21) (v := ?vr21) rfl (by kernel_rfl) (by kernel_rfl) (by kernel_rfl) (fun _ _ _ h => h) (Or.inl ⟨by rfl, ?hyr21⟩) (by assumption) ?restr21
        case hyr21 => (intro w_ hSw; (try dsimp only at hSw); obtain ⟨⟨⟨_, h1_, d0_, d1_, d2_⟩, y0_, y1_, y2_, y3_, y4_, y5_⟩, z0_, z1_, z2_⟩ := hSw; go_simp; (try with_reducible rfl))
        (try simp only [Act.put, List.setIfInBounds_toArray, List.set_cons_zero, List.set_cons_succ, List.getElem_toArray, List.getElem_cons_zero, List.getElem_cons_succ])
        refine wpAnyH_done (by kernel_rfl) ?_ _
        have HSN := Lib.hid hHeldr7.1
        cases bb with
        | false =>
          have F := Lib.hid (HNO.out rfl)
          go_wp2_with fail
          go_ret
          exact ⟨by rw [F.out]; rfl, HSN.out.1.below⟩
        | true =>
          have F := Lib.hid (HNX.out rfl)
          go_wp2_with fail
          go_roundw
          case rel => exact ⟨k + 1, by omega, by go_num, HSN.out, F.out⟩
          case measure => simp [intOf]; omega
      · have k3 : decide ((k : Int) < (nw : Int)) = false := by rw [decide_eq_false_iff_not]; omega
        have F : Hid (wh.all cp = true) := all_take (fun j hj => HD.out j (by have := HNW.out; omega))
        go_wp2_with fail
        go_ret
        exact ⟨by rw [F.out]; rfl, HS.out.1.below⟩
end Go.Proofs.YtfnlddloalineaaGreatDoor
