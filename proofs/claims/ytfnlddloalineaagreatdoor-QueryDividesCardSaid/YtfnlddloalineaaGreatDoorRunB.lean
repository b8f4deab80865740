/-
  Cells that stay; the filter's function by its cells. (printed by wip/tools/gen_runa.py)
  Comparing numbers, lists and keys; money.Valid. (printed by wip/tools/gen_rune.py)
  Plain: the order of keys; sums of facts by their keys.
  Plain: the reference's sorted list of sums, and that it says what the map says.
  slices.Clone of a row of whole numbers.
-/
import Derived.Test.YtfnlddloalineaaGreatDoorHld3
import Derived.Test.YtfnlddloalineaaGreatDoorMpA
import Derived.Sort.Grow
import Derived.Test.YtfnlddloalineaaGreatDoorFew
namespace Go.Proofs.YtfnlddloalineaaGreatDoor
open Go.RowKit
set_option linter.unusedVariables false
set_option linter.unusedSimpArgs false
set_option maxRecDepth 100000
/-- every cell of x is in y as it was -/
def KeepC (x y : World) : Prop := x.heap.size ≤ y.heap.size ∧ ∀ a v, x.cell? a = some v → y.cell? a = some v
theorem KeepC.refl (x : World) : KeepC x x := ⟨Nat.le_refl _, fun _ _ h => h⟩
theorem KeepC.trans {x y z : World} (h : KeepC x y) (k : KeepC y z) : KeepC x z := ⟨Nat.le_trans h.1 k.1, fun a v hc => k.2 a v (h.2 a v hc)⟩
theorem KeepC.of_below {x y : World} (h : Below x.heap.size x y) : KeepC x y := ⟨h.size, fun _ _ hc => (h.cell (World.block_lt_of_cell? _ _ hc)).trans hc⟩
/-- a map's block is no block of cells -/
theorem KeepC.of_map {x y : World} {M : Nat} {l : List (K5 × Int)} (hm : MapS x M l) (hg : x.grownBy y (some M)) : KeepC x y := ⟨hg.size, fun a v hc => by
  obtain ⟨es, clock, hb, _⟩ := hm
  have hne : a.block ≠ M := fun e => by
    unfold World.cell? at hc
    rw [e, hb] at hc
    cases hc
  exact (World.cell?_of_block (hg.block a.block (World.block_lt_of_cell? _ _ hc) (fun e => hne (by injection e)))).trans hc⟩
theorem Reads.keepC {x y : World} {B size n : Nat} {A : Option Addr} {xs : List Value} (h : Reads x B size A n xs) (hk : KeepC x y) : Reads y B size A n xs :=
  ⟨h.1, fun hn => by
    obtain ⟨ad, e, hb, hc⟩ := h.2 hn
    exact ⟨ad, e, hb, fun j u hu => hk.2 _ _ (hc j u hu)⟩⟩
theorem RdBy.keepC {x y : World} {B : Nat} {A : Option Addr} {l : List Int} (h : RdBy x B A l) (hk : KeepC x y) : RdBy y B A l := fun hn => by
  obtain ⟨g, o, e, hg, hc⟩ := h hn
  exact ⟨g, o, e, hg, fun j hj => hk.2 _ _ (hc j hj)⟩
/-- the filter's list of functions, by its cells -/
structure FlR (x : World) (L : Nat) (cs : List SCond) (A : Option Addr) (c : Nat) : Prop where
  lst : x.cell? ⟨L, 0, none⟩ = some (.slice A cs.length c)
  row : ∀ k, k < cs.length → ∃ g C G, A = some ⟨g, 0, none⟩ ∧ x.cell? ⟨g, k, none⟩ = some (cloV C G) ∧ x.cell? ⟨C, 0, none⟩ = some (cmpV (cs.getD k default).o.toNat G) ∧ x.cell? ⟨G, 0, none⟩ = some (.int .i64 (cs.getD k default).f) ∧ x.cell? ⟨G, 2, none⟩ = some (.int .i64 (cs.getD k default).v)
theorem FlR.keep {x y : World} {L : Nat} {cs : List SCond} {A : Option Addr} {c : Nat} (h : FlR x L cs A c) (hk : KeepC x y) : FlR y L cs A c :=
  ⟨hk.2 _ _ h.lst, fun k hkl => by
    obtain ⟨g, C, G, e, h1, h2, h3, h4⟩ := h.row k hkl
    exact ⟨g, C, G, e, hk.2 _ _ h1, hk.2 _ _ h2, hk.2 _ _ h3, hk.2 _ _ h4⟩⟩
theorem FlR.of_fls {w0 x : World} {cs : List SCond} {vl : Value} {cl : List Value} (h : FlS w0 cs vl cl x) (hlen : cl.length = cs.length) : ∃ A c, FlR x (w0.heap.size + 1) cs A c := by
  obtain ⟨A, c, rfl⟩ := own_slice h.row
  refine ⟨A, c, by rw [← hlen]; exact h.lblk.cell 0, fun k hk => ?_⟩
  obtain ⟨g, e, _, hc⟩ := own_at h.row rfl (show k < cl.length by omega)
  obtain ⟨C, G, ev, _, _, hC, hG⟩ := h.clo k (by omega)
  exact ⟨g, C, G, e, by rw [hc, ev], hC.cell 0, hG.cell 0, hG.cell 2⟩
set_option maxHeartbeats 8000000 in
theorem filt2_any (x : SFact) (cs : List SCond) (L c : Nat) (A : Option Addr) (w : World) (hs : FlR w L cs A c) (hok : ∀ c, c ∈ cs → okCnd c) (hbd : cs.length ≤ 1000) :
    Calls Tryz.prog 90 #[fctV x, .pointer (some ⟨L, 0, none⟩)] w fun e w' => e = .returned (.bool (cs.all fun c => cndB c x)) ∧ Below w.heap.size w w' := by
  have hl0 := hs.lst
  have hl1 : L < w.heap.size := World.block_lt_of_cell? _ _ hl0
  have HCLO : Hid (∀ k, k < cs.length → ∃ g C G, A = some ⟨g, 0, none⟩ ∧ g < w.heap.size ∧ w.cell? ⟨g, k, none⟩ = some (cloV C G) ∧ ∀ wx, Below w.heap.size w wx → Calls Tryz.prog 118 #[fctV x, .pointer (some ⟨C, 0, none⟩), .pointer (some ⟨G, 0, none⟩)] wx fun e w' => e = .returned (.bool (cndB (cs.getD k default) x)) ∧ Below wx.heap.size wx w') := fun k hk => by
    obtain ⟨g, C, G, e, hc, hC, hG0, hG2⟩ := hs.row k hk
    refine ⟨g, C, G, e, World.block_lt_of_cell? _ _ hc, hc, fun wx hwx => ?_⟩
    have hokc := hok (cs.getD k default) (by rw [List.getD_eq_getElem?_getD, List.getElem?_eq_getElem (by omega)]; exact List.getElem_mem _)
    have hC2 := (hwx.cell (World.block_lt_of_cell? _ _ hC)).trans hC
    have hG02 := (hwx.cell (World.block_lt_of_cell? _ _ hG0)).trans hG0
    have hG22 := (hwx.cell (World.block_lt_of_cell? _ _ hG2)).trans hG2
    generalize cs.getD k default = cc at *
    obtain ⟨f, op, v⟩ := cc
    obtain ⟨f0, f4, o0, o5, _⟩ := hokc
    simp only [] at f0 f4 o0 o5 hC2 hG02 hG22
    have eo : op = ((op.toNat : Nat) : Int) := by omega
    have := clo_any x f v op.toNat C G wx f0 f4 (by omega) hC2 hG02 hG22
    rw [← eo] at this
    exact this
  clear hs hok
  obtain ⟨n, hn⟩ : ∃ n, cs.length = n := ⟨_, rfl⟩
  rw [hn] at HCLO hl0 hbd
  have HN := Lib.hid hn
  clear hn
  generalize hcp : (fun c => cndB c x) = cp
  have HCP : Hid (∀ k, cndB (cs.getD k default) x = cp (cs.getD k default)) := fun k => by rw [← hcp]
  clear hcp
  obtain ⟨acc, ent, par, kind, dat, amt⟩ := x
  have HCL2 : Hid (∀ k, k < n → ∃ g C G, A = some ⟨g, 0, none⟩ ∧ g < w.heap.size ∧ w.cell? ⟨g, k, none⟩ = some (cloV C G) ∧ ∀ wx, Below w.heap.size w wx → Calls Tryz.prog 118 #[.agg #[.int .i64 acc, .int .i64 ent, .int .i64 par, .int .i64 kind, .int .i64 dat, .int .i64 amt], .pointer (some ⟨C, 0, none⟩), .pointer (some ⟨G, 0, none⟩)] wx fun e w' => e = .returned (.bool (cp (cs.getD k default))) ∧ Below wx.heap.size wx w') := fun k hk => by
    obtain ⟨g, C, G, e, hg, hc, h⟩ := HCLO.out k hk
    refine ⟨g, C, G, e, hg, hc, fun wx hwx => ?_⟩
    have := h wx hwx
    rw [HCP.out k] at this
    exact this
  clear HCLO HCP
  show Calls Tryz.prog 90 #[.agg #[.int .i64 acc, .int .i64 ent, .int .i64 par, .int .i64 kind, .int .i64 dat, .int .i64 amt], .pointer (some ⟨L, 0, none⟩)] w _
  have hb := (Below.refl w.heap.size w).alloc (Nat.le_refl _) (.cells (#[.int .i64 acc, .int .i64 ent, .int .i64 par, .int .i64 kind, .int .i64 dat, .int .i64 amt] : Array Value) 56)
  have hk := Blk.new w 56 #[.int .i64 acc, .int .i64 ent, .int .i64 par, .int .i64 kind, .int .i64 dat, .int .i64 amt]
  obtain ⟨wz, hwz⟩ : ∃ wz, w.alloc (.cells (#[.int .i64 acc, .int .i64 ent, .int .i64 par, .int .i64 kind, .int .i64 dat, .int .i64 amt] : Array Value) 56) = wz := ⟨_, rfl⟩
  rw [hwz] at hb hk
  have hl2 := (hb.cell hl1).trans hl0
  have HBK : Hid (Below w.heap.size w wz ∧ Blk wz w.heap.size 56 #[.int .i64 acc, .int .i64 ent, .int .i64 par, .int .i64 kind, .int .i64 dat, .int .i64 amt]) := ⟨hb, hk⟩
  have hlt0 : w.heap.size < wz.heap.size := hk.lt
  clear hb hk
  go_enter Tryz.func90, Tryz.ntmps90
  go_wp2_with fail
  go_loopw [8] (fun i y => ∃ k : Nat, k ≤ n ∧ i = .int .i64 k ∧ Below w.heap.size w y ∧ Blk y w.heap.size 56 #[.int .i64 acc, .int .i64 ent, .int .i64 par, .int .i64 kind, .int .i64 dat, .int .i64 amt] ∧ ∀ j, j < k → cp (cs.getD j default) = true) (fun i _ => n - (intOf i).toNat)
  case atStart => exact ⟨0, by omega, rfl, HBK.out.1, HBK.out.2, fun j h => by omega⟩
  case round =>
    clear hl2 hlt0 hwz HBK
    obtain ⟨k, hk, rfl, hby, hbk, hd⟩ := hrel
    have HD := Lib.hid hd
    have HBY := Lib.hid hby
    have HBK := Lib.hid hbk
    have x0 : wr.cell? ⟨w.heap.size, 0, none⟩ = some (.int .i64 acc) := hbk.cell 0
    have x1 : wr.cell? ⟨w.heap.size, 1, none⟩ = some (.int .i64 ent) := hbk.cell 1
    have x2 : wr.cell? ⟨w.heap.size, 2, none⟩ = some (.int .i64 par) := hbk.cell 2
    have x3 : wr.cell? ⟨w.heap.size, 3, none⟩ = some (.int .i64 kind) := hbk.cell 3
    have x4 : wr.cell? ⟨w.heap.size, 4, none⟩ = some (.int .i64 dat) := hbk.cell 4
    have x5 : wr.cell? ⟨w.heap.size, 5, none⟩ = some (.int .i64 amt) := hbk.cell 5
    have hlt : w.heap.size < wr.heap.size := hbk.lt
    clear hd hbk
    by_cases hlk : k < n
    · have k3 : decide ((k : Int) < (n : Int)) = true := by rw [decide_eq_true_eq]; omega
      have k4 : (k : Int) < (n : Int) := by omega
      obtain ⟨g, C, G, rfl, hg, hc, hcall⟩ := HCL2.out k hlk
      unfold cloV at hc
      have hc2 := (hby.cell hg).trans hc
      have HCA := Lib.hid (hcall wr hby)
      have HKL : Hid (k < cs.length) := by show _ < _; have := HN.out; omega
      have HNX : Hid (cp (cs.getD k default) = true → ∀ j, j < k + 1 → cp (cs.getD j default) = true) := fun h j hj => by
        by_cases e : j = k
        · rw [e]; exact h
        · exact HD.out j (by omega)
      have HNO : Hid (cp (cs.getD k default) = false → cs.all cp = false) := fun h => all_not HKL.out h
      clear hc hcall hby
      generalize cp (cs.getD k default) = bb at *
      go_wp2_with fail
      refine HCA.out.mono ?_
      rintro e w2 ⟨rfl, hb2⟩
      cases bb with
      | false =>
        have F := Lib.hid (HNO.out rfl)
        have HB3 := Lib.hid (below_two HBY.out hb2)
        go_wp2_with fail
        go_ret
        exact ⟨by rw [F.out]; rfl, HB3.out⟩
      | true =>
        have F := Lib.hid (HNX.out rfl)
        have HB3 := Lib.hid (below_two HBY.out hb2)
        have HK3 := Lib.hid (HBK.out.below hb2 HBK.out.lt)
        go_wp2_with fail
        go_roundw
        case rel => exact ⟨k + 1, by omega, by go_num, HB3.out, HK3.out, F.out⟩
        case measure => simp [intOf]; omega
    · have k3 : decide ((k : Int) < (n : Int)) = false := by rw [decide_eq_false_iff_not]; omega
      have F : Hid (cs.all cp = true) := all_take (fun j hj => HD.out j (by have := HN.out; omega))
      clear hby
      go_wp2_with fail
      go_ret
      exact ⟨by rw [F.out]; rfl, HBY.out⟩
end Go.Proofs.YtfnlddloalineaaGreatDoor
namespace Go.Proofs.YtfnlddloalineaaGreatDoor
open Go.RowKit
set_option linter.unusedVariables false
set_option linter.unusedSimpArgs false
set_option maxRecDepth 100000
def cmpI (x y : Int) : Int := if x < y then -1 else if y < x then 1 else 0
def cmpL : List Int → List Int → Int
  | [], _ => 0
  | x :: r, l => if x < l.getD 0 0 then -1 else if l.getD 0 0 < x then 1 else cmpL r (l.drop 1)
def K5.l (k : K5) : List Int := [k.a, k.b, k.c, k.d, k.e]
theorem cmpL_at : ∀ {xs ys : List Int} {k : Nat}, k < xs.length → (∀ j, j < k → xs.getD j 0 = ys.getD j 0) → xs.getD k 0 ≠ ys.getD k 0 → cmpL xs ys = cmpI (xs.getD k 0) (ys.getD k 0) := by
  intro xs
  induction xs with
  | nil => intro ys k h; simp at h
  | cons x r ih =>
    intro ys k h hd hne
    rw [cmpL]
    cases k with
    | zero =>
      have e : (x :: r).getD 0 0 = x := rfl
      rw [e] at hne ⊢
      unfold cmpI
      by_cases h1 : x < ys.getD 0 0
      · rw [if_pos h1, if_pos h1]
      · rw [if_neg h1, if_neg h1, if_pos (by omega), if_pos (by omega)]
    | succ k =>
      have h0 := hd 0 (by omega)
      have e : (x :: r).getD 0 0 = x := rfl
      rw [e] at h0
      rw [if_neg (by omega), if_neg (by omega)]
      have gd : ∀ j, (ys.drop 1).getD j 0 = ys.getD (j + 1) 0 := fun j => by
        rw [List.getD_eq_getElem?_getD, List.getD_eq_getElem?_getD, List.getElem?_drop, Nat.add_comm]
      have e2 : (x :: r).getD (k + 1) 0 = r.getD k 0 := rfl
      rw [e2] at hne ⊢
      rw [← gd k] at hne ⊢
      exact ih (by simpa using h) (fun j hj => by rw [gd]; exact hd (j + 1) (by omega)) hne
theorem cmpL_eq : ∀ {xs ys : List Int}, (∀ j, j < xs.length → xs.getD j 0 = ys.getD j 0) → cmpL xs ys = 0 := by
  intro xs
  induction xs with
  | nil => intro ys _; rfl
  | cons x r ih =>
    intro ys hd
    rw [cmpL]
    have h0 := hd 0 (by simp)
    have e : (x :: r).getD 0 0 = x := rfl
    rw [e] at h0
    rw [if_neg (by omega), if_neg (by omega)]
    exact ih (fun j hj => by
      have gd : (ys.drop 1).getD j 0 = ys.getD (j + 1) 0 := by rw [List.getD_eq_getElem?_getD, List.getD_eq_getElem?_getD, List.getElem?_drop, Nat.add_comm]
      rw [gd]
      exact hd (j + 1) (by simpa using hj))
theorem nan_any (x : Int) (w : World) : Calls Tryz.prog 122 #[.int .i64 x] w fun e w' => e = .returned (.bool false) ∧ w = w' := by
  have q : (x != x) = false := by simp
  go_enter Tryz.func122, Tryz.ntmps122
  go_wp2_with fail
  go_ret
  exact ⟨by first | rfl | simp, rfl⟩
theorem cmpi_any (x y : Int) (w : World) : Calls Tryz.prog 94 #[.int .i64 x, .int .i64 y] w fun e w' => e = .returned (.int .i64 (cmpI x y)) ∧ w = w' := by
  unfold cmpI
  by_cases h1 : x < y
  · rw [if_pos h1]
    have e1 : decide (x < y) = true := by rw [decide_eq_true_eq]; omega
    go_enter Tryz.func94, Tryz.ntmps94
    go_wp2_with fail
    refine (nan_any x _).mono ?_
    rintro e w' ⟨rfl, rfl⟩
    go_wp2_with fail
    refine (nan_any y _).mono ?_
    rintro e w' ⟨rfl, rfl⟩
    go_wp2_with fail
    go_ret
    exact ⟨rfl, rfl⟩
  · rw [if_neg h1]
    have e1 : decide (x < y) = false := by rw [decide_eq_false_iff_not]; omega
    by_cases h2 : y < x
    · rw [if_pos h2]
      have e2 : decide (y < x) = true := by rw [decide_eq_true_eq]; omega
      go_enter Tryz.func94, Tryz.ntmps94
      go_wp2_with fail
      refine (nan_any x _).mono ?_
      rintro e w' ⟨rfl, rfl⟩
      go_wp2_with fail
      refine (nan_any y _).mono ?_
      rintro e w' ⟨rfl, rfl⟩
      go_wp2_with fail
      go_ret
      exact ⟨rfl, rfl⟩
    · rw [if_neg h2]
      have e2 : decide (y < x) = false := by rw [decide_eq_false_iff_not]; omega
      go_enter Tryz.func94, Tryz.ntmps94
      go_wp2_with fail
      refine (nan_any x _).mono ?_
      rintro e w' ⟨rfl, rfl⟩
      go_wp2_with fail
      refine (nan_any y _).mono ?_
      rintro e w' ⟨rfl, rfl⟩
      go_wp2_with fail
      go_ret
      exact ⟨rfl, rfl⟩
set_option maxHeartbeats 4000000 in
/-- slices.Compare at two lists of the same length -/
theorem slcmp_any (xs ys : List Int) (g g' o o' n c c' : Nat) (w : World) (hn : xs.length = n) (hb : n ≤ 1000) (hx : ∀ j, j < n → w.cell? ⟨g, o + j, none⟩ = some (.int .i64 (xs.getD j 0))) (hy : ∀ j, j < n → w.cell? ⟨g', o' + j, none⟩ = some (.int .i64 (ys.getD j 0))) :
    Calls Tryz.prog 64 #[.slice (some ⟨g, o, none⟩) n c, .slice (some ⟨g', o', none⟩) n c'] w fun e w' => e = .returned (.int .i64 (cmpL xs ys)) ∧ w = w' := by
  have HX := Lib.hid hx
  have HY := Lib.hid hy
  have HN := Lib.hid hn
  clear hx hy hn
  go_enter Tryz.func64, Tryz.ntmps64
  go_wp2_with fail
  go_loop [11] (fun i => ∃ k : Nat, k ≤ n ∧ i = .int .i64 (k : Int) ∧ ∀ j, j < k → xs.getD j 0 = ys.getD j 0) (fun i => n - (intOf i).toNat)
  case atStart => exact ⟨0, Nat.zero_le _, rfl, fun j h => by omega⟩
  case round =>
    obtain ⟨k, hk, rfl, hd⟩ := hrel
    have HD := Lib.hid hd
    clear hd
    by_cases hlt : k < n
    · have k1 : decide ((k : Int) < (n : Int)) = true := by rw [decide_eq_true_eq]; omega
      have k3 : decide ((n : Int) ≤ (k : Int)) = false := by rw [decide_eq_false_iff_not]; omega
      have k4 : (k : Int) < (n : Int) := by omega
      have c1 := HX.out k hlt
      have c2 := HY.out k hlt
      have HKL : Hid (k < xs.length) := by show _ < _; have := HN.out; omega
      have HNE : Hid (xs.getD k 0 ≠ ys.getD k 0 → cmpL xs ys = cmpI (xs.getD k 0) (ys.getD k 0)) := fun h => cmpL_at HKL.out HD.out h
      have HEQ : Hid (xs.getD k 0 = ys.getD k 0 → ∀ j, j < k + 1 → xs.getD j 0 = ys.getD j 0) := fun h j hj => by
        by_cases e : j = k
        · rw [e]; exact h
        · exact HD.out j (by omega)
      generalize xs.getD k 0 = x at *
      generalize ys.getD k 0 = y at *
      go_wp2_with fail
      refine (cmpi_any x y _).mono ?_
      rintro e w' ⟨rfl, rfl⟩
      by_cases hxy : x = y
      · have F := Lib.hid (HEQ.out hxy)
        have hz : cmpI x y = 0 := by unfold cmpI; rw [if_neg (by omega), if_neg (by omega)]
        rw [hz]
        clear HNE HEQ hxy
        go_wp2_with fail
        go_round
        case rel => exact ⟨k + 1, by omega, by go_num, F.out⟩
        case measure => simp [intOf]; omega
      · have F := Lib.hid (HNE.out hxy)
        have hz : (cmpI x y != 0) = true := by
          unfold cmpI
          by_cases h1 : x < y
          · rw [if_pos h1]; rfl
          · rw [if_neg h1, if_pos (by omega)]; rfl
        generalize cmpI x y = r at *
        clear HNE HEQ hxy
        go_wp2_with fail
        go_ret
        exact ⟨by rw [F.out]; rfl, rfl⟩
    · have k1 : decide ((k : Int) < (n : Int)) = false := by rw [decide_eq_false_iff_not]; omega
      have F : Hid (cmpL xs ys = 0) := cmpL_eq (fun j hj => HD.out j (by have := HN.out; omega))
      go_wp2_with fail
      go_ret
      exact ⟨by rw [F.out]; rfl, rfl⟩
theorem moneyv_any (n : Int) (w : World) : Calls Tryz.prog 65 #[.int .i64 n] w fun e w' => e = .returned (.bool (decide (-1000000000000 ≤ n) && decide (n ≤ 1000000000000))) ∧ w = w' := by
  by_cases h0 : -1000000000000 ≤ n
  · rw [decide_eq_true h0]
    by_cases h1 : n ≤ 1000000000000
    · rw [decide_eq_true h1]
      have y0 : decide (-1000000000000 ≤ n) = true := decide_eq_true h0
      have y1 : decide (n ≤ 1000000000000) = true := decide_eq_true h1
      go_enter Tryz.func65, Tryz.ntmps65
      go_wp2_with fail
      go_ret
      exact ⟨rfl, rfl⟩
    · rw [decide_eq_false h1]
      have y0 : decide (-1000000000000 ≤ n) = true := decide_eq_true h0
      have y1 : decide (n ≤ 1000000000000) = false := decide_eq_false h1
      go_enter Tryz.func65, Tryz.ntmps65
      go_wp2_with fail
      go_ret
      exact ⟨rfl, rfl⟩
  · rw [decide_eq_false h0]
    have y0 : decide (-1000000000000 ≤ n) = false := decide_eq_false h0
    go_enter Tryz.func65, Tryz.ntmps65
    go_wp2_with fail
    go_ret
    exact ⟨rfl, rfl⟩
set_option maxHeartbeats 8000000 in
/-- the order of keys, as the sort calls it -/
theorem run1_any (a b : K5) (W : World) : Calls Tryz.prog 63 #[k5V a, k5V b] W fun e w' => e = .returned (.int .i64 (cmpL a.l b.l)) ∧ ∃ q os', w' = Go.Sort.grow (W.drewN q) os' := by
  obtain ⟨a0, a1, a2, a3, a4⟩ := a
  obtain ⟨b0, b1, b2, b3, b4⟩ := b
  show Calls Tryz.prog 63 #[.agg #[.int .i64 a0, .int .i64 a1, .int .i64 a2, .int .i64 a3, .int .i64 a4], .agg #[.int .i64 b0, .int .i64 b1, .int .i64 b2, .int .i64 b3, .int .i64 b4]] W _
  have hk1 := Blk.new W 117 #[.int .i64 a0, .int .i64 a1, .int .i64 a2, .int .i64 a3, .int .i64 a4]
  have hk2 := hk1.alloc (.cells (#[.int .i64 b0, .int .i64 b1, .int .i64 b2, .int .i64 b3, .int .i64 b4] : Array Value) 117)
  have hk3 := Blk.new (W.alloc (.cells (#[.int .i64 a0, .int .i64 a1, .int .i64 a2, .int .i64 a3, .int .i64 a4] : Array Value) 117)) 117 #[.int .i64 b0, .int .i64 b1, .int .i64 b2, .int .i64 b3, .int .i64 b4]
  obtain ⟨wy, hwy⟩ : ∃ wy, W.alloc (.cells (#[.int .i64 a0, .int .i64 a1, .int .i64 a2, .int .i64 a3, .int .i64 a4] : Array Value) 117) = wy := ⟨_, rfl⟩
  have HGW : Hid (∀ q, ((wy.alloc (.cells (#[.int .i64 b0, .int .i64 b1, .int .i64 b2, .int .i64 b3, .int .i64 b4] : Array Value) 117)).drewN q) = Go.Sort.grow (W.drewN q) #[.cells (#[.int .i64 a0, .int .i64 a1, .int .i64 a2, .int .i64 a3, .int .i64 a4] : Array Value) 117, .cells (#[.int .i64 b0, .int .i64 b1, .int .i64 b2, .int .i64 b3, .int .i64 b4] : Array Value) 117]) := fun q => by
    rw [← hwy, Go.Sort.alloc_eq_grow, Go.Sort.alloc_eq_grow, Go.Sort.grow_grow]; rfl
  rw [hwy] at hk2 hk3
  obtain ⟨wz, hwz⟩ : ∃ wz, wy.alloc (.cells (#[.int .i64 b0, .int .i64 b1, .int .i64 b2, .int .i64 b3, .int .i64 b4] : Array Value) 117) = wz := ⟨_, rfl⟩
  rw [hwz] at hk2 hk3 HGW
  have HCM : Hid (∀ (w : World) (X Y : Nat), Blk w X 117 #[.int .i64 a0, .int .i64 a1, .int .i64 a2, .int .i64 a3, .int .i64 a4] → Blk w Y 117 #[.int .i64 b0, .int .i64 b1, .int .i64 b2, .int .i64 b3, .int .i64 b4] → Calls Tryz.prog 64 #[.slice (some ⟨X, 0, none⟩) 5 5, .slice (some ⟨Y, 0, none⟩) 5 5] w fun e w' => e = .returned (.int .i64 (cmpL [a0, a1, a2, a3, a4] [b0, b1, b2, b3, b4])) ∧ w = w') := fun w X Y h1 h2 =>
    slcmp_any [a0, a1, a2, a3, a4] [b0, b1, b2, b3, b4] X Y 0 0 5 5 5 w rfl (by omega)
      (fun j hj => by rw [Nat.zero_add]; have : j = 0 ∨ j = 1 ∨ j = 2 ∨ j = 3 ∨ j = 4 := by omega
                      rcases this with rfl | rfl | rfl | rfl | rfl <;> exact h1.cell _)
      (fun j hj => by rw [Nat.zero_add]; have : j = 0 ∨ j = 1 ∨ j = 2 ∨ j = 3 ∨ j = 4 := by omega
                      rcases this with rfl | rfl | rfl | rfl | rfl <;> exact h2.cell _)
  show Calls _ _ _ _ (fun e w' => e = .returned (.int .i64 (cmpL [a0, a1, a2, a3, a4] [b0, b1, b2, b3, b4])) ∧ ∃ q os', w' = Go.Sort.grow (W.drewN q) os')
  generalize cmpL [a0, a1, a2, a3, a4] [b0, b1, b2, b3, b4] = R at *
  have HK2 := Lib.hid hk2
  have HK3 := Lib.hid hk3
  have hl1 : W.heap.size < wz.heap.size := hk2.lt
  have hl2 : wy.heap.size < wz.heap.size := hk3.lt
  clear hk1 hk2 hk3
  go_enter Tryz.func63, Tryz.ntmps63
  go_upto_region 1 with fail
  refine wp_region_held_drew (S := fun w' => w' = wz.drew) (by kernel_rfl) rfl (fun hHeld => ?_)
  refine wpAnyH_take (i := 0) (v := ?vc0) rfl (by kernel_rfl) (by kernel_rfl) (by kernel_rfl) (fun _ _ _ h => h) (Or.inl ⟨by rfl, ?hyc0⟩) (by assumption) ?restc0
  case hyc0 => (intro w_ hSw; (try dsimp only at hSw); obtain s_ := hSw; go_simp; (try with_reducible rfl))
  (try simp only [Act.put, List.setIfInBounds_toArray, List.set_cons_zero, List.set_cons_succ, List.getElem_toArray, List.getElem_cons_zero, List.getElem_cons_succ])
  refine wpAnyH_take (i := 1) (v := ?vc1) rfl (by kernel_rfl) (by kernel_rfl) (by kernel_rfl) (fun _ _ _ h => h) (Or.inl ⟨by rfl, ?hyc1⟩) (by assumption) ?restc1
  case hyc1 => (intro w_ hSw; (try dsimp only at hSw); obtain s_ := hSw; go_simp; (try with_reducible rfl))
  (try simp only [Act.put, List.setIfInBounds_toArray, List.set_cons_zero, List.set_cons_succ, List.getElem_toArray, List.getElem_cons_zero, List.getElem_cons_succ])
  refine wpAnyH_ready (rs := [2]) (by kernel_rfl) (by simp) ?_
  refine AllReadyH.cons rfl (fun K hK => ?_) AllReadyH.nil
  go_simp
  go_wp2_with (go_at_call 64; refine (HCM.out _ _ _ HK2.out.drew HK3.out.drew).mono ?_; rintro e w3 ⟨rfl, rfl⟩)
  refine hK.out _ _ ?hSc2 (fun hHeldc2 => ?_)
  case hSc2 => rfl
  clear hK K
  (try simp only [Act.put, List.setIfInBounds_toArray, List.set_cons_zero, List.set_cons_succ, List.getElem_toArray, List.getElem_cons_zero, List.getElem_cons_succ])
  refine wpAnyH_take (i := 3) (v := ?vc3) rfl (by kernel_rfl) (by kernel_rfl) (by kernel_rfl) (fun _ _ _ h => h) (Or.inl ⟨by rfl, ?hyc3⟩) (by assumption) ?restc3
  case hyc3 => (intro w_ hSw; (try dsimp only at hSw); obtain s_ := hSw; go_simp; (try with_reducible rfl))
  (try simp only [Act.put, List.setIfInBounds_toArray, List.set_cons_zero, List.set_cons_succ, List.getElem_toArray, List.getElem_cons_zero, List.getElem_cons_succ])
  refine wpAnyH_done (by kernel_rfl) ?_ _
  go_wp2_with fail
  go_ret
  exact ⟨rfl, 1, _, HGW.out 1⟩
end Go.Proofs.YtfnlddloalineaaGreatDoor
namespace Go.Proofs.YtfnlddloalineaaGreatDoor
set_option linter.unusedVariables false
set_option linter.unusedSimpArgs false
theorem cmpL_cons (x y : Int) (r s : List Int) : cmpL (x :: r) (y :: s) < 0 ↔ x < y ∨ (x = y ∧ cmpL r s < 0) := by
  rw [cmpL]
  have e : (y :: s).getD 0 0 = y := rfl
  have e2 : (y :: s).drop 1 = s := rfl
  rw [e, e2]
  by_cases h1 : x < y
  · rw [if_pos h1]
    exact ⟨fun _ => .inl h1, fun _ => by decide⟩
  · rw [if_neg h1]
    by_cases h2 : y < x
    · rw [if_pos h2]
      constructor
      · intro h; exact absurd h (by decide)
      · rintro (h | ⟨h, _⟩) <;> omega
    · rw [if_neg h2]
      constructor
      · intro h; exact .inr ⟨by omega, h⟩
      · rintro (h | ⟨_, h⟩)
        · omega
        · exact h
theorem cmpL_irr : ∀ xs : List Int, ¬ cmpL xs xs < 0 := by
  intro xs
  induction xs with
  | nil => decide
  | cons x r ih => rw [cmpL_cons]; rintro (h | ⟨_, h⟩)
                   · omega
                   · exact ih h
theorem cmpL_trans : ∀ {xs ys zs : List Int}, xs.length = ys.length → ys.length = zs.length → cmpL xs ys < 0 → cmpL ys zs < 0 → cmpL xs zs < 0 := by
  intro xs
  induction xs with
  | nil => intro ys zs _ _ h; exact absurd h (show ¬ (0 : Int) < 0 by omega)
  | cons x r ih =>
    intro ys zs h1 h2
    cases ys with
    | nil => simp at h1
    | cons y s =>
      cases zs with
      | nil => simp at h2
      | cons z t =>
        rw [cmpL_cons, cmpL_cons, cmpL_cons]
        simp only [List.length_cons, Nat.add_right_cancel_iff] at h1 h2
        rintro (a | ⟨a, a'⟩) (b | ⟨b, b'⟩)
        · left; omega
        · left; omega
        · left; omega
        · right; exact ⟨by omega, ih h1 h2 a' b'⟩
theorem cmpL_total : ∀ {xs ys : List Int}, xs.length = ys.length → cmpL xs ys < 0 ∨ xs = ys ∨ cmpL ys xs < 0 := by
  intro xs
  induction xs with
  | nil => intro ys h; cases ys with
    | nil => exact .inr (.inl rfl)
    | cons y s => simp at h
  | cons x r ih =>
    intro ys h
    cases ys with
    | nil => simp at h
    | cons y s =>
      rw [cmpL_cons, cmpL_cons]
      rcases ih (ys := s) (by simpa using h) with a | a | a
      · by_cases e : x = y
        · exact .inl (.inr ⟨e, a⟩)
        · by_cases l : x < y
          · exact .inl (.inl l)
          · exact .inr (.inr (.inl (by omega)))
      · by_cases e : x = y
        · exact .inr (.inl (by rw [e, a]))
        · by_cases l : x < y
          · exact .inl (.inl l)
          · exact .inr (.inr (.inl (by omega)))
      · by_cases e : x = y
        · exact .inr (.inr (.inr ⟨e.symm, a⟩))
        · by_cases l : x < y
          · exact .inl (.inl l)
          · exact .inr (.inr (.inl (by omega)))
def ltK (a b : K5) : Prop := cmpL a.l b.l < 0
theorem K5.l_inj {a b : K5} (h : a.l = b.l) : a = b := by
  obtain ⟨a0, a1, a2, a3, a4⟩ := a
  obtain ⟨b0, b1, b2, b3, b4⟩ := b
  simp only [K5.l, List.cons.injEq, and_true] at h
  obtain ⟨rfl, rfl, rfl, rfl, rfl⟩ := h
  rfl
theorem ltK_irr (a : K5) : ¬ ltK a a := cmpL_irr _
theorem ltK_trans {a b c : K5} (h : ltK a b) (k : ltK b c) : ltK a c := cmpL_trans (xs := a.l) (ys := b.l) (zs := c.l) rfl rfl h k
theorem ltK_total (a b : K5) : ltK a b ∨ a = b ∨ ltK b a := by
  rcases cmpL_total (xs := a.l) (ys := b.l) rfl with h | h | h
  · exact .inl h
  · exact .inr (.inl (K5.l_inj h))
  · exact .inr (.inr h)
/-- two rising lists with the same members are the same -/
theorem rising_eq : ∀ {l l' : List K5}, l.Pairwise ltK → l'.Pairwise ltK → (∀ x, x ∈ l ↔ x ∈ l') → l = l' := by
  intro l
  induction l with
  | nil =>
    intro l' _ _ h
    cases l' with
    | nil => rfl
    | cons y s => exact absurd ((h y).2 (by simp)) (by simp)
  | cons x r ih =>
    intro l' h1 h2 h
    cases l' with
    | nil => exact absurd ((h x).1 (by simp)) (by simp)
    | cons y s =>
      rw [List.pairwise_cons] at h1 h2
      have hxy : x = y := by
        rcases List.mem_cons.1 ((h x).1 (by simp)) with e | hx
        · exact e
        · rcases List.mem_cons.1 ((h y).2 (by simp)) with e | hy
          · exact e.symm
          · exact absurd (ltK_trans (h1.1 y hy) (h2.1 x hx)) (ltK_irr _)
      subst hxy
      congr 1
      refine ih h1.2 h2.2 fun z => ⟨fun hz => ?_, fun hz => ?_⟩
      · rcases List.mem_cons.1 ((h z).1 (List.mem_cons_of_mem _ hz)) with e | hz'
        · subst e; exact absurd (h1.1 z hz) (ltK_irr _)
        · exact hz'
      · rcases List.mem_cons.1 ((h z).2 (List.mem_cons_of_mem _ hz)) with e | hz'
        · subst e; exact absurd (h2.1 z hz) (ltK_irr _)
        · exact hz'
theorem getM_putM : ∀ (l : List (K5 × Int)) (k k' : K5) (v : Int), getM (putM l k v) k' = if k' = k then v else getM l k' := by
  intro l
  induction l with
  | nil =>
    intro k k' v
    show (if k = k' then v else 0) = if k' = k then v else 0
    by_cases e : k' = k
    · rw [if_pos e, if_pos e.symm]
    · rw [if_neg e, if_neg (fun h : k = k' => e h.symm)]
  | cons p r ih =>
    intro k k' v
    rw [putM]
    by_cases h : p.1 = k
    · rw [if_pos h]
      show (if k = k' then v else getM r k') = if k' = k then v else (if p.1 = k' then p.2 else getM r k')
      by_cases e : k' = k
      · rw [if_pos e, if_pos e.symm]
      · rw [if_neg e, if_neg (fun h : k = k' => e h.symm), if_neg (fun h2 : p.1 = k' => e (h2.symm.trans h))]
    · rw [if_neg h]
      show (if p.1 = k' then p.2 else getM (putM r k v) k') = if k' = k then v else (if p.1 = k' then p.2 else getM r k')
      rw [ih]
      by_cases e : k' = k
      · rw [if_pos e, if_pos e, if_neg (fun h2 : p.1 = k' => h (h2.trans e))]
      · rw [if_neg e, if_neg e]
theorem keys_putM : ∀ (l : List (K5 × Int)) (k k' : K5) (v : Int), k' ∈ (putM l k v).map (·.1) ↔ k' = k ∨ k' ∈ l.map (·.1) := by
  intro l
  induction l with
  | nil => intro k k' v; simp [putM]
  | cons p r ih =>
    intro k k' v
    rw [putM]
    by_cases h : p.1 = k
    · rw [if_pos h]
      simp only [List.map_cons, List.mem_cons]
      rw [h]
      constructor
      · rintro (e | e)
        · exact .inl e
        · exact .inr (.inr e)
      · rintro (e | e | e)
        · exact .inl e
        · exact .inl e
        · exact .inr e
    · rw [if_neg h]
      simp only [List.map_cons, List.mem_cons, ih]
      constructor
      · rintro (e | e | e)
        · exact .inr (.inl e)
        · exact .inl e
        · exact .inr (.inr e)
      · rintro (e | e | e)
        · exact .inr (.inl e)
        · exact .inl e
        · exact .inr (.inr e)
/-- the key of a fact -/
def kfN (byl : List Int) (f : SFact) (i : Nat) : Int := if i < byl.length then fldF f (byl.getD i 0) else 0
def keyF (byl : List Int) (f : SFact) : K5 := ⟨kfN byl f 0, kfN byl f 1, kfN byl f 2, kfN byl f 3, kfN byl f 4⟩
def addF (verb : Int) (f : SFact) : Int := if verb = 1 then 1 else f.amt
def addR (verb : Int) (byl : List Int) (l : List (K5 × Int)) (f : SFact) : List (K5 × Int) := putM l (keyF byl f) (getM l (keyF byl f) + addF verb f)
def k0 : K5 := ⟨0, 0, 0, 0, 0⟩
def startR (byl : List Int) : List (K5 × Int) := if byl = [] then [(k0, 0)] else []
def sumsR (verb : Int) (byl : List Int) (p : SFact → Bool) (F : List SFact) : List (K5 × Int) := F.foldl (fun l f => if p f = true then addR verb byl l f else l) (startR byl)
theorem sumsR_step {verb : Int} {byl : List Int} {p : SFact → Bool} {F : List SFact} {k : Nat} (hk : k < F.length) : sumsR verb byl p (F.take (k + 1)) = if p (F.getD k default) = true then addR verb byl (sumsR verb byl p (F.take k)) (F.getD k default) else sumsR verb byl p (F.take k) := by
  have e : F.take (k + 1) = F.take k ++ [F.getD k default] := by
    rw [List.take_succ_eq_append_getElem hk]; simp [List.getD, hk]
  unfold sumsR
  rw [e, List.foldl_append]
  rfl
theorem startR_get (byl : List Int) (k : K5) : getM (startR byl) k = 0 := by
  unfold startR
  split
  · rw [getM]; split <;> rfl
  · rfl
/-- no sum is great -/
theorem sumsR_small {verb : Int} {byl : List Int} {p : SFact → Bool} {F : List SFact} (h : ∀ j, j < F.length → smallA (F.getD j default).amt) : ∀ k, k ≤ F.length → ∀ key, getM (sumsR verb byl p (F.take k)) key ≤ (k : Int) * 1125899906842624 ∧ -((k : Int) * 1125899906842624) ≤ getM (sumsR verb byl p (F.take k)) key := by
  intro k
  induction k with
  | zero => intro _ key; simp only [List.take_zero]; unfold sumsR; rw [List.foldl_nil, startR_get]; omega
  | succ k ih =>
    intro hk key
    have hi := ih (by omega)
    rw [sumsR_step (by omega)]
    have hs := h k (by omega)
    have ha : addF verb (F.getD k default) ≤ 1125899906842624 ∧ -1125899906842624 ≤ addF verb (F.getD k default) := by
      unfold addF
      split
      · omega
      · exact hs
    split
    · unfold addR
      rw [getM_putM]
      have h1 := hi (keyF byl (F.getD k default))
      have h2 := hi key
      split <;> omega
    · have h2 := hi key
      omega
theorem sumsR_keys {verb : Int} {byl : List Int} {p : SFact → Bool} {F : List SFact} (h : ∀ j, j < F.length → okK (keyF byl (F.getD j default))) : ∀ k, k ≤ F.length → ∀ q, q ∈ sumsR verb byl p (F.take k) → okK q.1 := by
  intro k
  induction k with
  | zero =>
    intro _ q hq
    simp only [List.take_zero] at hq
    unfold sumsR startR at hq
    rw [List.foldl_nil] at hq
    split at hq
    · rw [List.mem_singleton] at hq
      rw [hq]
      exact ⟨rfl, rfl, rfl, rfl, rfl⟩
    · simp at hq
  | succ k ih =>
    intro hk q hq
    rw [sumsR_step (by omega)] at hq
    split at hq
    · unfold addR at hq
      have := (keys_putM _ _ q.1 _).1 (List.mem_map.2 ⟨q, hq, rfl⟩)
      rcases this with e | e
      · rw [e]; exact h k (by omega)
      · obtain ⟨q2, h2, e2⟩ := List.mem_map.1 e
        rw [← e2]; exact ih (by omega) q2 h2
    · exact ih (by omega) q hq
end Go.Proofs.YtfnlddloalineaaGreatDoor
namespace Go.Proofs.YtfnlddloalineaaGreatDoor
set_option linter.unusedVariables false
set_option linter.unusedSimpArgs false
instance (a b : K5) : Decidable (ltK a b) := inferInstanceAs (Decidable (cmpL a.l b.l < 0))
/-- a sum put into a sorted list -/
def putS : List (K5 × Int) → K5 → Int → List (K5 × Int)
  | [], k, n => [(k, n)]
  | p :: r, k, n => if ltK p.1 k then p :: putS r k n else if ltK k p.1 then (k, n) :: p :: r else (p.1, p.2 + n) :: r
/-- where it is put -/
def posS : List (K5 × Int) → K5 → Nat
  | [], _ => 0
  | p :: r, k => if ltK p.1 k then posS r k + 1 else 0
theorem posS_le : ∀ (l : List (K5 × Int)) (k : K5), posS l k ≤ l.length := by
  intro l
  induction l with
  | nil => intro k; exact Nat.le_refl _
  | cons p r ih =>
    intro k
    rw [posS]
    have := ih k
    split
    · rw [List.length_cons]; omega
    · exact Nat.zero_le _
theorem posS_at : ∀ {l : List (K5 × Int)} {k : K5} {i : Nat}, (∀ j, j < i → ∃ p, l[j]? = some p ∧ ltK p.1 k) → (∀ p, l[i]? = some p → ¬ ltK p.1 k) → i ≤ l.length → posS l k = i := by
  intro l
  induction l with
  | nil => intro k i _ _ h; simp only [List.length_nil] at h; rw [posS]; omega
  | cons p r ih =>
    intro k i h1 h2 h3
    rw [posS]
    cases i with
    | zero => rw [if_neg (h2 p rfl)]
    | succ i =>
      obtain ⟨p', e, hp⟩ := h1 0 (by omega)
      have : p = p' := by simpa using e
      subst this
      rw [if_pos hp, ih (i := i) (fun j hj => by simpa using h1 (j + 1) (by omega)) (fun q hq => h2 q (by simpa using hq)) (by simpa using h3)]
theorem putS_new : ∀ {l : List (K5 × Int)} {k : K5} {n : Int}, (∀ p, l[posS l k]? = some p → ltK k p.1) → putS l k n = l.take (posS l k) ++ (k, n) :: l.drop (posS l k) := by
  intro l
  induction l with
  | nil => intro k n _; rfl
  | cons p r ih =>
    intro k n h
    rw [putS]
    rw [posS] at h ⊢
    by_cases c : ltK p.1 k
    · rw [if_pos c] at h ⊢
      rw [if_pos c, ih (fun q hq => h q (by simpa using hq))]
      simp
    · rw [if_neg c] at h ⊢
      rw [if_neg c, if_pos (h p rfl)]
      simp
theorem putS_old : ∀ {l : List (K5 × Int)} {k : K5} {n : Int} {p : K5 × Int}, l[posS l k]? = some p → ¬ ltK k p.1 → putS l k n = l.set (posS l k) (p.1, p.2 + n) := by
  intro l
  induction l with
  | nil => intro k n p h; simp at h
  | cons q r ih =>
    intro k n p h hk
    rw [putS]
    rw [posS] at h ⊢
    by_cases c : ltK q.1 k
    · rw [if_pos c] at h ⊢
      rw [if_pos c, ih (by simpa using h) hk]
      simp
    · rw [if_neg c] at h ⊢
      have e : q = p := by simpa using h
      subst e
      rw [if_neg c, if_neg hk]
      simp
theorem mem_putS : ∀ (l : List (K5 × Int)) (k k' : K5) (n : Int), k' ∈ (putS l k n).map (·.1) ↔ k' = k ∨ k' ∈ l.map (·.1) := by
  intro l
  induction l with
  | nil => intro k k' n; simp [putS]
  | cons p r ih =>
    intro k k' n
    rw [putS]
    by_cases c : ltK p.1 k
    · rw [if_pos c]
      simp only [List.map_cons, List.mem_cons, ih]
      constructor
      · rintro (e | e | e)
        · exact .inr (.inl e)
        · exact .inl e
        · exact .inr (.inr e)
      · rintro (e | e | e)
        · exact .inr (.inl e)
        · exact .inl e
        · exact .inr (.inr e)
    · rw [if_neg c]
      by_cases d : ltK k p.1
      · rw [if_pos d]
        simp only [List.map_cons, List.mem_cons]
      · rw [if_neg d]
        have e : p.1 = k := by
          rcases ltK_total p.1 k with h | h | h
          · exact absurd h c
          · exact h
          · exact absurd h d
        simp only [List.map_cons, List.mem_cons]
        rw [e]
        constructor
        · rintro (h | h)
          · exact .inl h
          · exact .inr (.inr h)
        · rintro (h | h | h)
          · exact .inl h
          · exact .inl h
          · exact .inr h
def Rise (l : List (K5 × Int)) : Prop := (l.map (·.1)).Pairwise ltK
theorem putS_rise : ∀ {l : List (K5 × Int)} {k : K5} {n : Int}, Rise l → Rise (putS l k n) := by
  intro l
  induction l with
  | nil => intro k n _; exact List.pairwise_singleton _ _
  | cons p r ih =>
    intro k n h
    unfold Rise at h ⊢
    rw [List.map_cons, List.pairwise_cons] at h
    rw [putS]
    by_cases c : ltK p.1 k
    · rw [if_pos c, List.map_cons, List.pairwise_cons]
      refine ⟨fun x hx => ?_, ih h.2⟩
      rcases (mem_putS r k x n).1 hx with e | e
      · rw [e]; exact c
      · exact h.1 x e
    · rw [if_neg c]
      by_cases d : ltK k p.1
      · rw [if_pos d, List.map_cons, List.map_cons, List.pairwise_cons, List.pairwise_cons]
        refine ⟨fun x hx => ?_, h⟩
        rcases List.mem_cons.1 hx with e | e
        · rw [e]; exact d
        · exact ltK_trans d (h.1 x e)
      · rw [if_neg d, List.map_cons, List.pairwise_cons]
        exact h
theorem getM_putS : ∀ {l : List (K5 × Int)} {k k' : K5} {n : Int}, Rise l → getM (putS l k n) k' = if k' = k then getM l k + n else getM l k' := by
  intro l
  induction l with
  | nil =>
    intro k k' n _
    show (if k = k' then n else 0) = if k' = k then 0 + n else 0
    by_cases e : k' = k
    · rw [if_pos e, if_pos e.symm]; omega
    · rw [if_neg e, if_neg (fun h : k = k' => e h.symm)]
  | cons p r ih =>
    intro k k' n h
    have h0 : (∀ x, x ∈ r.map (·.1) → ltK p.1 x) ∧ Rise r := by
      have h1 := h
      unfold Rise at h1
      rw [List.map_cons, List.pairwise_cons] at h1
      exact h1
    have hget : ∀ x, getM (p :: r) x = if p.1 = x then p.2 else getM r x := fun x => rfl
    rw [putS]
    by_cases c : ltK p.1 k
    · rw [if_pos c]
      have hne : p.1 ≠ k := fun e => ltK_irr k (e ▸ c)
      show (if p.1 = k' then p.2 else getM (putS r k n) k') = _
      rw [ih h0.2, hget, hget, if_neg hne]
      by_cases e : k' = k
      · rw [if_pos e, if_pos e, if_neg (fun e2 : p.1 = k' => hne (e2.trans e))]
      · rw [if_neg e, if_neg e]
    · rw [if_neg c]
      by_cases d : ltK k p.1
      · rw [if_pos d]
        have hz : getM (p :: r) k = 0 := getM_none fun q hq e => by
          rcases List.mem_cons.1 hq with e2 | e2
          · rw [← e2, e] at d; exact ltK_irr _ d
          · exact ltK_irr k (ltK_trans d (e ▸ h0.1 q.1 (List.mem_map.2 ⟨q, e2, rfl⟩)))
        show (if k = k' then n else getM (p :: r) k') = _
        rw [hz]
        by_cases e : k' = k
        · rw [if_pos e, if_pos e.symm]; omega
        · rw [if_neg e, if_neg (fun h : k = k' => e h.symm)]
      · rw [if_neg d]
        have e : p.1 = k := by
          rcases ltK_total p.1 k with h | h | h
          · exact absurd h c
          · exact h
          · exact absurd h d
        show (if p.1 = k' then p.2 + n else getM r k') = _
        rw [hget, hget, if_pos e, e]
        by_cases f : k' = k
        · rw [if_pos f, if_pos f.symm]
        · rw [if_neg f, if_neg (fun h : k = k' => f h.symm), if_neg (fun h : k = k' => f h.symm)]
/-- a rising list is its keys with what they hold -/
theorem rise_map : ∀ {l : List (K5 × Int)}, Rise l → l = (l.map (·.1)).map fun k => (k, getM l k) := by
  intro l
  induction l with
  | nil => intro _; rfl
  | cons p r ih =>
    intro h
    have h0 : (∀ x, x ∈ r.map (·.1) → ltK p.1 x) ∧ Rise r := by
      have h1 := h
      unfold Rise at h1
      rw [List.map_cons, List.pairwise_cons] at h1
      exact h1
    rw [List.map_cons, List.map_cons]
    have e1 : (p.1, getM (p :: r) p.1) = p := by
      show (p.1, (if p.1 = p.1 then p.2 else getM r p.1)) = p
      rw [if_pos rfl]
    rw [e1]
    congr 1
    have e2 : (r.map (·.1)).map (fun k => (k, getM (p :: r) k)) = (r.map (·.1)).map fun k => (k, getM r k) := by
      apply List.map_congr_left
      intro x hx
      show (x, (if p.1 = x then p.2 else getM r x)) = (x, getM r x)
      rw [if_neg (fun e : p.1 = x => ltK_irr x (by have h9 := h0.1 x hx; rw [e] at h9; exact h9))]
    rw [e2]
    exact ih h0.2
/-- the reference's sums -/
def sumsI (verb : Int) (byl : List Int) (p : SFact → Bool) (F : List SFact) : List (K5 × Int) := F.foldl (fun l f => if p f = true then putS l (keyF byl f) (addF verb f) else l) (startR byl)
theorem sumsI_step {verb : Int} {byl : List Int} {p : SFact → Bool} {F : List SFact} {k : Nat} (hk : k < F.length) : sumsI verb byl p (F.take (k + 1)) = if p (F.getD k default) = true then putS (sumsI verb byl p (F.take k)) (keyF byl (F.getD k default)) (addF verb (F.getD k default)) else sumsI verb byl p (F.take k) := by
  have e : F.take (k + 1) = F.take k ++ [F.getD k default] := by
    rw [List.take_succ_eq_append_getElem hk]; simp [List.getD, hk]
  unfold sumsI
  rw [e, List.foldl_append]
  rfl
/-- both sums say the same -/
theorem sums_same {verb : Int} {byl : List Int} {p : SFact → Bool} {F : List SFact} : ∀ k, k ≤ F.length → Rise (sumsI verb byl p (F.take k)) ∧ (∀ x, x ∈ (sumsI verb byl p (F.take k)).map (·.1) ↔ x ∈ (sumsR verb byl p (F.take k)).map (·.1)) ∧ ∀ x, getM (sumsI verb byl p (F.take k)) x = getM (sumsR verb byl p (F.take k)) x := by
  intro k
  induction k with
  | zero =>
    intro _
    simp only [List.take_zero]
    unfold sumsI sumsR
    rw [List.foldl_nil, List.foldl_nil]
    refine ⟨?_, fun x => Iff.rfl, fun x => rfl⟩
    unfold startR Rise
    split
    · exact List.pairwise_singleton _ _
    · exact List.Pairwise.nil
  | succ k ih =>
    intro hk
    obtain ⟨h1, h2, h3⟩ := ih (by omega)
    rw [sumsI_step (by omega), sumsR_step (by omega)]
    split
    · refine ⟨putS_rise h1, fun x => ?_, fun x => ?_⟩
      · unfold addR
        rw [mem_putS, keys_putM, h2]
      · unfold addR
        rw [getM_putS h1, getM_putM, h3, h3]
    · exact ⟨h1, h2, h3⟩
/-- the keys of the map, sorted, with what they hold: the reference's list -/
theorem sums_sorted {verb : Int} {byl : List Int} {p : SFact → Bool} {F : List SFact} {ks : List K5} (hr : ks.Pairwise ltK) (hm : ∀ x, x ∈ ks ↔ x ∈ (sumsR verb byl p F).map (·.1)) : ks.map (fun k => (k, getM (sumsR verb byl p F) k)) = sumsI verb byl p F := by
  obtain ⟨h1, h2, h3⟩ := sums_same (verb := verb) (byl := byl) (p := p) (F := F) F.length (Nat.le_refl _)
  rw [List.take_length] at h1 h2 h3
  have e : ks = (sumsI verb byl p F).map (·.1) := rising_eq hr h1 fun x => by rw [hm, h2]
  rw [rise_map h1, ← e]
  apply List.map_congr_left
  intro x _
  rw [h3]
/-- two rows that end alike compare as their beginnings do -/
theorem cmpL_app : ∀ {xs ys zs : List Int}, xs.length = ys.length → (cmpL (xs ++ zs) (ys ++ zs) < 0 ↔ cmpL xs ys < 0) := by
  intro xs
  induction xs with
  | nil =>
    intro ys zs h
    cases ys with
    | nil => exact ⟨fun k => absurd k (cmpL_irr _), fun k => absurd k (cmpL_irr _)⟩
    | cons y s => simp at h
  | cons x r ih =>
    intro ys zs h
    cases ys with
    | nil => simp at h
    | cons y s =>
      rw [List.cons_append, List.cons_append, cmpL_cons, cmpL_cons, ih (by simpa using h)]
/-- the key's own part -/
def keyL (byl : List Int) (f : SFact) : List Int := byl.map (fldF f)
end Go.Proofs.YtfnlddloalineaaGreatDoor
namespace Go.Proofs.YtfnlddloalineaaGreatDoor
open Go.RowKit
set_option linter.unusedVariables false
set_option linter.unusedSimpArgs false
set_option maxRecDepth 100000
theorem info_int5 : (Tryz.prog.info? 3).map (fun i => (i.zero, i.size, i.bytes)) = some (some (.int .i64 0), 1, 8) := by kernel_rfl
theorem ints_one (xs : List Int) : ∀ u ∈ xs.map intV, u.oneCell' = true := by
  intro u hu
  obtain ⟨x, _, rfl⟩ := List.mem_map.1 hu
  rfl
theorem row_empty (w : World) (e : TypeId) (S : Nat) : (w.alloc (.cells #[] e)).ownsRow w.heap.size e S (.slice (some ⟨w.heap.size, 0, none⟩) 0 0) 0 [] :=
  ⟨by simp, .inr ⟨w.heap.size, 0, #[], rfl, Nat.le_refl _, (MapKept.heap_alloc w _).1, Nat.le_refl _, Nat.zero_le _, by simp, by simp⟩⟩
set_option maxHeartbeats 4000000 in
theorem clone_any (xs : List Int) (ad : Addr) (n c B : Nat) (w : World) (h : Reads w B 1 (some ad) n (xs.map intV)) (hB : B ≤ w.heap.size) (hn : n ≤ 1000) :
    Calls Tryz.prog 66 #[.slice (some ad) n c] w fun e w' => ∃ A' c', e = .returned (.slice A' n c') ∧ w'.ownsRow w.heap.size 3 1 (.slice A' n c') n (xs.map intV) ∧ Below w.heap.size w w' := by
  obtain ⟨i0, hi0, hz0, hz1, hz2⟩ := info_parts info_int5
  have HR := Lib.hid h
  clear h
  go_enter Tryz.func66, Tryz.ntmps66
  have q0 : (binOp .eql 23 (.slice (some ad) n c) (.slice none 0 0)).run Tryz.prog w = .ok (.bool false) w := by first | rfl | kernel_rfl | (unfold binOp; rfl) | (unfold binOp; simp [go_sem])
  go_wp2_with (at_builtin; refine wpList_append_any _ rfl (.tmp 5) (.tmp 6) _ rfl w.heap.size 3 i0 _ 1 8 Tryz.underlying23 hi0 hz0 hz1 hz2 rfl (by omega) _ 0 [] rfl (row_empty w 3 1) B (some ad) n c (xs.map intV) rfl (HR.out.alloc hB _) (ints_one xs) (by simp only [maxLen]; omega) (by omega) (by simp only [World.size_alloc]; omega) ?_; intro v6 w6 hown6 hg6 hat6; have HF6 := Lib.hid (And.intro hown6 hg6); clear hown6 hg6 hat6)
  have HF7 := HF6.out
  rw [Nat.zero_add, List.nil_append] at HF7
  obtain ⟨ho, hg⟩ := HF7
  obtain ⟨A', c', rfl⟩ := own_slice (n := n) ho
  clear HF6
  go_wp2_with fail
  go_ret
  exact ⟨A', c', rfl, ho, ((Below.refl w.heap.size w).alloc (Nat.le_refl _) (.cells #[] 3)).grown hg (by rw [World.size_alloc]; omega) (fun r e => by replace e : some w.heap.size = some r := e; injection e with e; omega)⟩
end Go.Proofs.YtfnlddloalineaaGreatDoor
