/-
  The reference's Account and Find (of entities).
-/
import Derived.Test.YtcmmppkmkejniaaGreatDoorGvVp
import Derived.Test.YtcmmppkmkejniaaGreatDoorGvMr
namespace Go.Proofs.YtcmmppkmkejniaaGreatDoor
open Go.RowKit
set_option linter.unusedVariables false
set_option maxRecDepth 100000 in
set_option maxHeartbeats 8000000 in
theorem racc_any (g : SGrp) (code : Int) (B : Nat) (w : World) (hg : ChartIn w B g.Ac g.nc g.cc g.chart) (hB : B ≤ w.heap.size) :
    Calls Tryz.prog 41 #[grpV g, .int .i64 code] w fun e w' => e = .returned (findV g.chart code) ∧ Below w.heap.size w w' := by
  obtain ⟨cu, yr, mo, pe, Ac, nc, cc, ch, ro, Ae, ne, ce, es⟩ := g
  have HC := Lib.hid hg
  clear hg
  have hge : Hid (grpV ⟨cu, yr, mo, pe, Ac, nc, cc, ch, ro, Ae, ne, ce, es⟩ = .agg (grpC ⟨cu, yr, mo, pe, Ac, nc, cc, ch, ro, Ae, ne, ce, es⟩)) := rfl
  have hc4 : Hid ((grpC ⟨cu, yr, mo, pe, Ac, nc, cc, ch, ro, Ae, ne, ce, es⟩)[4]? = some (.slice Ac nc cc)) := rfl
  rw [hge.out]
  simp only [] at HC ⊢
  have hsz : Hid ((grpC ⟨cu, yr, mo, pe, Ac, nc, cc, ch, ro, Ae, ne, ce, es⟩).size = 21) := rfl
  clear hge
  unfold grpC at hc4 hsz ⊢
  simp only [] at hc4 hsz ⊢
  have HB0 := Lib.hid (((Below.refl w.heap.size w).alloc (Nat.le_refl _) (.cells #[.string ⟨cu.toArray⟩, .int .i64 yr, .int .i64 mo, .int .i64 pe, .slice Ac nc cc, .int .i64 ro.c0, .int .i64 ro.c1, .int .i64 ro.c2, .int .i64 ro.c3, .int .i64 ro.c4, .int .i64 ro.c5, .int .i64 ro.c6, .int .i64 ro.c7, .int .i64 ro.c8, .int .i64 ro.c9, .int .i64 ro.c10, .int .i64 ro.c11, .int .i64 ro.c12, .int .i64 ro.c13, .int .i64 ro.c14, .slice Ae ne ce] 29)).alloc (by simp) (.cells #[.int .i64 0, .int .i64 0, .int .i64 0, .int .i64 0] 42))
  have HK : Hid (Blk ((w.alloc (.cells #[.string ⟨cu.toArray⟩, .int .i64 yr, .int .i64 mo, .int .i64 pe, .slice Ac nc cc, .int .i64 ro.c0, .int .i64 ro.c1, .int .i64 ro.c2, .int .i64 ro.c3, .int .i64 ro.c4, .int .i64 ro.c5, .int .i64 ro.c6, .int .i64 ro.c7, .int .i64 ro.c8, .int .i64 ro.c9, .int .i64 ro.c10, .int .i64 ro.c11, .int .i64 ro.c12, .int .i64 ro.c13, .int .i64 ro.c14, .slice Ae ne ce] 29)).alloc (.cells #[.int .i64 0, .int .i64 0, .int .i64 0, .int .i64 0] 42)) (w.heap.size + 1) 42 #[.int .i64 0, .int .i64 0, .int .i64 0, .int .i64 0]) := by
    have := Blk.new (w.alloc (.cells #[.string ⟨cu.toArray⟩, .int .i64 yr, .int .i64 mo, .int .i64 pe, .slice Ac nc cc, .int .i64 ro.c0, .int .i64 ro.c1, .int .i64 ro.c2, .int .i64 ro.c3, .int .i64 ro.c4, .int .i64 ro.c5, .int .i64 ro.c6, .int .i64 ro.c7, .int .i64 ro.c8, .int .i64 ro.c9, .int .i64 ro.c10, .int .i64 ro.c11, .int .i64 ro.c12, .int .i64 ro.c13, .int .i64 ro.c14, .slice Ae ne ce] 29)) 42 #[.int .i64 0, .int .i64 0, .int .i64 0, .int .i64 0]
    simp only [World.size_alloc] at this
    exact this
  go_enter Tryz.func41, Tryz.ntmps41
  go_wp2_with fail
  have HF := Lib.hid (rfind_any ch Ac nc cc code B _ (HC.out.rd.lowg hB (Nat.le_refl _) HB0.out) (by simp only [World.size_alloc]; omega) HC.out.le)
  refine HF.out.mono ?_
  rintro e w1 ⟨rfl, hb1⟩
  have HB1 := Lib.hid (below_two HB0.out hb1)
  have HK1 := Lib.hid (HK.out.below hb1 (by simp))
  have hlt1 := HK1.out.lt
  have hfz := HK1.out.frozen
  obtain ⟨y0, y1, y2, y3⟩ := acc_blk HK1.out
  clear hb1 HF
  cases hf : findA ch code with
  | none =>
    have F := Lib.hid (findV_no hf)
    clear hf
    rw [F.out]
    go_wp2_with fail
    have hbz := set4_below (a := .int .i64 0) (b := .int .i64 0) (c := .int .i64 0) (d := .int .i64 0) HB1.out (g := w.heap.size + 1) (by omega)
    have hbk2 := set4 (a' := .int .i64 0) (b' := .int .i64 0) (c' := .int .i64 0) (d' := .int .i64 0) HK1.out
    generalize World.setCell _ ⟨w.heap.size + 1, 3, none⟩ _ = wz at *
    obtain ⟨z0, z1, z2, z3⟩ := acc_blk hbk2
    refine bodyPost_ret (v := .tuple #[.agg #[.int .i64 0, .int .i64 0, .int .i64 0, .int .i64 0], .bool false]) ?_ rfl ⟨by rw [F.out], hbz⟩
    simp [results, Tryz.results41, go_sem, z0, z1, z2, z3]
  | some x =>
    have F := Lib.hid (findV_yes hf)
    clear hf
    obtain ⟨x0, x1, x2, x3⟩ := x
    simp only [] at F
    rw [F.out]
    go_wp2_with fail
    have hbz := set4_below (a := .int .i64 x0) (b := .int .i64 x1) (c := .int .i64 x2) (d := .int .i64 x3) HB1.out (g := w.heap.size + 1) (by omega)
    have hbk2 := set4 (a' := .int .i64 x0) (b' := .int .i64 x1) (c' := .int .i64 x2) (d' := .int .i64 x3) HK1.out
    generalize World.setCell _ ⟨w.heap.size + 1, 3, none⟩ _ = wz at *
    obtain ⟨z0, z1, z2, z3⟩ := acc_blk hbk2
    refine bodyPost_ret (v := .tuple #[.agg #[.int .i64 x0, .int .i64 x1, .int .i64 x2, .int .i64 x3], .bool true]) ?_ rfl ⟨by rw [F.out], hbz⟩
    simp [results, Tryz.results41, go_sem, z0, z1, z2, z3]
/-- the number of the first entity with a name; whether there is one -/
def entIdx (es : List SEnt) (s : List UInt8) : Option Nat := es.findIdx? fun e => e.name == s
def findEV (es : List SEnt) (s : List UInt8) : Value := match entIdx es s with
  | some k => .tuple #[.int .i64 (k : Int), .bool true]
  | none => .tuple #[.int .i64 0, .bool false]
theorem entIdx_at {es : List SEnt} {s : List UInt8} {k : Nat} (hk : k < es.length) (h : ∀ i, i < k → ((es.getD i default).name == s) = false) (h2 : ((es.getD k default).name == s) = true) : entIdx es s = some k := by
  unfold entIdx
  rw [List.findIdx?_eq_some_iff_getElem]
  refine ⟨hk, by simpa [List.getD, hk] using h2, fun j hj => ?_⟩
  have := h j hj
  have hjl : j < es.length := by omega
  simpa [List.getD, hjl] using this
theorem entIdx_none {es : List SEnt} {s : List UInt8} (h : ∀ i, i < es.length → ((es.getD i default).name == s) = false) : entIdx es s = none := by
  unfold entIdx
  rw [List.findIdx?_eq_none_iff]
  intro x hx
  obtain ⟨i, hi, rfl⟩ := List.mem_iff_getElem.1 hx
  have := h i hi
  simpa [List.getD, hi] using this
set_option maxRecDepth 100000 in
set_option maxHeartbeats 8000000 in
theorem refind_any (g : SGrp) (s : List UInt8) (B : Nat) (w : World) (hg : Reads w B 5 g.Ae g.ne (entsC g.ents)) (hB : B ≤ w.heap.size) (hne : g.ne ≤ 1000) :
    Calls Tryz.prog 24 #[grpV g, .string ⟨s.toArray⟩] w fun e w' => e = .returned (findEV g.ents s) ∧ Below w.heap.size w w' := by
  have HL := Lib.hid (ents_len hg)
  obtain ⟨cu, yr, mo, pe, Ac, nc, cc, ch, ro, Ae, ne, ce, es⟩ := g
  have HR := Lib.hid hg
  clear hg
  unfold grpV
  simp only [] at HR HL hne ⊢
  generalize hgo : findEV es s = ok
  have HG := Lib.hid hgo.symm
  clear hgo
  have HB0 := Lib.hid ((Below.refl w.heap.size w).alloc (Nat.le_refl _) (.cells #[.string ⟨cu.toArray⟩, .int .i64 yr, .int .i64 mo, .int .i64 pe, .slice Ac nc cc, .int .i64 ro.c0, .int .i64 ro.c1, .int .i64 ro.c2, .int .i64 ro.c3, .int .i64 ro.c4, .int .i64 ro.c5, .int .i64 ro.c6, .int .i64 ro.c7, .int .i64 ro.c8, .int .i64 ro.c9, .int .i64 ro.c10, .int .i64 ro.c11, .int .i64 ro.c12, .int .i64 ro.c13, .int .i64 ro.c14, .slice Ae ne ce] 29))
  have HE := Lib.hid (Blk.new w 29 #[.string ⟨cu.toArray⟩, .int .i64 yr, .int .i64 mo, .int .i64 pe, .slice Ac nc cc, .int .i64 ro.c0, .int .i64 ro.c1, .int .i64 ro.c2, .int .i64 ro.c3, .int .i64 ro.c4, .int .i64 ro.c5, .int .i64 ro.c6, .int .i64 ro.c7, .int .i64 ro.c8, .int .i64 ro.c9, .int .i64 ro.c10, .int .i64 ro.c11, .int .i64 ro.c12, .int .i64 ro.c13, .int .i64 ro.c14, .slice Ae ne ce])
  go_enter Tryz.func24, Tryz.ntmps24
  go_wp2_with fail
  generalize hw0 : w.alloc _ = w0 at *
  clear hw0
  have g20 := HE.out.cell 20
  simp only [List.getElem?_toArray, List.getElem?_cons_succ, List.getElem?_cons_zero] at g20
  go_loop [6] (fun i => ∃ k : Nat, k ≤ ne ∧ i = .int .i64 k ∧ ∀ j, j < k → ((es.getD j default).name == s) = false) (fun i => ne - (intOf i).toNat)
  case atStart => exact ⟨0, by omega, rfl, fun j hj => by omega⟩
  case round =>
    obtain ⟨k, hk, rfl, hd⟩ := hrel
    have HD := Lib.hid hd
    clear hd
    by_cases hlt : k < ne
    case pos =>
      have k3 : decide ((k : Int) < (ne : Int)) = true := by rw [decide_eq_true_eq]; omega
      have b15 : (k : Int) < (ne : Int) := by omega
      obtain ⟨ad, rfl, hbk, c0, c1, c2, c3, c4⟩ := (HR.out.lowg hB (Nat.le_refl _) HB0.out).ent_at hlt
      have HY : Hid (((es.getD k default).name == s) = true → entIdx es s = some k) := fun h => entIdx_at (by rw [HL.out]; exact hlt) HD.out h
      have HN : Hid (((es.getD k default).name == s) = false → ∀ j, j < k + 1 → ((es.getD j default).name == s) = false) := fun h j hj => by
        rcases Nat.lt_or_ge j k with h1 | h1
        · exact HD.out j h1
        · obtain rfl : j = k := by omega
          exact h
      generalize es.getD k default = x at *
      obtain ⟨nm, xu, Xc, xn, xc, xch, Al, nl, cl, ls, jt⟩ := x
      simp only [] at c0 c1 c2 c3 c4 HY HN
      clear c1 c2 c3 c4
      cases hc : nm == s
      case false =>
        have F := Lib.hid (HN.out hc)
        have hc2 : ¬ nm = s := by rw [beq_eq_false_iff_ne] at hc; exact hc
        clear HY HN
        go_wp2_with fail
        go_round
        case rel => exact ⟨k + 1, by omega, by go_num, F.out⟩
        case measure => simp [intOf]; omega
      case true =>
        have F : Hid (findEV es s = .tuple #[.int .i64 (k : Int), .bool true]) := by show _ = _; unfold findEV; rw [HY.out hc]
        obtain rfl : nm = s := by simpa using hc
        clear HY HN
        go_wp2_with fail
        go_ret2
        exact ⟨by rw [HG.out, F.out]; rfl, HB0.out⟩
    case neg =>
      have k3 : decide ((k : Int) < (ne : Int)) = false := by rw [decide_eq_false_iff_not]; omega
      have F : Hid (findEV es s = .tuple #[.int .i64 0, .bool false]) := by show _ = _; unfold findEV; rw [entIdx_none (fun i hi => HD.out i (by rw [HL.out] at hi; omega))]
      go_wp2_with fail
      go_ret2
      exact ⟨by rw [HG.out, F.out]; rfl, HB0.out⟩
end Go.Proofs.YtcmmppkmkejniaaGreatDoor
