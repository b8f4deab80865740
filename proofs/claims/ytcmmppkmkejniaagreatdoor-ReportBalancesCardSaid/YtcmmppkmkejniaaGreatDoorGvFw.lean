/-
  The reference's Few: a group is small.
-/
import Derived.Test.YtcmmppkmkejniaaGreatDoorGvVr
namespace Go.Proofs.YtcmmppkmkejniaaGreatDoor
open Go.RowKit
set_option linter.unusedVariables false
/-- what Few says of a group: if it says yes, the charts and the list of entities are short -/
def FewSays (g : SGrp) (w : World) (e : Ending) (w' : World) : Prop := ∃ b : Bool, e = .returned (.bool b) ∧ (b = true → g.nc ≤ 60 ∧ g.ne ≤ 14 ∧ ∀ x ∈ g.ents, x.nc ≤ 40) ∧ Below w.heap.size w w'
theorem FewSays.no {g : SGrp} {w w' : World} (hb : Below w.heap.size w w') : FewSays g w (.returned (.bool false)) w' := ⟨false, rfl, (fun h => by cases h), hb⟩
set_option maxRecDepth 100000 in
set_option maxHeartbeats 8000000 in
theorem gfew_any (g : SGrp) (B : Nat) (w : World) (hg : GrpIn w B g) (hB : B ≤ w.heap.size) : Calls Tryz.prog 7 #[grpV g] w (FewSays g w) := by
  have HEL2 := Lib.hid (ents_len hg.en)
  obtain ⟨cu, yr, mo, pe, Ac, nc, cc, ch, ro, Ae, ne, ce, es⟩ := g
  unfold grpV
  have HEN := Lib.hid hg.en
  have HOK := Lib.hid hg.ok
  have hne := hg.ne
  have hcl := hg.ch.le
  have hcu := hg.cu
  clear hg
  simp only [] at HEN HOK hne hcl hcu HEL2 ⊢
  have HBX := Lib.hid ((Below.refl w.heap.size w).alloc (Nat.le_refl _) (.cells #[.string ⟨cu.toArray⟩, .int .i64 yr, .int .i64 mo, .int .i64 pe, .slice Ac nc cc, .int .i64 ro.c0, .int .i64 ro.c1, .int .i64 ro.c2, .int .i64 ro.c3, .int .i64 ro.c4, .int .i64 ro.c5, .int .i64 ro.c6, .int .i64 ro.c7, .int .i64 ro.c8, .int .i64 ro.c9, .int .i64 ro.c10, .int .i64 ro.c11, .int .i64 ro.c12, .int .i64 ro.c13, .int .i64 ro.c14, .slice Ae ne ce] 29))
  have HE := Lib.hid (Blk.new w 29 #[.string ⟨cu.toArray⟩, .int .i64 yr, .int .i64 mo, .int .i64 pe, .slice Ac nc cc, .int .i64 ro.c0, .int .i64 ro.c1, .int .i64 ro.c2, .int .i64 ro.c3, .int .i64 ro.c4, .int .i64 ro.c5, .int .i64 ro.c6, .int .i64 ro.c7, .int .i64 ro.c8, .int .i64 ro.c9, .int .i64 ro.c10, .int .i64 ro.c11, .int .i64 ro.c12, .int .i64 ro.c13, .int .i64 ro.c14, .slice Ae ne ce])
  have HNO : Hid (∀ w' : World, Below w.heap.size w w' → FewSays ⟨cu, yr, mo, pe, Ac, nc, cc, ch, ro, Ae, ne, ce, es⟩ w (.returned (.bool false)) w') := by
    show ∀ _, _
    intro w' hb
    exact FewSays.no hb
  have HYES : Hid (∀ (b : Bool) (w' : World), nc ≤ 60 → ne ≤ 14 → (∀ j, j < ne → (es.getD j default).nc ≤ 40) → Below w.heap.size w w' → FewSays ⟨cu, yr, mo, pe, Ac, nc, cc, ch, ro, Ae, ne, ce, es⟩ w (.returned (.bool b)) w') := by
    show ∀ _, _
    intro b w' h1 h2 h3 hb
    refine ⟨b, rfl, fun _ => ⟨h1, h2, fun x hx => ?_⟩, hb⟩
    obtain ⟨j, hj, rfl⟩ := List.mem_iff_getElem.1 hx
    have := h3 j (by rw [← HEL2.out]; exact hj)
    simpa [List.getD, hj] using this
  go_enter Tryz.func7, Tryz.ntmps7
  go_wp2_with fail
  go_loopw [3] (fun i wr => ∃ k : Nat, i = .int .i64 k ∧ k ≤ ne ∧ (∀ j, j < k → (es.getD j default).nc ≤ 40) ∧ Below w.heap.size w wr ∧ Blk wr w.heap.size 29 #[.string ⟨cu.toArray⟩, .int .i64 yr, .int .i64 mo, .int .i64 pe, .slice Ac nc cc, .int .i64 ro.c0, .int .i64 ro.c1, .int .i64 ro.c2, .int .i64 ro.c3, .int .i64 ro.c4, .int .i64 ro.c5, .int .i64 ro.c6, .int .i64 ro.c7, .int .i64 ro.c8, .int .i64 ro.c9, .int .i64 ro.c10, .int .i64 ro.c11, .int .i64 ro.c12, .int .i64 ro.c13, .int .i64 ro.c14, .slice Ae ne ce]) (fun i _ => ne - (intOf i).toNat)
  case atStart => exact ⟨0, rfl, by omega, (fun j hj => by omega), HBX.out, HE.out⟩
  case round =>
    obtain ⟨k, rfl, hk, hd, hbr, hbl⟩ := hrel
    obtain ⟨wo, rfl⟩ : ∃ wo : World, wo = wr := ⟨_, rfl⟩
    have HD := Lib.hid hd
    have HEO := Lib.hid hbl
    have hlt0 := hbl.lt
    have g20 := hbl.cell 20
    simp only [List.getElem?_toArray, List.getElem?_cons_succ, List.getElem?_cons_zero] at g20
    clear hd
    by_cases hlt : k < ne
    case pos =>
      have k3 : decide ((k : Int) < (ne : Int)) = true := by rw [decide_eq_true_eq]; omega
      have b15 : (k : Int) < (ne : Int) := by omega
      have hkl : k < es.length := by rw [HEL2.out]; exact hlt
      obtain ⟨ad, rfl, hbk2, c0, c1, c2, c3, c4⟩ := (HEN.out.lowg hB (Nat.le_refl _) hbr).ent_at hlt
      have HX := Lib.hid (HOK.out (es.getD k default) (by simp [List.getD, hkl]))
      have HN : Hid ((es.getD k default).nc ≤ 40 → ∀ j, j < k + 1 → (es.getD j default).nc ≤ 40) := fun h j hj => by
        rcases Nat.lt_or_ge j k with h1 | h1
        · exact HD.out j h1
        · obtain rfl : j = k := by omega
          exact h
      clear hkl hbl
      generalize es.getD k default = x at *
      obtain ⟨nm, xu, Xc, xn, xc, xch, Al, nl, cl, ls, jt⟩ := x
      have hxl := HX.out.ch.le
      have hll := HX.out.li.le
      simp only [] at c0 c1 c2 c3 c4 HN hxl hll
      have hs3 := hbr.size
      have HB4 := Lib.hid (hbr.alloc hs3 (.cells #[.string ⟨nm.toArray⟩, .string ⟨xu.toArray⟩, .slice Xc xn xc, .slice Al nl cl, .bool jt] 61))
      have HE4 := Lib.hid (HEO.out.alloc (.cells #[.string ⟨nm.toArray⟩, .string ⟨xu.toArray⟩, .slice Xc xn xc, .slice Al nl cl, .bool jt] 61))
      by_cases h40 : xn ≤ 40
      case neg =>
        have d1 : decide ((40 : Int) < (xn : Int)) = true := by rw [decide_eq_true_eq]; omega
        go_wp2_with fail
        go_ret
        exact HNO.out _ HB4.out
      case pos =>
        have d1 : decide ((40 : Int) < (xn : Int)) = false := by rw [decide_eq_false_iff_not]; omega
        by_cases h60 : nl ≤ 60
        case neg =>
          have d2 : decide ((60 : Int) < (nl : Int)) = true := by rw [decide_eq_true_eq]; omega
          go_wp2_with fail
          go_ret
          exact HNO.out _ HB4.out
        case pos =>
          have d2 : decide ((60 : Int) < (nl : Int)) = false := by rw [decide_eq_false_iff_not]; omega
          have F := Lib.hid (HN.out h40)
          clear HN
          go_wp2_with fail
          all_goals (first
            | exact ⟨⟨k + 1, by go_num, by omega, F.out, HB4.out, HE4.out⟩, by simp [intOf]; omega⟩
            | (go_ret; exact HNO.out _ HB4.out))
    case neg =>
      have k3 : decide ((k : Int) < (ne : Int)) = false := by rw [decide_eq_false_iff_not]; omega
      have g0 := hbl.cell 0
      have g4 := hbl.cell 4
      simp only [List.getElem?_toArray, List.getElem?_cons_succ, List.getElem?_cons_zero] at g0 g4
      clear hbl
      by_cases h60 : nc ≤ 60
      case neg =>
        have d1 : decide ((nc : Int) ≤ 60) = false := by rw [decide_eq_false_iff_not]; omega
        go_wp2_with fail
        go_ret
        exact HNO.out _ hbr
      case pos =>
        have d1 : decide ((nc : Int) ≤ 60) = true := by rw [decide_eq_true_eq]; omega
        by_cases h14 : ne ≤ 14
        case neg =>
          have d2 : decide ((ne : Int) ≤ 14) = false := by rw [decide_eq_false_iff_not]; omega
          go_wp2_with fail
          go_ret
          exact HNO.out _ hbr
        case pos =>
          have d2 : decide ((ne : Int) ≤ 14) = true := by rw [decide_eq_true_eq]; omega
          have F : Hid (∀ j, j < ne → (es.getD j default).nc ≤ 40) := fun j hj => HD.out j (by omega)
          go_wp2_with fail
          go_ret
          exact HYES.out _ _ h60 h14 F.out hbr
end Go.Proofs.YtcmmppkmkejniaaGreatDoor
