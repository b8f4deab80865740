/-
  Valid of both: charts.
-/
import Derived.Test.YtcmmppkmkejniaaGreatDoorBlG1
import Derived.Deep.RegionHeldLaw
import Derived.Deep.RegionHeld3
import Derived.Deep.CutRange
import Derived.Deep.CutBlock
import Derived.IntWalk
namespace Go.Proofs.YtcmmppkmkejniaaGreatDoor
open Go.RowKit
set_option linter.unusedVariables false
set_option linter.unusedSimpArgs false
theorem below_drew {B : Nat} {a w : World} (h : Below B a w) : Below B a w.drew := ⟨h.os, h.tape, h.output, h.size, h.block⟩
theorem allR_step {f : Nat → Bool} {k : Nat} (h : (List.range k).all f = true) (h' : f k = true) : (List.range (k + 1)).all f = true := by
  rw [List.range_succ, List.all_append, h]; simp [h']
theorem allR_no {f : Nat → Bool} {k n : Nat} (hk : k < n) (h : f k = false) : (List.range n).all f = false := by
  rw [List.all_eq_false]
  exact ⟨k, List.mem_range.2 hk, by rw [h]; simp⟩
theorem chartR_no {l : List SAcc} {g : Bool} {k : Nat} (hk : k < l.length) (h : chartAtR l g k = false) : chartR l g = false := by unfold chartR; rw [allR_no hk h, Bool.and_false]
theorem chartP_no {l : List SAcc} {g : Bool} {k : Nat} (hk : k < l.length) (h : chartAtP l g k = false) : chartP l g = false := by unfold chartP; rw [allR_no hk h, Bool.false_and]
theorem Reads.low_ {w w' : World} {size n : Nat} {A : Option Addr} {xs : List Value} (h : Reads w w.heap.size size A n xs) (hb : Below w.heap.size w w') : Reads w' w'.heap.size size A n xs := (h.keep fun _ hp => hb.cell hp).more hb.size
/-- what a round of Valid has before it -/
def ChS (wo : World) (ad : Addr) (k q : Nat) (x0 x1 x2 x3 pc : Int) (W : World) : Prop := Below wo.heap.size wo W ∧ W.cell? (ad.add (k * 4)) = some (.int .i64 x0) ∧ W.cell? ⟨(ad.add (k * 4)).block, (ad.add (k * 4)).off + 1, none⟩ = some (.int .i64 x1) ∧ W.cell? ⟨(ad.add (k * 4)).block, (ad.add (k * 4)).off + 2, none⟩ = some (.int .i64 x2) ∧ W.cell? ⟨(ad.add (k * 4)).block, (ad.add (k * 4)).off + 3, none⟩ = some (.int .i64 x3) ∧ W.cell? (ad.add (q * 4)) = some (.int .i64 pc)
theorem ChS.step {wo W W' : World} {ad : Addr} {k q : Nat} {x0 x1 x2 x3 pc : Int} (h : ChS wo ad k q x0 x1 x2 x3 pc W) (hb : Below W.heap.size W W') (had : ad.block < wo.heap.size) : ChS wo ad k q x0 x1 x2 x3 pc W' := by
  obtain ⟨h0, h1, h2, h3, h4, h5⟩ := h
  have hs := h0.size
  refine ⟨below_two h0 hb, (hb.cell (by rw [block_of_add]; omega)).trans h1, (hb.cell (by show (ad.add (k * 4)).block < _; rw [block_of_add]; omega)).trans h2, (hb.cell (by show (ad.add (k * 4)).block < _; rw [block_of_add]; omega)).trans h3, (hb.cell (by show (ad.add (k * 4)).block < _; rw [block_of_add]; omega)).trans h4, (hb.cell (by rw [block_of_add]; omega)).trans h5⟩
set_option maxRecDepth 100000 in
set_option maxHeartbeats 8000000 in
theorem rchart_any (l : List SAcc) (A : Option Addr) (n c : Nat) (g : Bool) (B : Nat) (w : World) (hr : Reads w B 4 A n (accsC l)) (hB : B ≤ w.heap.size) (hn : n ≤ 1000) :
    Calls Tryz.prog 38 #[.slice A n c, .bool g] w fun e w' => e = .returned (.bool (chartR l g)) ∧ Below w.heap.size w w' := by
  have HL := Lib.hid (accs_len hr)
  have HR := Lib.hid hr
  clear hr
  generalize hgo : chartR l g = ok
  have HG := Lib.hid hgo.symm
  clear hgo
  by_cases h200 : n ≤ 200
  case neg =>
    have k2 : decide ((200 : Int) < (n : Int)) = true := by rw [decide_eq_true_eq]; omega
    have F : Hid (chartR l g = false) := by
      show _ = _
      unfold chartR
      rw [HL.out, decide_eq_false h200]; rfl
    go_enter Tryz.func38, Tryz.ntmps38
    go_wp2_with fail
    go_ret
    exact ⟨ret_bool (by rw [HG.out, F.out]), Below.refl _ _⟩
  case pos =>
    have k2 : decide ((200 : Int) < (n : Int)) = false := by rw [decide_eq_false_iff_not]; omega
    go_enter Tryz.func38, Tryz.ntmps38
    go_wp2_with fail
    go_loopw [5] (fun i wr => ∃ k : Nat, k ≤ n ∧ i = .int .i64 k ∧ (List.range k).all (chartAtR l g) = true ∧ Below w.heap.size w wr) (fun i _ => n - (intOf i).toNat)
    case atStart => exact ⟨0, by omega, rfl, rfl, Below.refl _ _⟩
    case round =>
      obtain ⟨k, hk, rfl, hd, hbr⟩ := hrel
      obtain ⟨wo, rfl⟩ : ∃ wo : World, wo = wr := ⟨_, rfl⟩
      have HD := Lib.hid hd
      clear hd
      by_cases hlt : k < n
      case neg =>
        have k3 : decide ((k : Int) < (n : Int)) = false := by rw [decide_eq_false_iff_not]; omega
        have F : Hid (chartR l g = true) := by
          show _ = _
          unfold chartR
          rw [HL.out, decide_eq_true h200, show n = k by omega, HD.out]; rfl
        go_wp2_with fail
        go_ret
        exact ⟨ret_bool (by rw [HG.out, F.out]), hbr⟩
      case pos =>
        have k3 : decide ((k : Int) < (n : Int)) = true := by rw [decide_eq_true_eq]; omega
        have HRD := Lib.hid ((HR.out.lowg hB (Nat.le_refl _) hbr).more (B' := wo.heap.size) (by have := hbr.size; omega))
        have hat := HRD.out.acc_at hlt
        obtain ⟨ad, rfl, had, c0, c1, c2, c3⟩ := hat
        have HXE := Lib.hid (rfl : l.getD k default = l.getD k default)
        have hpv : wo.cell? (ad.add ((k - 1) * 4)) = some (.int .i64 (l.getD (k - 1) default).code) := by
          obtain ⟨ad', e, _, d0, _⟩ := HRD.out.acc_at (k := k - 1) (by omega)
          injection e with e
          rw [e]; exact d0
        have HAT : Hid (chartAtR l g k = (properR l g (l.getD k default) && (ascAt l k && decide ((climbR l (l.length + 1) (l.getD k default).code).length ≤ l.length)))) := rfl
        have HAS : Hid (ascAt l k = (decide (k = 0) || decide ((l.getD (k - 1) default).code < (l.getD k default).code))) := rfl
        generalize (l.getD (k - 1) default).code = pc at *
        generalize l.getD k default = x at *
        obtain ⟨x0, x1, x2, x3⟩ := x
        simp only [] at c0 c1 c2 c3 HAT HAS
        have HS : Hid (ChS wo ad k (k - 1) x0 x1 x2 x3 pc wo.drew) := ⟨below_drew (Below.refl _ _), c0, c1, c2, c3, hpv⟩
        clear c0 c1 c2 c3 hpv HXE
        rw [HL.out] at HAT
        have HAB := Lib.hid had
        clear had
        have had := HAB.out
        cases hp : properR l g ⟨x0, x1, x2, x3⟩
        case false =>
          have HPV := Lib.hid hp
          have F : Hid (chartR l g = false) := chartR_no (k := k) (by rw [HL.out]; exact hlt) (by rw [HAT.out, hp]; rfl)
          clear hp
          go_upto_region 6 with fail
          refine wp_region_held_drew (S := ChS wo ad k (k - 1) x0 x1 x2 x3 pc) (by kernel_rfl) HS.out (fun hHeld => ?_)
          refine wpAnyH_take (i := 0) (v := ?va0) rfl (by kernel_rfl) (by kernel_rfl) (by kernel_rfl) (fun _ _ _ h => h) (Or.inl ⟨by rfl, ?hya0⟩) (by assumption) ?resta0
          case hya0 => (intro w_ hSw; (try dsimp only at hSw); obtain ⟨_, c0_, c1_, c2_, c3_, c4_⟩ := hSw; go_simp; (try with_reducible rfl))
          (try simp only [Act.put, List.setIfInBounds_toArray, List.set_cons_zero, List.set_cons_succ, List.getElem_toArray, List.getElem_cons_zero, List.getElem_cons_succ])
          refine wpAnyH_take (i := 1) (v := ?va1) rfl (by kernel_rfl) (by kernel_rfl) (by kernel_rfl) (fun _ _ _ h => h) (Or.inl ⟨by rfl, ?hya1⟩) (by assumption) ?resta1
          case hya1 => (intro w_ hSw; (try dsimp only at hSw); obtain ⟨_, c0_, c1_, c2_, c3_, c4_⟩ := hSw; go_simp; (try with_reducible rfl))
          (try simp only [Act.put, List.setIfInBounds_toArray, List.set_cons_zero, List.set_cons_succ, List.getElem_toArray, List.getElem_cons_zero, List.getElem_cons_succ])
          refine wpAnyH_take (i := 2) (v := ?va2) rfl (by kernel_rfl) (by kernel_rfl) (by kernel_rfl) (fun _ _ _ h => h) (Or.inl ⟨by rfl, ?hya2⟩) (by assumption) ?resta2
          case hya2 => (intro w_ hSw; (try dsimp only at hSw); obtain ⟨_, c0_, c1_, c2_, c3_, c4_⟩ := hSw; go_simp; (try with_reducible rfl))
          (try simp only [Act.put, List.setIfInBounds_toArray, List.set_cons_zero, List.set_cons_succ, List.getElem_toArray, List.getElem_cons_zero, List.getElem_cons_succ])
          refine wpAnyH_take (i := 3) (v := ?va3) rfl (by kernel_rfl) (by kernel_rfl) (by kernel_rfl) (fun _ _ _ h => h) (Or.inl ⟨by rfl, ?hya3⟩) (by assumption) ?resta3
          case hya3 => (intro w_ hSw; (try dsimp only at hSw); obtain ⟨_, c0_, c1_, c2_, c3_, c4_⟩ := hSw; go_simp; (try with_reducible rfl))
          (try simp only [Act.put, List.setIfInBounds_toArray, List.set_cons_zero, List.set_cons_succ, List.getElem_toArray, List.getElem_cons_zero, List.getElem_cons_succ])
          refine wpAnyH_take (i := 4) (v := ?va4) rfl (by kernel_rfl) (by kernel_rfl) (by kernel_rfl) (fun _ _ _ h => h) (Or.inl ⟨by rfl, ?hya4⟩) (by assumption) ?resta4
          case hya4 => (intro w_ hSw; (try dsimp only at hSw); obtain ⟨_, c0_, c1_, c2_, c3_, c4_⟩ := hSw; go_simp; (try with_reducible rfl))
          (try simp only [Act.put, List.setIfInBounds_toArray, List.set_cons_zero, List.set_cons_succ, List.getElem_toArray, List.getElem_cons_zero, List.getElem_cons_succ])
          refine wpAnyH_take (i := 5) (v := ?va5) rfl (by kernel_rfl) (by kernel_rfl) (by kernel_rfl) (fun _ _ _ h => h) (Or.inl ⟨by rfl, ?hya5⟩) (by assumption) ?resta5
          case hya5 => (intro w_ hSw; (try dsimp only at hSw); obtain ⟨_, c0_, c1_, c2_, c3_, c4_⟩ := hSw; go_simp; (try with_reducible rfl))
          (try simp only [Act.put, List.setIfInBounds_toArray, List.set_cons_zero, List.set_cons_succ, List.getElem_toArray, List.getElem_cons_zero, List.getElem_cons_succ])
          refine wpAnyH_ready (rs := [6]) (by kernel_rfl) (by simp) ?_
          refine (AllReadyH.cons rfl (fun K hK => ?_) AllReadyH.nil)
          go_simp
          refine (rproper_any l (some ad) n c ⟨x0, x1, x2, x3⟩ g _ _ (HRD.out.low_ hHeld.1) (Nat.le_refl _) (by omega)).mono ?_
          rintro e wa ⟨rfl, hba⟩
          dsimp only
          refine hK.out _ _ ?hSa6 (fun hHeld6 => ?_)
          case hSa6 => exact hHeld.step hba had
          rw [HPV.out]
          clear hK K hba
          (try simp only [Act.put, List.setIfInBounds_toArray, List.set_cons_zero, List.set_cons_succ, List.getElem_toArray, List.getElem_cons_zero, List.getElem_cons_succ])
          refine wpAnyH_take (i := 7) (v := ?va7) rfl (by kernel_rfl) (by kernel_rfl) (by kernel_rfl) (fun _ _ _ h => h) (Or.inl ⟨by rfl, ?hya7⟩) (by assumption) ?resta7
          case hya7 => (intro w_ hSw; (try dsimp only at hSw); obtain ⟨_, c0_, c1_, c2_, c3_, c4_⟩ := hSw; go_simp; (try with_reducible rfl))
          (try simp only [Act.put, List.setIfInBounds_toArray, List.set_cons_zero, List.set_cons_succ, List.getElem_toArray, List.getElem_cons_zero, List.getElem_cons_succ])
          refine wpAnyH_take (i := 8) (v := ?va8) rfl (by kernel_rfl) (by kernel_rfl) (by kernel_rfl) (fun _ _ _ h => h) (Or.inl ⟨by rfl, ?hya8⟩) (by assumption) ?resta8
          case hya8 => (intro w_ hSw; (try dsimp only at hSw); obtain ⟨_, c0_, c1_, c2_, c3_, c4_⟩ := hSw; go_simp; (try with_reducible rfl))
          (try simp only [Act.put, List.setIfInBounds_toArray, List.set_cons_zero, List.set_cons_succ, List.getElem_toArray, List.getElem_cons_zero, List.getElem_cons_succ])
          refine wpAnyH_take (i := 9) (v := undef) rfl (by kernel_rfl) (by kernel_rfl) (by kernel_rfl) (fun _ _ _ h => h) (Or.inr ⟨by rfl, rfl⟩) (by assumption) ?resta9
          (try simp only [Act.put, List.setIfInBounds_toArray, List.set_cons_zero, List.set_cons_succ, List.getElem_toArray, List.getElem_cons_zero, List.getElem_cons_succ])
          refine wpAnyH_take (i := 10) (v := undef) rfl (by kernel_rfl) (by kernel_rfl) (by kernel_rfl) (fun _ _ _ h => h) (Or.inr ⟨by rfl, rfl⟩) (by assumption) ?resta10
          (try simp only [Act.put, List.setIfInBounds_toArray, List.set_cons_zero, List.set_cons_succ, List.getElem_toArray, List.getElem_cons_zero, List.getElem_cons_succ])
          refine wpAnyH_take (i := 11) (v := undef) rfl (by kernel_rfl) (by kernel_rfl) (by kernel_rfl) (fun _ _ _ h => h) (Or.inr ⟨by rfl, rfl⟩) (by assumption) ?resta11
          (try simp only [Act.put, List.setIfInBounds_toArray, List.set_cons_zero, List.set_cons_succ, List.getElem_toArray, List.getElem_cons_zero, List.getElem_cons_succ])
          refine wpAnyH_take (i := 12) (v := undef) rfl (by kernel_rfl) (by kernel_rfl) (by kernel_rfl) (fun _ _ _ h => h) (Or.inr ⟨by rfl, rfl⟩) (by assumption) ?resta12
          (try simp only [Act.put, List.setIfInBounds_toArray, List.set_cons_zero, List.set_cons_succ, List.getElem_toArray, List.getElem_cons_zero, List.getElem_cons_succ])
          refine wpAnyH_take (i := 13) (v := undef) rfl (by kernel_rfl) (by kernel_rfl) (by kernel_rfl) (fun _ _ _ h => h) (Or.inr ⟨by rfl, rfl⟩) (by assumption) ?resta13
          (try simp only [Act.put, List.setIfInBounds_toArray, List.set_cons_zero, List.set_cons_succ, List.getElem_toArray, List.getElem_cons_zero, List.getElem_cons_succ])
          refine wpAnyH_take (i := 14) (v := undef) rfl (by kernel_rfl) (by kernel_rfl) (by kernel_rfl) (fun _ _ _ h => h) (Or.inr ⟨by rfl, rfl⟩) (by assumption) ?resta14
          (try simp only [Act.put, List.setIfInBounds_toArray, List.set_cons_zero, List.set_cons_succ, List.getElem_toArray, List.getElem_cons_zero, List.getElem_cons_succ])
          refine wpAnyH_take (i := 15) (v := undef) rfl (by kernel_rfl) (by kernel_rfl) (by kernel_rfl) (fun _ _ _ h => h) (Or.inr ⟨by rfl, rfl⟩) (by assumption) ?resta15
          (try simp only [Act.put, List.setIfInBounds_toArray, List.set_cons_zero, List.set_cons_succ, List.getElem_toArray, List.getElem_cons_zero, List.getElem_cons_succ])
          refine wpAnyH_take (i := 16) (v := undef) rfl (by kernel_rfl) (by kernel_rfl) (by kernel_rfl) (fun _ _ _ h => h) (Or.inr ⟨by rfl, rfl⟩) (by assumption) ?resta16
          (try simp only [Act.put, List.setIfInBounds_toArray, List.set_cons_zero, List.set_cons_succ, List.getElem_toArray, List.getElem_cons_zero, List.getElem_cons_succ])
          refine wpAnyH_take (i := 17) (v := undef) rfl (by kernel_rfl) (by kernel_rfl) (by kernel_rfl) (fun _ _ _ h => h) (Or.inr ⟨by rfl, rfl⟩) (by assumption) ?resta17
          (try simp only [Act.put, List.setIfInBounds_toArray, List.set_cons_zero, List.set_cons_succ, List.getElem_toArray, List.getElem_cons_zero, List.getElem_cons_succ])
          refine wpAnyH_take (i := 18) (v := undef) rfl (by kernel_rfl) (by kernel_rfl) (by kernel_rfl) (fun _ _ _ h => h) (Or.inr ⟨by rfl, rfl⟩) (by assumption) ?resta18
          (try simp only [Act.put, List.setIfInBounds_toArray, List.set_cons_zero, List.set_cons_succ, List.getElem_toArray, List.getElem_cons_zero, List.getElem_cons_succ])
          refine wpAnyH_take (i := 19) (v := undef) rfl (by kernel_rfl) (by kernel_rfl) (by kernel_rfl) (fun _ _ _ h => h) (Or.inr ⟨by rfl, rfl⟩) (by assumption) ?resta19
          (try simp only [Act.put, List.setIfInBounds_toArray, List.set_cons_zero, List.set_cons_succ, List.getElem_toArray, List.getElem_cons_zero, List.getElem_cons_succ])
          refine wpAnyH_take (i := 20) (v := undef) rfl (by kernel_rfl) (by kernel_rfl) (by kernel_rfl) (fun _ _ _ h => h) (Or.inr ⟨by rfl, rfl⟩) (by assumption) ?resta20
          (try simp only [Act.put, List.setIfInBounds_toArray, List.set_cons_zero, List.set_cons_succ, List.getElem_toArray, List.getElem_cons_zero, List.getElem_cons_succ])
          refine wpAnyH_take (i := 21) (v := undef) rfl (by kernel_rfl) (by kernel_rfl) (by kernel_rfl) (fun _ _ _ h => h) (Or.inr ⟨by rfl, rfl⟩) (by assumption) ?resta21
          (try simp only [Act.put, List.setIfInBounds_toArray, List.set_cons_zero, List.set_cons_succ, List.getElem_toArray, List.getElem_cons_zero, List.getElem_cons_succ])
          refine wpAnyH_take (i := 22) (v := undef) rfl (by kernel_rfl) (by kernel_rfl) (by kernel_rfl) (fun _ _ _ h => h) (Or.inr ⟨by rfl, rfl⟩) (by assumption) ?resta22
          (try simp only [Act.put, List.setIfInBounds_toArray, List.set_cons_zero, List.set_cons_succ, List.getElem_toArray, List.getElem_cons_zero, List.getElem_cons_succ])
          refine wpAnyH_take (i := 23) (v := undef) rfl (by kernel_rfl) (by kernel_rfl) (by kernel_rfl) (fun _ _ _ h => h) (Or.inr ⟨by rfl, rfl⟩) (by assumption) ?resta23
          (try simp only [Act.put, List.setIfInBounds_toArray, List.set_cons_zero, List.set_cons_succ, List.getElem_toArray, List.getElem_cons_zero, List.getElem_cons_succ])
          refine wpAnyH_take (i := 24) (v := undef) rfl (by kernel_rfl) (by kernel_rfl) (by kernel_rfl) (fun _ _ _ h => h) (Or.inr ⟨by rfl, rfl⟩) (by assumption) ?resta24
          (try simp only [Act.put, List.setIfInBounds_toArray, List.set_cons_zero, List.set_cons_succ, List.getElem_toArray, List.getElem_cons_zero, List.getElem_cons_succ])
          refine wpAnyH_take (i := 25) (v := ?va25) rfl (by kernel_rfl) (by kernel_rfl) (by kernel_rfl) (fun _ _ _ h => h) (Or.inl ⟨by rfl, ?hya25⟩) (by assumption) ?resta25
          case hya25 => (intro w_ hSw; (try dsimp only at hSw); obtain ⟨_, c0_, c1_, c2_, c3_, c4_⟩ := hSw; go_simp; (try with_reducible rfl))
          (try simp only [Act.put, List.setIfInBounds_toArray, List.set_cons_zero, List.set_cons_succ, List.getElem_toArray, List.getElem_cons_zero, List.getElem_cons_succ])
          refine wpAnyH_take (i := 26) (v := ?va26) rfl (by kernel_rfl) (by kernel_rfl) (by kernel_rfl) (fun _ _ _ h => h) (Or.inl ⟨by rfl, ?hya26⟩) (by assumption) ?resta26
          case hya26 => (intro w_ hSw; (try dsimp only at hSw); obtain ⟨_, c0_, c1_, c2_, c3_, c4_⟩ := hSw; go_simp; (try with_reducible rfl))
          (try simp only [Act.put, List.setIfInBounds_toArray, List.set_cons_zero, List.set_cons_succ, List.getElem_toArray, List.getElem_cons_zero, List.getElem_cons_succ])
          refine wpAnyH_take (i := 27) (v := undef) rfl (by kernel_rfl) (by kernel_rfl) (by kernel_rfl) (fun _ _ _ h => h) (Or.inr ⟨by rfl, rfl⟩) (by assumption) ?resta27
          (try simp only [Act.put, List.setIfInBounds_toArray, List.set_cons_zero, List.set_cons_succ, List.getElem_toArray, List.getElem_cons_zero, List.getElem_cons_succ])
          refine wpAnyH_take (i := 28) (v := undef) rfl (by kernel_rfl) (by kernel_rfl) (by kernel_rfl) (fun _ _ _ h => h) (Or.inr ⟨by rfl, rfl⟩) (by assumption) ?resta28
          (try simp only [Act.put, List.setIfInBounds_toArray, List.set_cons_zero, List.set_cons_succ, List.getElem_toArray, List.getElem_cons_zero, List.getElem_cons_succ])
          refine wpAnyH_take (i := 29) (v := undef) rfl (by kernel_rfl) (by kernel_rfl) (by kernel_rfl) (fun _ _ _ h => h) (Or.inr ⟨by rfl, rfl⟩) (by assumption) ?resta29
          (try simp only [Act.put, List.setIfInBounds_toArray, List.set_cons_zero, List.set_cons_succ, List.getElem_toArray, List.getElem_cons_zero, List.getElem_cons_succ])
          refine wpAnyH_take (i := 30) (v := undef) rfl (by kernel_rfl) (by kernel_rfl) (by kernel_rfl) (fun _ _ _ h => h) (Or.inr ⟨by rfl, rfl⟩) (by assumption) ?resta30
          (try simp only [Act.put, List.setIfInBounds_toArray, List.set_cons_zero, List.set_cons_succ, List.getElem_toArray, List.getElem_cons_zero, List.getElem_cons_succ])
          refine wpAnyH_take (i := 31) (v := undef) rfl (by kernel_rfl) (by kernel_rfl) (by kernel_rfl) (fun _ _ _ h => h) (Or.inr ⟨by rfl, rfl⟩) (by assumption) ?resta31
          (try simp only [Act.put, List.setIfInBounds_toArray, List.set_cons_zero, List.set_cons_succ, List.getElem_toArray, List.getElem_cons_zero, List.getElem_cons_succ])
          refine wpAnyH_take (i := 32) (v := undef) rfl (by kernel_rfl) (by kernel_rfl) (by kernel_rfl) (fun _ _ _ h => h) (Or.inr ⟨by rfl, rfl⟩) (by assumption) ?resta32
          (try simp only [Act.put, List.setIfInBounds_toArray, List.set_cons_zero, List.set_cons_succ, List.getElem_toArray, List.getElem_cons_zero, List.getElem_cons_succ])
          refine wpAnyH_take (i := 33) (v := undef) rfl (by kernel_rfl) (by kernel_rfl) (by kernel_rfl) (fun _ _ _ h => h) (Or.inr ⟨by rfl, rfl⟩) (by assumption) ?resta33
          (try simp only [Act.put, List.setIfInBounds_toArray, List.set_cons_zero, List.set_cons_succ, List.getElem_toArray, List.getElem_cons_zero, List.getElem_cons_succ])
          refine wpAnyH_take (i := 34) (v := undef) rfl (by kernel_rfl) (by kernel_rfl) (by kernel_rfl) (fun _ _ _ h => h) (Or.inr ⟨by rfl, rfl⟩) (by assumption) ?resta34
          (try simp only [Act.put, List.setIfInBounds_toArray, List.set_cons_zero, List.set_cons_succ, List.getElem_toArray, List.getElem_cons_zero, List.getElem_cons_succ])
          refine wpAnyH_take (i := 35) (v := undef) rfl (by kernel_rfl) (by kernel_rfl) (by kernel_rfl) (fun _ _ _ h => h) (Or.inr ⟨by rfl, rfl⟩) (by assumption) ?resta35
          (try simp only [Act.put, List.setIfInBounds_toArray, List.set_cons_zero, List.set_cons_succ, List.getElem_toArray, List.getElem_cons_zero, List.getElem_cons_succ])
          refine wpAnyH_take (i := 36) (v := undef) rfl (by kernel_rfl) (by kernel_rfl) (by kernel_rfl) (fun _ _ _ h => h) (Or.inr ⟨by rfl, rfl⟩) (by assumption) ?resta36
          (try simp only [Act.put, List.setIfInBounds_toArray, List.set_cons_zero, List.set_cons_succ, List.getElem_toArray, List.getElem_cons_zero, List.getElem_cons_succ])
          refine wpAnyH_take (i := 37) (v := undef) rfl (by kernel_rfl) (by kernel_rfl) (by kernel_rfl) (fun _ _ _ h => h) (Or.inr ⟨by rfl, rfl⟩) (by assumption) ?resta37
          (try simp only [Act.put, List.setIfInBounds_toArray, List.set_cons_zero, List.set_cons_succ, List.getElem_toArray, List.getElem_cons_zero, List.getElem_cons_succ])
          refine wpAnyH_take (i := 38) (v := ?va38) rfl (by kernel_rfl) (by kernel_rfl) (by kernel_rfl) (fun _ _ _ h => h) (Or.inl ⟨by rfl, ?hya38⟩) (by assumption) ?resta38
          case hya38 => (intro w_ hSw; (try dsimp only at hSw); obtain ⟨_, c0_, c1_, c2_, c3_, c4_⟩ := hSw; go_simp; (try with_reducible rfl))
          (try simp only [Act.put, List.setIfInBounds_toArray, List.set_cons_zero, List.set_cons_succ, List.getElem_toArray, List.getElem_cons_zero, List.getElem_cons_succ])
          refine wpAnyH_done (by kernel_rfl) ?_ _
          have hb1 := below_two hbr hHeld6.1
          clear hHeld hHeld6
          go_wp2_with fail
          go_ret
          exact ⟨ret_bool (by rw [HG.out, F.out]), hb1⟩
        case true =>
          have HPV := Lib.hid hp
          have HAT2 : Hid (chartAtR l g k = (ascAt l k && decide ((climbR l (n + 1) x0).length ≤ n))) := by show _ = _; rw [HAT.out, hp]; rfl
          clear hp HAT
          generalize hRR : (climbR l (n + 1) x0).length = RL at *
          by_cases hk0 : k = 0
          case pos =>
            have kz : decide ((0 : Int) < (k : Int)) = false := by rw [decide_eq_false_iff_not]; omega
            have kz2 : decide (0 < k) = false := by rw [decide_eq_false_iff_not]; omega
            have HAE : Hid (chartAtR l g k = decide (RL ≤ n)) := by show _ = _; rw [HAT2.out, HAS.out, decide_eq_true hk0]; simp
            clear hk0 HAT2 HAS
            go_upto_region 6 with fail
            refine wp_region_held_drew (S := ChS wo ad k (k - 1) x0 x1 x2 x3 pc) (by kernel_rfl) HS.out (fun hHeld => ?_)
            refine wpAnyH_take (i := 0) (v := ?vb0) rfl (by kernel_rfl) (by kernel_rfl) (by kernel_rfl) (fun _ _ _ h => h) (Or.inl ⟨by rfl, ?hyb0⟩) (by assumption) ?restb0
            case hyb0 => (intro w_ hSw; (try dsimp only at hSw); obtain ⟨_, c0_, c1_, c2_, c3_, c4_⟩ := hSw; go_simp; (try with_reducible rfl))
            (try simp only [Act.put, List.setIfInBounds_toArray, List.set_cons_zero, List.set_cons_succ, List.getElem_toArray, List.getElem_cons_zero, List.getElem_cons_succ])
            refine wpAnyH_take (i := 1) (v := ?vb1) rfl (by kernel_rfl) (by kernel_rfl) (by kernel_rfl) (fun _ _ _ h => h) (Or.inl ⟨by rfl, ?hyb1⟩) (by assumption) ?restb1
            case hyb1 => (intro w_ hSw; (try dsimp only at hSw); obtain ⟨_, c0_, c1_, c2_, c3_, c4_⟩ := hSw; go_simp; (try with_reducible rfl))
            (try simp only [Act.put, List.setIfInBounds_toArray, List.set_cons_zero, List.set_cons_succ, List.getElem_toArray, List.getElem_cons_zero, List.getElem_cons_succ])
            refine wpAnyH_take (i := 2) (v := ?vb2) rfl (by kernel_rfl) (by kernel_rfl) (by kernel_rfl) (fun _ _ _ h => h) (Or.inl ⟨by rfl, ?hyb2⟩) (by assumption) ?restb2
            case hyb2 => (intro w_ hSw; (try dsimp only at hSw); obtain ⟨_, c0_, c1_, c2_, c3_, c4_⟩ := hSw; go_simp; (try with_reducible rfl))
            (try simp only [Act.put, List.setIfInBounds_toArray, List.set_cons_zero, List.set_cons_succ, List.getElem_toArray, List.getElem_cons_zero, List.getElem_cons_succ])
            refine wpAnyH_take (i := 3) (v := ?vb3) rfl (by kernel_rfl) (by kernel_rfl) (by kernel_rfl) (fun _ _ _ h => h) (Or.inl ⟨by rfl, ?hyb3⟩) (by assumption) ?restb3
            case hyb3 => (intro w_ hSw; (try dsimp only at hSw); obtain ⟨_, c0_, c1_, c2_, c3_, c4_⟩ := hSw; go_simp; (try with_reducible rfl))
            (try simp only [Act.put, List.setIfInBounds_toArray, List.set_cons_zero, List.set_cons_succ, List.getElem_toArray, List.getElem_cons_zero, List.getElem_cons_succ])
            refine wpAnyH_take (i := 4) (v := ?vb4) rfl (by kernel_rfl) (by kernel_rfl) (by kernel_rfl) (fun _ _ _ h => h) (Or.inl ⟨by rfl, ?hyb4⟩) (by assumption) ?restb4
            case hyb4 => (intro w_ hSw; (try dsimp only at hSw); obtain ⟨_, c0_, c1_, c2_, c3_, c4_⟩ := hSw; go_simp; (try with_reducible rfl))
            (try simp only [Act.put, List.setIfInBounds_toArray, List.set_cons_zero, List.set_cons_succ, List.getElem_toArray, List.getElem_cons_zero, List.getElem_cons_succ])
            refine wpAnyH_take (i := 5) (v := ?vb5) rfl (by kernel_rfl) (by kernel_rfl) (by kernel_rfl) (fun _ _ _ h => h) (Or.inl ⟨by rfl, ?hyb5⟩) (by assumption) ?restb5
            case hyb5 => (intro w_ hSw; (try dsimp only at hSw); obtain ⟨_, c0_, c1_, c2_, c3_, c4_⟩ := hSw; go_simp; (try with_reducible rfl))
            (try simp only [Act.put, List.setIfInBounds_toArray, List.set_cons_zero, List.set_cons_succ, List.getElem_toArray, List.getElem_cons_zero, List.getElem_cons_succ])
            refine wpAnyH_ready (rs := [6]) (by kernel_rfl) (by simp) ?_
            refine (AllReadyH.cons rfl (fun K hK => ?_) AllReadyH.nil)
            go_simp
            refine (rproper_any l (some ad) n c ⟨x0, x1, x2, x3⟩ g _ _ (HRD.out.low_ hHeld.1) (Nat.le_refl _) (by omega)).mono ?_
            rintro e wa ⟨rfl, hba⟩
            dsimp only
            refine hK.out _ _ ?hSb6 (fun hHeld6 => ?_)
            case hSb6 => exact hHeld.step hba had
            rw [HPV.out]
            clear hK K hba
            (try simp only [Act.put, List.setIfInBounds_toArray, List.set_cons_zero, List.set_cons_succ, List.getElem_toArray, List.getElem_cons_zero, List.getElem_cons_succ])
            refine wpAnyH_take (i := 7) (v := ?vb7) rfl (by kernel_rfl) (by kernel_rfl) (by kernel_rfl) (fun _ _ _ h => h) (Or.inl ⟨by rfl, ?hyb7⟩) (by assumption) ?restb7
            case hyb7 => (intro w_ hSw; (try dsimp only at hSw); obtain ⟨_, c0_, c1_, c2_, c3_, c4_⟩ := hSw; go_simp; (try with_reducible rfl))
            (try simp only [Act.put, List.setIfInBounds_toArray, List.set_cons_zero, List.set_cons_succ, List.getElem_toArray, List.getElem_cons_zero, List.getElem_cons_succ])
            refine wpAnyH_take (i := 8) (v := ?vb8) rfl (by kernel_rfl) (by kernel_rfl) (by kernel_rfl) (fun _ _ _ h => h) (Or.inl ⟨by rfl, ?hyb8⟩) (by assumption) ?restb8
            case hyb8 => (intro w_ hSw; (try dsimp only at hSw); obtain ⟨_, c0_, c1_, c2_, c3_, c4_⟩ := hSw; go_simp; (try with_reducible rfl))
            (try simp only [Act.put, List.setIfInBounds_toArray, List.set_cons_zero, List.set_cons_succ, List.getElem_toArray, List.getElem_cons_zero, List.getElem_cons_succ])
            refine wpAnyH_take (i := 9) (v := ?vb9) rfl (by kernel_rfl) (by kernel_rfl) (by kernel_rfl) (fun _ _ _ h => h) (Or.inl ⟨by rfl, ?hyb9⟩) (by assumption) ?restb9
            case hyb9 => (intro w_ hSw; (try dsimp only at hSw); obtain ⟨_, c0_, c1_, c2_, c3_, c4_⟩ := hSw; go_simp; (try with_reducible rfl))
            (try simp only [Act.put, List.setIfInBounds_toArray, List.set_cons_zero, List.set_cons_succ, List.getElem_toArray, List.getElem_cons_zero, List.getElem_cons_succ])
            refine wpAnyH_take (i := 10) (v := ?vb10) rfl (by kernel_rfl) (by kernel_rfl) (by kernel_rfl) (fun _ _ _ h => h) (Or.inl ⟨by rfl, ?hyb10⟩) (by assumption) ?restb10
            case hyb10 => (intro w_ hSw; (try dsimp only at hSw); obtain ⟨_, c0_, c1_, c2_, c3_, c4_⟩ := hSw; go_simp; (try with_reducible rfl))
            (try simp only [Act.put, List.setIfInBounds_toArray, List.set_cons_zero, List.set_cons_succ, List.getElem_toArray, List.getElem_cons_zero, List.getElem_cons_succ])
            refine wpAnyH_take (i := 11) (v := ?vb11) rfl (by kernel_rfl) (by kernel_rfl) (by kernel_rfl) (fun _ _ _ h => h) (Or.inl ⟨by rfl, ?hyb11⟩) (by assumption) ?restb11
            case hyb11 => (intro w_ hSw; (try dsimp only at hSw); obtain ⟨_, c0_, c1_, c2_, c3_, c4_⟩ := hSw; go_simp; (try with_reducible rfl))
            (try simp only [Act.put, List.setIfInBounds_toArray, List.set_cons_zero, List.set_cons_succ, List.getElem_toArray, List.getElem_cons_zero, List.getElem_cons_succ])
            refine wpAnyH_take (i := 12) (v := undef) rfl (by kernel_rfl) (by kernel_rfl) (by kernel_rfl) (fun _ _ _ h => h) (Or.inr ⟨by rfl, rfl⟩) (by assumption) ?restb12
            (try simp only [Act.put, List.setIfInBounds_toArray, List.set_cons_zero, List.set_cons_succ, List.getElem_toArray, List.getElem_cons_zero, List.getElem_cons_succ])
            refine wpAnyH_take (i := 13) (v := undef) rfl (by kernel_rfl) (by kernel_rfl) (by kernel_rfl) (fun _ _ _ h => h) (Or.inr ⟨by rfl, rfl⟩) (by assumption) ?restb13
            (try simp only [Act.put, List.setIfInBounds_toArray, List.set_cons_zero, List.set_cons_succ, List.getElem_toArray, List.getElem_cons_zero, List.getElem_cons_succ])
            refine wpAnyH_take (i := 14) (v := undef) rfl (by kernel_rfl) (by kernel_rfl) (by kernel_rfl) (fun _ _ _ h => h) (Or.inr ⟨by rfl, rfl⟩) (by assumption) ?restb14
            (try simp only [Act.put, List.setIfInBounds_toArray, List.set_cons_zero, List.set_cons_succ, List.getElem_toArray, List.getElem_cons_zero, List.getElem_cons_succ])
            refine wpAnyH_take (i := 15) (v := undef) rfl (by kernel_rfl) (by kernel_rfl) (by kernel_rfl) (fun _ _ _ h => h) (Or.inr ⟨by rfl, rfl⟩) (by assumption) ?restb15
            (try simp only [Act.put, List.setIfInBounds_toArray, List.set_cons_zero, List.set_cons_succ, List.getElem_toArray, List.getElem_cons_zero, List.getElem_cons_succ])
            refine wpAnyH_take (i := 16) (v := undef) rfl (by kernel_rfl) (by kernel_rfl) (by kernel_rfl) (fun _ _ _ h => h) (Or.inr ⟨by rfl, rfl⟩) (by assumption) ?restb16
            (try simp only [Act.put, List.setIfInBounds_toArray, List.set_cons_zero, List.set_cons_succ, List.getElem_toArray, List.getElem_cons_zero, List.getElem_cons_succ])
            refine wpAnyH_take (i := 17) (v := undef) rfl (by kernel_rfl) (by kernel_rfl) (by kernel_rfl) (fun _ _ _ h => h) (Or.inr ⟨by rfl, rfl⟩) (by assumption) ?restb17
            (try simp only [Act.put, List.setIfInBounds_toArray, List.set_cons_zero, List.set_cons_succ, List.getElem_toArray, List.getElem_cons_zero, List.getElem_cons_succ])
            refine wpAnyH_take (i := 18) (v := undef) rfl (by kernel_rfl) (by kernel_rfl) (by kernel_rfl) (fun _ _ _ h => h) (Or.inr ⟨by rfl, rfl⟩) (by assumption) ?restb18
            (try simp only [Act.put, List.setIfInBounds_toArray, List.set_cons_zero, List.set_cons_succ, List.getElem_toArray, List.getElem_cons_zero, List.getElem_cons_succ])
            refine wpAnyH_take (i := 19) (v := undef) rfl (by kernel_rfl) (by kernel_rfl) (by kernel_rfl) (fun _ _ _ h => h) (Or.inr ⟨by rfl, rfl⟩) (by assumption) ?restb19
            (try simp only [Act.put, List.setIfInBounds_toArray, List.set_cons_zero, List.set_cons_succ, List.getElem_toArray, List.getElem_cons_zero, List.getElem_cons_succ])
            refine wpAnyH_take (i := 20) (v := undef) rfl (by kernel_rfl) (by kernel_rfl) (by kernel_rfl) (fun _ _ _ h => h) (Or.inr ⟨by rfl, rfl⟩) (by assumption) ?restb20
            (try simp only [Act.put, List.setIfInBounds_toArray, List.set_cons_zero, List.set_cons_succ, List.getElem_toArray, List.getElem_cons_zero, List.getElem_cons_succ])
            refine wpAnyH_take (i := 21) (v := undef) rfl (by kernel_rfl) (by kernel_rfl) (by kernel_rfl) (fun _ _ _ h => h) (Or.inr ⟨by rfl, rfl⟩) (by assumption) ?restb21
            (try simp only [Act.put, List.setIfInBounds_toArray, List.set_cons_zero, List.set_cons_succ, List.getElem_toArray, List.getElem_cons_zero, List.getElem_cons_succ])
            refine wpAnyH_take (i := 22) (v := undef) rfl (by kernel_rfl) (by kernel_rfl) (by kernel_rfl) (fun _ _ _ h => h) (Or.inr ⟨by rfl, rfl⟩) (by assumption) ?restb22
            (try simp only [Act.put, List.setIfInBounds_toArray, List.set_cons_zero, List.set_cons_succ, List.getElem_toArray, List.getElem_cons_zero, List.getElem_cons_succ])
            refine wpAnyH_take (i := 23) (v := undef) rfl (by kernel_rfl) (by kernel_rfl) (by kernel_rfl) (fun _ _ _ h => h) (Or.inr ⟨by rfl, rfl⟩) (by assumption) ?restb23
            (try simp only [Act.put, List.setIfInBounds_toArray, List.set_cons_zero, List.set_cons_succ, List.getElem_toArray, List.getElem_cons_zero, List.getElem_cons_succ])
            refine wpAnyH_take (i := 24) (v := ?vb24) rfl (by kernel_rfl) (by kernel_rfl) (by kernel_rfl) (fun _ _ _ h => h) (Or.inl ⟨by rfl, ?hyb24⟩) (by assumption) ?restb24
            case hyb24 => (intro w_ hSw; (try dsimp only at hSw); obtain ⟨_, c0_, c1_, c2_, c3_, c4_⟩ := hSw; go_simp; (try with_reducible rfl))
            (try simp only [Act.put, List.setIfInBounds_toArray, List.set_cons_zero, List.set_cons_succ, List.getElem_toArray, List.getElem_cons_zero, List.getElem_cons_succ])
            refine wpAnyH_take (i := 25) (v := ?vb25) rfl (by kernel_rfl) (by kernel_rfl) (by kernel_rfl) (fun _ _ _ h => h) (Or.inl ⟨by rfl, ?hyb25⟩) (by assumption) ?restb25
            case hyb25 => (intro w_ hSw; (try dsimp only at hSw); obtain ⟨_, c0_, c1_, c2_, c3_, c4_⟩ := hSw; go_simp; (try with_reducible rfl))
            (try simp only [Act.put, List.setIfInBounds_toArray, List.set_cons_zero, List.set_cons_succ, List.getElem_toArray, List.getElem_cons_zero, List.getElem_cons_succ])
            refine wpAnyH_take (i := 26) (v := ?vb26) rfl (by kernel_rfl) (by kernel_rfl) (by kernel_rfl) (fun _ _ _ h => h) (Or.inl ⟨by rfl, ?hyb26⟩) (by assumption) ?restb26
            case hyb26 => (intro w_ hSw; (try dsimp only at hSw); obtain ⟨_, c0_, c1_, c2_, c3_, c4_⟩ := hSw; go_simp; (try with_reducible rfl))
            (try simp only [Act.put, List.setIfInBounds_toArray, List.set_cons_zero, List.set_cons_succ, List.getElem_toArray, List.getElem_cons_zero, List.getElem_cons_succ])
            refine wpAnyH_take (i := 27) (v := ?vb27) rfl (by kernel_rfl) (by kernel_rfl) (by kernel_rfl) (fun _ _ _ h => h) (Or.inl ⟨by rfl, ?hyb27⟩) (by assumption) ?restb27
            case hyb27 => (intro w_ hSw; (try dsimp only at hSw); obtain ⟨_, c0_, c1_, c2_, c3_, c4_⟩ := hSw; go_simp; (try with_reducible rfl))
            (try simp only [Act.put, List.setIfInBounds_toArray, List.set_cons_zero, List.set_cons_succ, List.getElem_toArray, List.getElem_cons_zero, List.getElem_cons_succ])
            refine wpAnyH_take (i := 28) (v := ?vb28) rfl (by kernel_rfl) (by kernel_rfl) (by kernel_rfl) (fun _ _ _ h => h) (Or.inl ⟨by rfl, ?hyb28⟩) (by assumption) ?restb28
            case hyb28 => (intro w_ hSw; (try dsimp only at hSw); obtain ⟨_, c0_, c1_, c2_, c3_, c4_⟩ := hSw; go_simp; (try with_reducible rfl))
            (try simp only [Act.put, List.setIfInBounds_toArray, List.set_cons_zero, List.set_cons_succ, List.getElem_toArray, List.getElem_cons_zero, List.getElem_cons_succ])
            refine wpAnyH_take (i := 29) (v := ?vb29) rfl (by kernel_rfl) (by kernel_rfl) (by kernel_rfl) (fun _ _ _ h => h) (Or.inl ⟨by rfl, ?hyb29⟩) (by assumption) ?restb29
            case hyb29 => (intro w_ hSw; (try dsimp only at hSw); obtain ⟨_, c0_, c1_, c2_, c3_, c4_⟩ := hSw; go_simp; (try with_reducible rfl))
            (try simp only [Act.put, List.setIfInBounds_toArray, List.set_cons_zero, List.set_cons_succ, List.getElem_toArray, List.getElem_cons_zero, List.getElem_cons_succ])
            refine wpAnyH_take (i := 30) (v := ?vb30) rfl (by kernel_rfl) (by kernel_rfl) (by kernel_rfl) (fun _ _ _ h => h) (Or.inl ⟨by rfl, ?hyb30⟩) (by assumption) ?restb30
            case hyb30 => (intro w_ hSw; (try dsimp only at hSw); obtain ⟨_, c0_, c1_, c2_, c3_, c4_⟩ := hSw; go_simp; (try with_reducible rfl))
            (try simp only [Act.put, List.setIfInBounds_toArray, List.set_cons_zero, List.set_cons_succ, List.getElem_toArray, List.getElem_cons_zero, List.getElem_cons_succ])
            refine wpAnyH_take (i := 31) (v := ?vb31) rfl (by kernel_rfl) (by kernel_rfl) (by kernel_rfl) (fun _ _ _ h => h) (Or.inl ⟨by rfl, ?hyb31⟩) (by assumption) ?restb31
            case hyb31 => (intro w_ hSw; (try dsimp only at hSw); obtain ⟨_, c0_, c1_, c2_, c3_, c4_⟩ := hSw; go_simp; (try with_reducible rfl))
            (try simp only [Act.put, List.setIfInBounds_toArray, List.set_cons_zero, List.set_cons_succ, List.getElem_toArray, List.getElem_cons_zero, List.getElem_cons_succ])
            refine wpAnyH_take (i := 32) (v := ?vb32) rfl (by kernel_rfl) (by kernel_rfl) (by kernel_rfl) (fun _ _ _ h => h) (Or.inl ⟨by rfl, ?hyb32⟩) (by assumption) ?restb32
            case hyb32 => (intro w_ hSw; (try dsimp only at hSw); obtain ⟨_, c0_, c1_, c2_, c3_, c4_⟩ := hSw; go_simp; (try with_reducible rfl))
            (try simp only [Act.put, List.setIfInBounds_toArray, List.set_cons_zero, List.set_cons_succ, List.getElem_toArray, List.getElem_cons_zero, List.getElem_cons_succ])
            refine wpAnyH_take (i := 35) (v := ?vb35) rfl (by kernel_rfl) (by kernel_rfl) (by kernel_rfl) (fun _ _ _ h => h) (Or.inl ⟨by rfl, ?hyb35⟩) (by assumption) ?restb35
            case hyb35 => (intro w_ hSw; (try dsimp only at hSw); obtain ⟨_, c0_, c1_, c2_, c3_, c4_⟩ := hSw; go_simp; (try with_reducible rfl))
            (try simp only [Act.put, List.setIfInBounds_toArray, List.set_cons_zero, List.set_cons_succ, List.getElem_toArray, List.getElem_cons_zero, List.getElem_cons_succ])
            refine wpAnyH_take (i := 36) (v := ?vb36) rfl (by kernel_rfl) (by kernel_rfl) (by kernel_rfl) (fun _ _ _ h => h) (Or.inl ⟨by rfl, ?hyb36⟩) (by assumption) ?restb36
            case hyb36 => (intro w_ hSw; (try dsimp only at hSw); obtain ⟨_, c0_, c1_, c2_, c3_, c4_⟩ := hSw; go_simp; (try with_reducible rfl))
            (try simp only [Act.put, List.setIfInBounds_toArray, List.set_cons_zero, List.set_cons_succ, List.getElem_toArray, List.getElem_cons_zero, List.getElem_cons_succ])
            refine wpAnyH_ready (rs := [33]) (by kernel_rfl) (by simp) ?_
            refine (AllReadyH.cons rfl (fun K hK => ?_) AllReadyH.nil)
            go_simp
            refine (rclimb_any l (some ad) n c x0 _ _ (HRD.out.low_ hHeld6.1) (Nat.le_refl _) (by omega)).mono ?_
            rintro e wb ⟨v, rfl, hown, hbb⟩
            rw [hRR] at hown
            obtain ⟨Av, cv, rfl⟩ := own_slice hown
            dsimp only
            refine hK.out _ _ ?hSb33 (fun hHeld33 => ?_)
            case hSb33 => exact hHeld6.step hbb had
            clear hK K hbb hown
            (try simp only [Act.put, List.setIfInBounds_toArray, List.set_cons_zero, List.set_cons_succ, List.getElem_toArray, List.getElem_cons_zero, List.getElem_cons_succ])
            refine wpAnyH_take (i := 34) (v := ?vb34) rfl (by kernel_rfl) (by kernel_rfl) (by kernel_rfl) (fun _ _ _ h => h) (Or.inl ⟨by rfl, ?hyb34⟩) (by assumption) ?restb34
            case hyb34 => (intro w_ hSw; (try dsimp only at hSw); obtain ⟨_, c0_, c1_, c2_, c3_, c4_⟩ := hSw; go_simp; (try with_reducible rfl))
            (try simp only [Act.put, List.setIfInBounds_toArray, List.set_cons_zero, List.set_cons_succ, List.getElem_toArray, List.getElem_cons_zero, List.getElem_cons_succ])
            refine wpAnyH_take (i := 37) (v := ?vb37) rfl (by kernel_rfl) (by kernel_rfl) (by kernel_rfl) (fun _ _ _ h => h) (Or.inl ⟨by rfl, ?hyb37⟩) (by assumption) ?restb37
            case hyb37 => (intro w_ hSw; (try dsimp only at hSw); obtain ⟨_, c0_, c1_, c2_, c3_, c4_⟩ := hSw; go_simp; (try with_reducible rfl))
            (try simp only [Act.put, List.setIfInBounds_toArray, List.set_cons_zero, List.set_cons_succ, List.getElem_toArray, List.getElem_cons_zero, List.getElem_cons_succ])
            refine wpAnyH_take (i := 38) (v := ?vb38) rfl (by kernel_rfl) (by kernel_rfl) (by kernel_rfl) (fun _ _ _ h => h) (Or.inl ⟨by rfl, ?hyb38⟩) (by assumption) ?restb38
            case hyb38 => (intro w_ hSw; (try dsimp only at hSw); obtain ⟨_, c0_, c1_, c2_, c3_, c4_⟩ := hSw; go_simp; (try with_reducible rfl))
            (try simp only [Act.put, List.setIfInBounds_toArray, List.set_cons_zero, List.set_cons_succ, List.getElem_toArray, List.getElem_cons_zero, List.getElem_cons_succ])
            refine wpAnyH_done (by kernel_rfl) ?_ _
            have hb1 := below_two hbr hHeld33.1
            clear hHeld hHeld6 hHeld33
            by_cases hcl : RL ≤ n
            case pos =>
              have r1 : decide ((n : Int) < (RL : Int)) = false := by rw [decide_eq_false_iff_not]; omega
              have r2 : ¬ n < RL := by omega
              have F := Lib.hid (allR_step HD.out (HAE.out.trans (decide_eq_true hcl)))
              clear hcl hRR
              go_wp2_with fail
              exact ⟨⟨k + 1, by omega, by go_num, F.out, hb1⟩, by simp [intOf]; omega⟩
            case neg =>
              have r1 : decide ((n : Int) < (RL : Int)) = true := by rw [decide_eq_true_eq]; omega
              have r2 : n < RL := by omega
              have F : Hid (chartR l g = false) := chartR_no (by rw [HL.out]; exact hlt) (HAE.out.trans (decide_eq_false hcl))
              clear hcl hRR
              go_wp2_with fail
              go_ret
              exact ⟨ret_bool (by rw [HG.out, F.out]), hb1⟩
          case neg =>
            obtain ⟨q, rfl⟩ : ∃ q, k = q + 1 := ⟨k - 1, by omega⟩
            have kz : decide ((0 : Int) < ((q + 1 : Nat) : Int)) = true := by rw [decide_eq_true_eq]; omega
            rw [Nat.add_sub_cancel] at HS
            have hq0 : (0 : Int) ≤ (q : Int) + 1 := by omega
            have hq1 : (q : Int) + 1 < (n : Int) := by omega
            have hq2 : (q : Int) < (n : Int) := by omega
            by_cases hle : x0 ≤ pc
            case pos =>
              have l1 : decide (x0 ≤ pc) = true := decide_eq_true hle
              have F : Hid (chartR l g = false) := chartR_no (k := q + 1) (by rw [HL.out]; exact hlt) (by rw [HAT2.out, HAS.out, decide_eq_false (by omega : ¬ (q + 1 = 0)), decide_eq_false (by omega : ¬ pc < x0)]; rfl)
              clear hk0 HAT2 HAS hle
              have hwq : IntKind.i64.wrap (q : Int) = (q : Int) := IntWalk.i64_in _ (by omega)
              go_upto_region 6 with fail
              refine wp_region_held_drew (S := ChS wo ad (q + 1) q x0 x1 x2 x3 pc) (by kernel_rfl) HS.out (fun hHeld => ?_)
              refine wpAnyH_take (i := 0) (v := ?vc0) rfl (by kernel_rfl) (by kernel_rfl) (by kernel_rfl) (fun _ _ _ h => h) (Or.inl ⟨by rfl, ?hyc0⟩) (by assumption) ?restc0
              case hyc0 => (intro w_ hSw; (try dsimp only at hSw); obtain ⟨_, c0_, c1_, c2_, c3_, c4_⟩ := hSw; go_simp; (try with_reducible rfl))
              (try simp only [Act.put, List.setIfInBounds_toArray, List.set_cons_zero, List.set_cons_succ, List.getElem_toArray, List.getElem_cons_zero, List.getElem_cons_succ])
              refine wpAnyH_take (i := 1) (v := ?vc1) rfl (by kernel_rfl) (by kernel_rfl) (by kernel_rfl) (fun _ _ _ h => h) (Or.inl ⟨by rfl, ?hyc1⟩) (by assumption) ?restc1
              case hyc1 => (intro w_ hSw; (try dsimp only at hSw); obtain ⟨_, c0_, c1_, c2_, c3_, c4_⟩ := hSw; go_simp; (try with_reducible rfl))
              (try simp only [Act.put, List.setIfInBounds_toArray, List.set_cons_zero, List.set_cons_succ, List.getElem_toArray, List.getElem_cons_zero, List.getElem_cons_succ])
              refine wpAnyH_take (i := 2) (v := ?vc2) rfl (by kernel_rfl) (by kernel_rfl) (by kernel_rfl) (fun _ _ _ h => h) (Or.inl ⟨by rfl, ?hyc2⟩) (by assumption) ?restc2
              case hyc2 => (intro w_ hSw; (try dsimp only at hSw); obtain ⟨_, c0_, c1_, c2_, c3_, c4_⟩ := hSw; go_simp; (try with_reducible rfl))
              (try simp only [Act.put, List.setIfInBounds_toArray, List.set_cons_zero, List.set_cons_succ, List.getElem_toArray, List.getElem_cons_zero, List.getElem_cons_succ])
              refine wpAnyH_take (i := 3) (v := ?vc3) rfl (by kernel_rfl) (by kernel_rfl) (by kernel_rfl) (fun _ _ _ h => h) (Or.inl ⟨by rfl, ?hyc3⟩) (by assumption) ?restc3
              case hyc3 => (intro w_ hSw; (try dsimp only at hSw); obtain ⟨_, c0_, c1_, c2_, c3_, c4_⟩ := hSw; go_simp; (try with_reducible rfl))
              (try simp only [Act.put, List.setIfInBounds_toArray, List.set_cons_zero, List.set_cons_succ, List.getElem_toArray, List.getElem_cons_zero, List.getElem_cons_succ])
              refine wpAnyH_take (i := 4) (v := ?vc4) rfl (by kernel_rfl) (by kernel_rfl) (by kernel_rfl) (fun _ _ _ h => h) (Or.inl ⟨by rfl, ?hyc4⟩) (by assumption) ?restc4
              case hyc4 => (intro w_ hSw; (try dsimp only at hSw); obtain ⟨_, c0_, c1_, c2_, c3_, c4_⟩ := hSw; go_simp; (try with_reducible rfl))
              (try simp only [Act.put, List.setIfInBounds_toArray, List.set_cons_zero, List.set_cons_succ, List.getElem_toArray, List.getElem_cons_zero, List.getElem_cons_succ])
              refine wpAnyH_take (i := 5) (v := ?vc5) rfl (by kernel_rfl) (by kernel_rfl) (by kernel_rfl) (fun _ _ _ h => h) (Or.inl ⟨by rfl, ?hyc5⟩) (by assumption) ?restc5
              case hyc5 => (intro w_ hSw; (try dsimp only at hSw); obtain ⟨_, c0_, c1_, c2_, c3_, c4_⟩ := hSw; go_simp; (try with_reducible rfl))
              (try simp only [Act.put, List.setIfInBounds_toArray, List.set_cons_zero, List.set_cons_succ, List.getElem_toArray, List.getElem_cons_zero, List.getElem_cons_succ])
              refine wpAnyH_ready (rs := [6]) (by kernel_rfl) (by simp) ?_
              refine (AllReadyH.cons rfl (fun K hK => ?_) AllReadyH.nil)
              go_simp
              refine (rproper_any l (some ad) n c ⟨x0, x1, x2, x3⟩ g _ _ (HRD.out.low_ hHeld.1) (Nat.le_refl _) (by omega)).mono ?_
              rintro e wa ⟨rfl, hba⟩
              dsimp only
              refine hK.out _ _ ?hSc6 (fun hHeld6 => ?_)
              case hSc6 => exact hHeld.step hba had
              rw [HPV.out]
              clear hK K hba
              (try simp only [Act.put, List.setIfInBounds_toArray, List.set_cons_zero, List.set_cons_succ, List.getElem_toArray, List.getElem_cons_zero, List.getElem_cons_succ])
              refine wpAnyH_take (i := 7) (v := ?vc7) rfl (by kernel_rfl) (by kernel_rfl) (by kernel_rfl) (fun _ _ _ h => h) (Or.inl ⟨by rfl, ?hyc7⟩) (by assumption) ?restc7
              case hyc7 => (intro w_ hSw; (try dsimp only at hSw); obtain ⟨_, c0_, c1_, c2_, c3_, c4_⟩ := hSw; go_simp; (try with_reducible rfl))
              (try simp only [Act.put, List.setIfInBounds_toArray, List.set_cons_zero, List.set_cons_succ, List.getElem_toArray, List.getElem_cons_zero, List.getElem_cons_succ])
              refine wpAnyH_take (i := 8) (v := ?vc8) rfl (by kernel_rfl) (by kernel_rfl) (by kernel_rfl) (fun _ _ _ h => h) (Or.inl ⟨by rfl, ?hyc8⟩) (by assumption) ?restc8
              case hyc8 => (intro w_ hSw; (try dsimp only at hSw); obtain ⟨_, c0_, c1_, c2_, c3_, c4_⟩ := hSw; go_simp; (try with_reducible rfl))
              (try simp only [Act.put, List.setIfInBounds_toArray, List.set_cons_zero, List.set_cons_succ, List.getElem_toArray, List.getElem_cons_zero, List.getElem_cons_succ])
              refine wpAnyH_take (i := 9) (v := ?vc9) rfl (by kernel_rfl) (by kernel_rfl) (by kernel_rfl) (fun _ _ _ h => h) (Or.inl ⟨by rfl, ?hyc9⟩) (by assumption) ?restc9
              case hyc9 => (intro w_ hSw; (try dsimp only at hSw); obtain ⟨_, c0_, c1_, c2_, c3_, c4_⟩ := hSw; go_simp; (try with_reducible rfl))
              (try simp only [Act.put, List.setIfInBounds_toArray, List.set_cons_zero, List.set_cons_succ, List.getElem_toArray, List.getElem_cons_zero, List.getElem_cons_succ])
              refine wpAnyH_take (i := 10) (v := ?vc10) rfl (by kernel_rfl) (by kernel_rfl) (by kernel_rfl) (fun _ _ _ h => h) (Or.inl ⟨by rfl, ?hyc10⟩) (by assumption) ?restc10
              case hyc10 => (intro w_ hSw; (try dsimp only at hSw); obtain ⟨_, c0_, c1_, c2_, c3_, c4_⟩ := hSw; go_simp; (try with_reducible rfl))
              (try simp only [Act.put, List.setIfInBounds_toArray, List.set_cons_zero, List.set_cons_succ, List.getElem_toArray, List.getElem_cons_zero, List.getElem_cons_succ])
              refine wpAnyH_take (i := 11) (v := ?vc11) rfl (by kernel_rfl) (by kernel_rfl) (by kernel_rfl) (fun _ _ _ h => h) (Or.inl ⟨by rfl, ?hyc11⟩) (by assumption) ?restc11
              case hyc11 => (intro w_ hSw; (try dsimp only at hSw); obtain ⟨_, c0_, c1_, c2_, c3_, c4_⟩ := hSw; go_simp; (try with_reducible rfl))
              (try simp only [Act.put, List.setIfInBounds_toArray, List.set_cons_zero, List.set_cons_succ, List.getElem_toArray, List.getElem_cons_zero, List.getElem_cons_succ])
              refine wpAnyH_take (i := 12) (v := ?vc12) rfl (by kernel_rfl) (by kernel_rfl) (by kernel_rfl) (fun _ _ _ h => h) (Or.inl ⟨by rfl, ?hyc12⟩) (by assumption) ?restc12
              case hyc12 => (intro w_ hSw; (try dsimp only at hSw); obtain ⟨_, c0_, c1_, c2_, c3_, c4_⟩ := hSw; go_simp; (try with_reducible rfl))
              (try simp only [Act.put, List.setIfInBounds_toArray, List.set_cons_zero, List.set_cons_succ, List.getElem_toArray, List.getElem_cons_zero, List.getElem_cons_succ])
              refine wpAnyH_take (i := 13) (v := ?vc13) rfl (by kernel_rfl) (by kernel_rfl) (by kernel_rfl) (fun _ _ _ h => h) (Or.inl ⟨by rfl, ?hyc13⟩) (by assumption) ?restc13
              case hyc13 => (intro w_ hSw; (try dsimp only at hSw); obtain ⟨_, c0_, c1_, c2_, c3_, c4_⟩ := hSw; go_simp; (try with_reducible rfl))
              (try simp only [Act.put, List.setIfInBounds_toArray, List.set_cons_zero, List.set_cons_succ, List.getElem_toArray, List.getElem_cons_zero, List.getElem_cons_succ])
              refine wpAnyH_take (i := 14) (v := ?vc14) rfl (by kernel_rfl) (by kernel_rfl) (by kernel_rfl) (fun _ _ _ h => h) (Or.inl ⟨by rfl, ?hyc14⟩) (by assumption) ?restc14
              case hyc14 => (intro w_ hSw; (try dsimp only at hSw); obtain ⟨_, c0_, c1_, c2_, c3_, c4_⟩ := hSw; go_simp; (try with_reducible rfl))
              (try simp only [Act.put, List.setIfInBounds_toArray, List.set_cons_zero, List.set_cons_succ, List.getElem_toArray, List.getElem_cons_zero, List.getElem_cons_succ])
              refine wpAnyH_take (i := 15) (v := ?vc15) rfl (by kernel_rfl) (by kernel_rfl) (by kernel_rfl) (fun _ _ _ h => h) (Or.inl ⟨by rfl, ?hyc15⟩) (by assumption) ?restc15
              case hyc15 => (intro w_ hSw; (try dsimp only at hSw); obtain ⟨_, c0_, c1_, c2_, c3_, c4_⟩ := hSw; go_simp; (try with_reducible rfl))
              (try simp only [Act.put, List.setIfInBounds_toArray, List.set_cons_zero, List.set_cons_succ, List.getElem_toArray, List.getElem_cons_zero, List.getElem_cons_succ])
              refine wpAnyH_take (i := 16) (v := ?vc16) rfl (by kernel_rfl) (by kernel_rfl) (by kernel_rfl) (fun _ _ _ h => h) (Or.inl ⟨by rfl, ?hyc16⟩) (by assumption) ?restc16
              case hyc16 => (intro w_ hSw; (try dsimp only at hSw); obtain ⟨_, c0_, c1_, c2_, c3_, c4_⟩ := hSw; go_simp; (try with_reducible rfl))
              (try simp only [Act.put, List.setIfInBounds_toArray, List.set_cons_zero, List.set_cons_succ, List.getElem_toArray, List.getElem_cons_zero, List.getElem_cons_succ])
              refine wpAnyH_take (i := 17) (v := ?vc17) rfl (by kernel_rfl) (by kernel_rfl) (by kernel_rfl) (fun _ _ _ h => h) (Or.inl ⟨by rfl, ?hyc17⟩) (by assumption) ?restc17
              case hyc17 => (intro w_ hSw; (try dsimp only at hSw); obtain ⟨_, c0_, c1_, c2_, c3_, c4_⟩ := hSw; go_simp; (try with_reducible rfl))
              (try simp only [Act.put, List.setIfInBounds_toArray, List.set_cons_zero, List.set_cons_succ, List.getElem_toArray, List.getElem_cons_zero, List.getElem_cons_succ])
              refine wpAnyH_take (i := 18) (v := ?vc18) rfl (by kernel_rfl) (by kernel_rfl) (by kernel_rfl) (fun _ _ _ h => h) (Or.inl ⟨by rfl, ?hyc18⟩) (by assumption) ?restc18
              case hyc18 => (intro w_ hSw; (try dsimp only at hSw); obtain ⟨_, c0_, c1_, c2_, c3_, c4_⟩ := hSw; go_simp; (try with_reducible rfl))
              (try simp only [Act.put, List.setIfInBounds_toArray, List.set_cons_zero, List.set_cons_succ, List.getElem_toArray, List.getElem_cons_zero, List.getElem_cons_succ])
              refine wpAnyH_take (i := 19) (v := ?vc19) rfl (by kernel_rfl) (by kernel_rfl) (by kernel_rfl) (fun _ _ _ h => h) (Or.inl ⟨by rfl, ?hyc19⟩) (by assumption) ?restc19
              case hyc19 => (intro w_ hSw; (try dsimp only at hSw); obtain ⟨_, c0_, c1_, c2_, c3_, c4_⟩ := hSw; go_simp; (try with_reducible rfl))
              (try simp only [Act.put, List.setIfInBounds_toArray, List.set_cons_zero, List.set_cons_succ, List.getElem_toArray, List.getElem_cons_zero, List.getElem_cons_succ])
              refine wpAnyH_take (i := 20) (v := ?vc20) rfl (by kernel_rfl) (by kernel_rfl) (by kernel_rfl) (fun _ _ _ h => h) (Or.inl ⟨by rfl, ?hyc20⟩) (by assumption) ?restc20
              case hyc20 => (intro w_ hSw; (try dsimp only at hSw); obtain ⟨_, c0_, c1_, c2_, c3_, c4_⟩ := hSw; go_simp; (try with_reducible rfl))
              (try simp only [Act.put, List.setIfInBounds_toArray, List.set_cons_zero, List.set_cons_succ, List.getElem_toArray, List.getElem_cons_zero, List.getElem_cons_succ])
              refine wpAnyH_take (i := 21) (v := ?vc21) rfl (by kernel_rfl) (by kernel_rfl) (by kernel_rfl) (fun _ _ _ h => h) (Or.inl ⟨by rfl, ?hyc21⟩) (by assumption) ?restc21
              case hyc21 => (intro w_ hSw; (try dsimp only at hSw); obtain ⟨_, c0_, c1_, c2_, c3_, c4_⟩ := hSw; go_simp; (try with_reducible rfl))
              (try simp only [Act.put, List.setIfInBounds_toArray, List.set_cons_zero, List.set_cons_succ, List.getElem_toArray, List.getElem_cons_zero, List.getElem_cons_succ])
              refine wpAnyH_take (i := 22) (v := ?vc22) rfl (by kernel_rfl) (by kernel_rfl) (by kernel_rfl) (fun _ _ _ h => h) (Or.inl ⟨by rfl, ?hyc22⟩) (by assumption) ?restc22
              case hyc22 => (intro w_ hSw; (try dsimp only at hSw); obtain ⟨_, c0_, c1_, c2_, c3_, c4_⟩ := hSw; go_simp; (try with_reducible rfl))
              (try simp only [Act.put, List.setIfInBounds_toArray, List.set_cons_zero, List.set_cons_succ, List.getElem_toArray, List.getElem_cons_zero, List.getElem_cons_succ])
              refine wpAnyH_take (i := 23) (v := ?vc23) rfl (by kernel_rfl) (by kernel_rfl) (by kernel_rfl) (fun _ _ _ h => h) (Or.inl ⟨by rfl, ?hyc23⟩) (by assumption) ?restc23
              case hyc23 => (intro w_ hSw; (try dsimp only at hSw); obtain ⟨_, c0_, c1_, c2_, c3_, c4_⟩ := hSw; go_simp; (try with_reducible rfl))
              (try simp only [Act.put, List.setIfInBounds_toArray, List.set_cons_zero, List.set_cons_succ, List.getElem_toArray, List.getElem_cons_zero, List.getElem_cons_succ])
              refine wpAnyH_take (i := 24) (v := ?vc24) rfl (by kernel_rfl) (by kernel_rfl) (by kernel_rfl) (fun _ _ _ h => h) (Or.inl ⟨by rfl, ?hyc24⟩) (by assumption) ?restc24
              case hyc24 => (intro w_ hSw; (try dsimp only at hSw); obtain ⟨_, c0_, c1_, c2_, c3_, c4_⟩ := hSw; go_simp; (try with_reducible rfl))
              (try simp only [Act.put, List.setIfInBounds_toArray, List.set_cons_zero, List.set_cons_succ, List.getElem_toArray, List.getElem_cons_zero, List.getElem_cons_succ])
              refine wpAnyH_take (i := 25) (v := ?vc25) rfl (by kernel_rfl) (by kernel_rfl) (by kernel_rfl) (fun _ _ _ h => h) (Or.inl ⟨by rfl, ?hyc25⟩) (by assumption) ?restc25
              case hyc25 => (intro w_ hSw; (try dsimp only at hSw); obtain ⟨_, c0_, c1_, c2_, c3_, c4_⟩ := hSw; go_simp; (try with_reducible rfl))
              (try simp only [Act.put, List.setIfInBounds_toArray, List.set_cons_zero, List.set_cons_succ, List.getElem_toArray, List.getElem_cons_zero, List.getElem_cons_succ])
              refine wpAnyH_take (i := 26) (v := ?vc26) rfl (by kernel_rfl) (by kernel_rfl) (by kernel_rfl) (fun _ _ _ h => h) (Or.inl ⟨by rfl, ?hyc26⟩) (by assumption) ?restc26
              case hyc26 => (intro w_ hSw; (try dsimp only at hSw); obtain ⟨_, c0_, c1_, c2_, c3_, c4_⟩ := hSw; go_simp; (try with_reducible rfl))
              (try simp only [Act.put, List.setIfInBounds_toArray, List.set_cons_zero, List.set_cons_succ, List.getElem_toArray, List.getElem_cons_zero, List.getElem_cons_succ])
              refine wpAnyH_take (i := 27) (v := undef) rfl (by kernel_rfl) (by kernel_rfl) (by kernel_rfl) (fun _ _ _ h => h) (Or.inr ⟨by rfl, rfl⟩) (by assumption) ?restc27
              (try simp only [Act.put, List.setIfInBounds_toArray, List.set_cons_zero, List.set_cons_succ, List.getElem_toArray, List.getElem_cons_zero, List.getElem_cons_succ])
              refine wpAnyH_take (i := 28) (v := undef) rfl (by kernel_rfl) (by kernel_rfl) (by kernel_rfl) (fun _ _ _ h => h) (Or.inr ⟨by rfl, rfl⟩) (by assumption) ?restc28
              (try simp only [Act.put, List.setIfInBounds_toArray, List.set_cons_zero, List.set_cons_succ, List.getElem_toArray, List.getElem_cons_zero, List.getElem_cons_succ])
              refine wpAnyH_take (i := 29) (v := undef) rfl (by kernel_rfl) (by kernel_rfl) (by kernel_rfl) (fun _ _ _ h => h) (Or.inr ⟨by rfl, rfl⟩) (by assumption) ?restc29
              (try simp only [Act.put, List.setIfInBounds_toArray, List.set_cons_zero, List.set_cons_succ, List.getElem_toArray, List.getElem_cons_zero, List.getElem_cons_succ])
              refine wpAnyH_take (i := 30) (v := undef) rfl (by kernel_rfl) (by kernel_rfl) (by kernel_rfl) (fun _ _ _ h => h) (Or.inr ⟨by rfl, rfl⟩) (by assumption) ?restc30
              (try simp only [Act.put, List.setIfInBounds_toArray, List.set_cons_zero, List.set_cons_succ, List.getElem_toArray, List.getElem_cons_zero, List.getElem_cons_succ])
              refine wpAnyH_take (i := 31) (v := undef) rfl (by kernel_rfl) (by kernel_rfl) (by kernel_rfl) (fun _ _ _ h => h) (Or.inr ⟨by rfl, rfl⟩) (by assumption) ?restc31
              (try simp only [Act.put, List.setIfInBounds_toArray, List.set_cons_zero, List.set_cons_succ, List.getElem_toArray, List.getElem_cons_zero, List.getElem_cons_succ])
              refine wpAnyH_take (i := 32) (v := undef) rfl (by kernel_rfl) (by kernel_rfl) (by kernel_rfl) (fun _ _ _ h => h) (Or.inr ⟨by rfl, rfl⟩) (by assumption) ?restc32
              (try simp only [Act.put, List.setIfInBounds_toArray, List.set_cons_zero, List.set_cons_succ, List.getElem_toArray, List.getElem_cons_zero, List.getElem_cons_succ])
              refine wpAnyH_take (i := 33) (v := undef) rfl (by kernel_rfl) (by kernel_rfl) (by kernel_rfl) (fun _ _ _ h => h) (Or.inr ⟨by rfl, rfl⟩) (by assumption) ?restc33
              (try simp only [Act.put, List.setIfInBounds_toArray, List.set_cons_zero, List.set_cons_succ, List.getElem_toArray, List.getElem_cons_zero, List.getElem_cons_succ])
              refine wpAnyH_take (i := 34) (v := undef) rfl (by kernel_rfl) (by kernel_rfl) (by kernel_rfl) (fun _ _ _ h => h) (Or.inr ⟨by rfl, rfl⟩) (by assumption) ?restc34
              (try simp only [Act.put, List.setIfInBounds_toArray, List.set_cons_zero, List.set_cons_succ, List.getElem_toArray, List.getElem_cons_zero, List.getElem_cons_succ])
              refine wpAnyH_take (i := 35) (v := undef) rfl (by kernel_rfl) (by kernel_rfl) (by kernel_rfl) (fun _ _ _ h => h) (Or.inr ⟨by rfl, rfl⟩) (by assumption) ?restc35
              (try simp only [Act.put, List.setIfInBounds_toArray, List.set_cons_zero, List.set_cons_succ, List.getElem_toArray, List.getElem_cons_zero, List.getElem_cons_succ])
              refine wpAnyH_take (i := 36) (v := undef) rfl (by kernel_rfl) (by kernel_rfl) (by kernel_rfl) (fun _ _ _ h => h) (Or.inr ⟨by rfl, rfl⟩) (by assumption) ?restc36
              (try simp only [Act.put, List.setIfInBounds_toArray, List.set_cons_zero, List.set_cons_succ, List.getElem_toArray, List.getElem_cons_zero, List.getElem_cons_succ])
              refine wpAnyH_take (i := 37) (v := undef) rfl (by kernel_rfl) (by kernel_rfl) (by kernel_rfl) (fun _ _ _ h => h) (Or.inr ⟨by rfl, rfl⟩) (by assumption) ?restc37
              (try simp only [Act.put, List.setIfInBounds_toArray, List.set_cons_zero, List.set_cons_succ, List.getElem_toArray, List.getElem_cons_zero, List.getElem_cons_succ])
              refine wpAnyH_take (i := 38) (v := ?vc38) rfl (by kernel_rfl) (by kernel_rfl) (by kernel_rfl) (fun _ _ _ h => h) (Or.inl ⟨by rfl, ?hyc38⟩) (by assumption) ?restc38
              case hyc38 => (intro w_ hSw; (try dsimp only at hSw); obtain ⟨_, c0_, c1_, c2_, c3_, c4_⟩ := hSw; go_simp; (try with_reducible rfl))
              (try simp only [Act.put, List.setIfInBounds_toArray, List.set_cons_zero, List.set_cons_succ, List.getElem_toArray, List.getElem_cons_zero, List.getElem_cons_succ])
              refine wpAnyH_done (by kernel_rfl) ?_ _
              clear hwq
              have hb1 := below_two hbr hHeld6.1
              clear hHeld hHeld6
              go_wp2_with fail
              go_ret
              exact ⟨ret_bool (by rw [HG.out, F.out]), hb1⟩
            case neg =>
              have l1 : decide (x0 ≤ pc) = false := decide_eq_false hle
              have HAE : Hid (chartAtR l g (q + 1) = decide (RL ≤ n)) := by show _ = _; rw [HAT2.out, HAS.out, decide_eq_false (by omega : ¬ (q + 1 = 0)), decide_eq_true (by omega : pc < x0)]; simp
              clear hk0 HAT2 HAS hle
              have hwq : IntKind.i64.wrap (q : Int) = (q : Int) := IntWalk.i64_in _ (by omega)
              go_upto_region 6 with fail
              refine wp_region_held_drew (S := ChS wo ad (q + 1) q x0 x1 x2 x3 pc) (by kernel_rfl) HS.out (fun hHeld => ?_)
              refine wpAnyH_take (i := 0) (v := ?vd0) rfl (by kernel_rfl) (by kernel_rfl) (by kernel_rfl) (fun _ _ _ h => h) (Or.inl ⟨by rfl, ?hyd0⟩) (by assumption) ?restd0
              case hyd0 => (intro w_ hSw; (try dsimp only at hSw); obtain ⟨_, c0_, c1_, c2_, c3_, c4_⟩ := hSw; go_simp; (try with_reducible rfl))
              (try simp only [Act.put, List.setIfInBounds_toArray, List.set_cons_zero, List.set_cons_succ, List.getElem_toArray, List.getElem_cons_zero, List.getElem_cons_succ])
              refine wpAnyH_take (i := 1) (v := ?vd1) rfl (by kernel_rfl) (by kernel_rfl) (by kernel_rfl) (fun _ _ _ h => h) (Or.inl ⟨by rfl, ?hyd1⟩) (by assumption) ?restd1
              case hyd1 => (intro w_ hSw; (try dsimp only at hSw); obtain ⟨_, c0_, c1_, c2_, c3_, c4_⟩ := hSw; go_simp; (try with_reducible rfl))
              (try simp only [Act.put, List.setIfInBounds_toArray, List.set_cons_zero, List.set_cons_succ, List.getElem_toArray, List.getElem_cons_zero, List.getElem_cons_succ])
              refine wpAnyH_take (i := 2) (v := ?vd2) rfl (by kernel_rfl) (by kernel_rfl) (by kernel_rfl) (fun _ _ _ h => h) (Or.inl ⟨by rfl, ?hyd2⟩) (by assumption) ?restd2
              case hyd2 => (intro w_ hSw; (try dsimp only at hSw); obtain ⟨_, c0_, c1_, c2_, c3_, c4_⟩ := hSw; go_simp; (try with_reducible rfl))
              (try simp only [Act.put, List.setIfInBounds_toArray, List.set_cons_zero, List.set_cons_succ, List.getElem_toArray, List.getElem_cons_zero, List.getElem_cons_succ])
              refine wpAnyH_take (i := 3) (v := ?vd3) rfl (by kernel_rfl) (by kernel_rfl) (by kernel_rfl) (fun _ _ _ h => h) (Or.inl ⟨by rfl, ?hyd3⟩) (by assumption) ?restd3
              case hyd3 => (intro w_ hSw; (try dsimp only at hSw); obtain ⟨_, c0_, c1_, c2_, c3_, c4_⟩ := hSw; go_simp; (try with_reducible rfl))
              (try simp only [Act.put, List.setIfInBounds_toArray, List.set_cons_zero, List.set_cons_succ, List.getElem_toArray, List.getElem_cons_zero, List.getElem_cons_succ])
              refine wpAnyH_take (i := 4) (v := ?vd4) rfl (by kernel_rfl) (by kernel_rfl) (by kernel_rfl) (fun _ _ _ h => h) (Or.inl ⟨by rfl, ?hyd4⟩) (by assumption) ?restd4
              case hyd4 => (intro w_ hSw; (try dsimp only at hSw); obtain ⟨_, c0_, c1_, c2_, c3_, c4_⟩ := hSw; go_simp; (try with_reducible rfl))
              (try simp only [Act.put, List.setIfInBounds_toArray, List.set_cons_zero, List.set_cons_succ, List.getElem_toArray, List.getElem_cons_zero, List.getElem_cons_succ])
              refine wpAnyH_take (i := 5) (v := ?vd5) rfl (by kernel_rfl) (by kernel_rfl) (by kernel_rfl) (fun _ _ _ h => h) (Or.inl ⟨by rfl, ?hyd5⟩) (by assumption) ?restd5
              case hyd5 => (intro w_ hSw; (try dsimp only at hSw); obtain ⟨_, c0_, c1_, c2_, c3_, c4_⟩ := hSw; go_simp; (try with_reducible rfl))
              (try simp only [Act.put, List.setIfInBounds_toArray, List.set_cons_zero, List.set_cons_succ, List.getElem_toArray, List.getElem_cons_zero, List.getElem_cons_succ])
              refine wpAnyH_ready (rs := [6]) (by kernel_rfl) (by simp) ?_
              refine (AllReadyH.cons rfl (fun K hK => ?_) AllReadyH.nil)
              go_simp
              refine (rproper_any l (some ad) n c ⟨x0, x1, x2, x3⟩ g _ _ (HRD.out.low_ hHeld.1) (Nat.le_refl _) (by omega)).mono ?_
              rintro e wa ⟨rfl, hba⟩
              dsimp only
              refine hK.out _ _ ?hSd6 (fun hHeld6 => ?_)
              case hSd6 => exact hHeld.step hba had
              rw [HPV.out]
              clear hK K hba
              (try simp only [Act.put, List.setIfInBounds_toArray, List.set_cons_zero, List.set_cons_succ, List.getElem_toArray, List.getElem_cons_zero, List.getElem_cons_succ])
              refine wpAnyH_take (i := 7) (v := ?vd7) rfl (by kernel_rfl) (by kernel_rfl) (by kernel_rfl) (fun _ _ _ h => h) (Or.inl ⟨by rfl, ?hyd7⟩) (by assumption) ?restd7
              case hyd7 => (intro w_ hSw; (try dsimp only at hSw); obtain ⟨_, c0_, c1_, c2_, c3_, c4_⟩ := hSw; go_simp; (try with_reducible rfl))
              (try simp only [Act.put, List.setIfInBounds_toArray, List.set_cons_zero, List.set_cons_succ, List.getElem_toArray, List.getElem_cons_zero, List.getElem_cons_succ])
              refine wpAnyH_take (i := 8) (v := ?vd8) rfl (by kernel_rfl) (by kernel_rfl) (by kernel_rfl) (fun _ _ _ h => h) (Or.inl ⟨by rfl, ?hyd8⟩) (by assumption) ?restd8
              case hyd8 => (intro w_ hSw; (try dsimp only at hSw); obtain ⟨_, c0_, c1_, c2_, c3_, c4_⟩ := hSw; go_simp; (try with_reducible rfl))
              (try simp only [Act.put, List.setIfInBounds_toArray, List.set_cons_zero, List.set_cons_succ, List.getElem_toArray, List.getElem_cons_zero, List.getElem_cons_succ])
              refine wpAnyH_take (i := 9) (v := ?vd9) rfl (by kernel_rfl) (by kernel_rfl) (by kernel_rfl) (fun _ _ _ h => h) (Or.inl ⟨by rfl, ?hyd9⟩) (by assumption) ?restd9
              case hyd9 => (intro w_ hSw; (try dsimp only at hSw); obtain ⟨_, c0_, c1_, c2_, c3_, c4_⟩ := hSw; go_simp; (try with_reducible rfl))
              (try simp only [Act.put, List.setIfInBounds_toArray, List.set_cons_zero, List.set_cons_succ, List.getElem_toArray, List.getElem_cons_zero, List.getElem_cons_succ])
              refine wpAnyH_take (i := 10) (v := ?vd10) rfl (by kernel_rfl) (by kernel_rfl) (by kernel_rfl) (fun _ _ _ h => h) (Or.inl ⟨by rfl, ?hyd10⟩) (by assumption) ?restd10
              case hyd10 => (intro w_ hSw; (try dsimp only at hSw); obtain ⟨_, c0_, c1_, c2_, c3_, c4_⟩ := hSw; go_simp; (try with_reducible rfl))
              (try simp only [Act.put, List.setIfInBounds_toArray, List.set_cons_zero, List.set_cons_succ, List.getElem_toArray, List.getElem_cons_zero, List.getElem_cons_succ])
              refine wpAnyH_take (i := 11) (v := ?vd11) rfl (by kernel_rfl) (by kernel_rfl) (by kernel_rfl) (fun _ _ _ h => h) (Or.inl ⟨by rfl, ?hyd11⟩) (by assumption) ?restd11
              case hyd11 => (intro w_ hSw; (try dsimp only at hSw); obtain ⟨_, c0_, c1_, c2_, c3_, c4_⟩ := hSw; go_simp; (try with_reducible rfl))
              (try simp only [Act.put, List.setIfInBounds_toArray, List.set_cons_zero, List.set_cons_succ, List.getElem_toArray, List.getElem_cons_zero, List.getElem_cons_succ])
              refine wpAnyH_take (i := 12) (v := ?vd12) rfl (by kernel_rfl) (by kernel_rfl) (by kernel_rfl) (fun _ _ _ h => h) (Or.inl ⟨by rfl, ?hyd12⟩) (by assumption) ?restd12
              case hyd12 => (intro w_ hSw; (try dsimp only at hSw); obtain ⟨_, c0_, c1_, c2_, c3_, c4_⟩ := hSw; go_simp; (try with_reducible rfl))
              (try simp only [Act.put, List.setIfInBounds_toArray, List.set_cons_zero, List.set_cons_succ, List.getElem_toArray, List.getElem_cons_zero, List.getElem_cons_succ])
              refine wpAnyH_take (i := 13) (v := ?vd13) rfl (by kernel_rfl) (by kernel_rfl) (by kernel_rfl) (fun _ _ _ h => h) (Or.inl ⟨by rfl, ?hyd13⟩) (by assumption) ?restd13
              case hyd13 => (intro w_ hSw; (try dsimp only at hSw); obtain ⟨_, c0_, c1_, c2_, c3_, c4_⟩ := hSw; go_simp; (try with_reducible rfl))
              (try simp only [Act.put, List.setIfInBounds_toArray, List.set_cons_zero, List.set_cons_succ, List.getElem_toArray, List.getElem_cons_zero, List.getElem_cons_succ])
              refine wpAnyH_take (i := 14) (v := ?vd14) rfl (by kernel_rfl) (by kernel_rfl) (by kernel_rfl) (fun _ _ _ h => h) (Or.inl ⟨by rfl, ?hyd14⟩) (by assumption) ?restd14
              case hyd14 => (intro w_ hSw; (try dsimp only at hSw); obtain ⟨_, c0_, c1_, c2_, c3_, c4_⟩ := hSw; go_simp; (try with_reducible rfl))
              (try simp only [Act.put, List.setIfInBounds_toArray, List.set_cons_zero, List.set_cons_succ, List.getElem_toArray, List.getElem_cons_zero, List.getElem_cons_succ])
              refine wpAnyH_take (i := 15) (v := ?vd15) rfl (by kernel_rfl) (by kernel_rfl) (by kernel_rfl) (fun _ _ _ h => h) (Or.inl ⟨by rfl, ?hyd15⟩) (by assumption) ?restd15
              case hyd15 => (intro w_ hSw; (try dsimp only at hSw); obtain ⟨_, c0_, c1_, c2_, c3_, c4_⟩ := hSw; go_simp; (try with_reducible rfl))
              (try simp only [Act.put, List.setIfInBounds_toArray, List.set_cons_zero, List.set_cons_succ, List.getElem_toArray, List.getElem_cons_zero, List.getElem_cons_succ])
              refine wpAnyH_take (i := 16) (v := ?vd16) rfl (by kernel_rfl) (by kernel_rfl) (by kernel_rfl) (fun _ _ _ h => h) (Or.inl ⟨by rfl, ?hyd16⟩) (by assumption) ?restd16
              case hyd16 => (intro w_ hSw; (try dsimp only at hSw); obtain ⟨_, c0_, c1_, c2_, c3_, c4_⟩ := hSw; go_simp; (try with_reducible rfl))
              (try simp only [Act.put, List.setIfInBounds_toArray, List.set_cons_zero, List.set_cons_succ, List.getElem_toArray, List.getElem_cons_zero, List.getElem_cons_succ])
              refine wpAnyH_take (i := 17) (v := ?vd17) rfl (by kernel_rfl) (by kernel_rfl) (by kernel_rfl) (fun _ _ _ h => h) (Or.inl ⟨by rfl, ?hyd17⟩) (by assumption) ?restd17
              case hyd17 => (intro w_ hSw; (try dsimp only at hSw); obtain ⟨_, c0_, c1_, c2_, c3_, c4_⟩ := hSw; go_simp; (try with_reducible rfl))
              (try simp only [Act.put, List.setIfInBounds_toArray, List.set_cons_zero, List.set_cons_succ, List.getElem_toArray, List.getElem_cons_zero, List.getElem_cons_succ])
              refine wpAnyH_take (i := 18) (v := ?vd18) rfl (by kernel_rfl) (by kernel_rfl) (by kernel_rfl) (fun _ _ _ h => h) (Or.inl ⟨by rfl, ?hyd18⟩) (by assumption) ?restd18
              case hyd18 => (intro w_ hSw; (try dsimp only at hSw); obtain ⟨_, c0_, c1_, c2_, c3_, c4_⟩ := hSw; go_simp; (try with_reducible rfl))
              (try simp only [Act.put, List.setIfInBounds_toArray, List.set_cons_zero, List.set_cons_succ, List.getElem_toArray, List.getElem_cons_zero, List.getElem_cons_succ])
              refine wpAnyH_take (i := 19) (v := ?vd19) rfl (by kernel_rfl) (by kernel_rfl) (by kernel_rfl) (fun _ _ _ h => h) (Or.inl ⟨by rfl, ?hyd19⟩) (by assumption) ?restd19
              case hyd19 => (intro w_ hSw; (try dsimp only at hSw); obtain ⟨_, c0_, c1_, c2_, c3_, c4_⟩ := hSw; go_simp; (try with_reducible rfl))
              (try simp only [Act.put, List.setIfInBounds_toArray, List.set_cons_zero, List.set_cons_succ, List.getElem_toArray, List.getElem_cons_zero, List.getElem_cons_succ])
              refine wpAnyH_take (i := 20) (v := ?vd20) rfl (by kernel_rfl) (by kernel_rfl) (by kernel_rfl) (fun _ _ _ h => h) (Or.inl ⟨by rfl, ?hyd20⟩) (by assumption) ?restd20
              case hyd20 => (intro w_ hSw; (try dsimp only at hSw); obtain ⟨_, c0_, c1_, c2_, c3_, c4_⟩ := hSw; go_simp; (try with_reducible rfl))
              (try simp only [Act.put, List.setIfInBounds_toArray, List.set_cons_zero, List.set_cons_succ, List.getElem_toArray, List.getElem_cons_zero, List.getElem_cons_succ])
              refine wpAnyH_take (i := 21) (v := ?vd21) rfl (by kernel_rfl) (by kernel_rfl) (by kernel_rfl) (fun _ _ _ h => h) (Or.inl ⟨by rfl, ?hyd21⟩) (by assumption) ?restd21
              case hyd21 => (intro w_ hSw; (try dsimp only at hSw); obtain ⟨_, c0_, c1_, c2_, c3_, c4_⟩ := hSw; go_simp; (try with_reducible rfl))
              (try simp only [Act.put, List.setIfInBounds_toArray, List.set_cons_zero, List.set_cons_succ, List.getElem_toArray, List.getElem_cons_zero, List.getElem_cons_succ])
              refine wpAnyH_take (i := 22) (v := ?vd22) rfl (by kernel_rfl) (by kernel_rfl) (by kernel_rfl) (fun _ _ _ h => h) (Or.inl ⟨by rfl, ?hyd22⟩) (by assumption) ?restd22
              case hyd22 => (intro w_ hSw; (try dsimp only at hSw); obtain ⟨_, c0_, c1_, c2_, c3_, c4_⟩ := hSw; go_simp; (try with_reducible rfl))
              (try simp only [Act.put, List.setIfInBounds_toArray, List.set_cons_zero, List.set_cons_succ, List.getElem_toArray, List.getElem_cons_zero, List.getElem_cons_succ])
              refine wpAnyH_take (i := 23) (v := ?vd23) rfl (by kernel_rfl) (by kernel_rfl) (by kernel_rfl) (fun _ _ _ h => h) (Or.inl ⟨by rfl, ?hyd23⟩) (by assumption) ?restd23
              case hyd23 => (intro w_ hSw; (try dsimp only at hSw); obtain ⟨_, c0_, c1_, c2_, c3_, c4_⟩ := hSw; go_simp; (try with_reducible rfl))
              (try simp only [Act.put, List.setIfInBounds_toArray, List.set_cons_zero, List.set_cons_succ, List.getElem_toArray, List.getElem_cons_zero, List.getElem_cons_succ])
              refine wpAnyH_take (i := 24) (v := ?vd24) rfl (by kernel_rfl) (by kernel_rfl) (by kernel_rfl) (fun _ _ _ h => h) (Or.inl ⟨by rfl, ?hyd24⟩) (by assumption) ?restd24
              case hyd24 => (intro w_ hSw; (try dsimp only at hSw); obtain ⟨_, c0_, c1_, c2_, c3_, c4_⟩ := hSw; go_simp; (try with_reducible rfl))
              (try simp only [Act.put, List.setIfInBounds_toArray, List.set_cons_zero, List.set_cons_succ, List.getElem_toArray, List.getElem_cons_zero, List.getElem_cons_succ])
              refine wpAnyH_take (i := 25) (v := ?vd25) rfl (by kernel_rfl) (by kernel_rfl) (by kernel_rfl) (fun _ _ _ h => h) (Or.inl ⟨by rfl, ?hyd25⟩) (by assumption) ?restd25
              case hyd25 => (intro w_ hSw; (try dsimp only at hSw); obtain ⟨_, c0_, c1_, c2_, c3_, c4_⟩ := hSw; go_simp; (try with_reducible rfl))
              (try simp only [Act.put, List.setIfInBounds_toArray, List.set_cons_zero, List.set_cons_succ, List.getElem_toArray, List.getElem_cons_zero, List.getElem_cons_succ])
              refine wpAnyH_take (i := 26) (v := ?vd26) rfl (by kernel_rfl) (by kernel_rfl) (by kernel_rfl) (fun _ _ _ h => h) (Or.inl ⟨by rfl, ?hyd26⟩) (by assumption) ?restd26
              case hyd26 => (intro w_ hSw; (try dsimp only at hSw); obtain ⟨_, c0_, c1_, c2_, c3_, c4_⟩ := hSw; go_simp; (try with_reducible rfl))
              (try simp only [Act.put, List.setIfInBounds_toArray, List.set_cons_zero, List.set_cons_succ, List.getElem_toArray, List.getElem_cons_zero, List.getElem_cons_succ])
              refine wpAnyH_take (i := 27) (v := ?vd27) rfl (by kernel_rfl) (by kernel_rfl) (by kernel_rfl) (fun _ _ _ h => h) (Or.inl ⟨by rfl, ?hyd27⟩) (by assumption) ?restd27
              case hyd27 => (intro w_ hSw; (try dsimp only at hSw); obtain ⟨_, c0_, c1_, c2_, c3_, c4_⟩ := hSw; go_simp; (try with_reducible rfl))
              (try simp only [Act.put, List.setIfInBounds_toArray, List.set_cons_zero, List.set_cons_succ, List.getElem_toArray, List.getElem_cons_zero, List.getElem_cons_succ])
              refine wpAnyH_take (i := 28) (v := ?vd28) rfl (by kernel_rfl) (by kernel_rfl) (by kernel_rfl) (fun _ _ _ h => h) (Or.inl ⟨by rfl, ?hyd28⟩) (by assumption) ?restd28
              case hyd28 => (intro w_ hSw; (try dsimp only at hSw); obtain ⟨_, c0_, c1_, c2_, c3_, c4_⟩ := hSw; go_simp; (try with_reducible rfl))
              (try simp only [Act.put, List.setIfInBounds_toArray, List.set_cons_zero, List.set_cons_succ, List.getElem_toArray, List.getElem_cons_zero, List.getElem_cons_succ])
              refine wpAnyH_take (i := 29) (v := ?vd29) rfl (by kernel_rfl) (by kernel_rfl) (by kernel_rfl) (fun _ _ _ h => h) (Or.inl ⟨by rfl, ?hyd29⟩) (by assumption) ?restd29
              case hyd29 => (intro w_ hSw; (try dsimp only at hSw); obtain ⟨_, c0_, c1_, c2_, c3_, c4_⟩ := hSw; go_simp; (try with_reducible rfl))
              (try simp only [Act.put, List.setIfInBounds_toArray, List.set_cons_zero, List.set_cons_succ, List.getElem_toArray, List.getElem_cons_zero, List.getElem_cons_succ])
              refine wpAnyH_take (i := 30) (v := ?vd30) rfl (by kernel_rfl) (by kernel_rfl) (by kernel_rfl) (fun _ _ _ h => h) (Or.inl ⟨by rfl, ?hyd30⟩) (by assumption) ?restd30
              case hyd30 => (intro w_ hSw; (try dsimp only at hSw); obtain ⟨_, c0_, c1_, c2_, c3_, c4_⟩ := hSw; go_simp; (try with_reducible rfl))
              (try simp only [Act.put, List.setIfInBounds_toArray, List.set_cons_zero, List.set_cons_succ, List.getElem_toArray, List.getElem_cons_zero, List.getElem_cons_succ])
              refine wpAnyH_take (i := 31) (v := ?vd31) rfl (by kernel_rfl) (by kernel_rfl) (by kernel_rfl) (fun _ _ _ h => h) (Or.inl ⟨by rfl, ?hyd31⟩) (by assumption) ?restd31
              case hyd31 => (intro w_ hSw; (try dsimp only at hSw); obtain ⟨_, c0_, c1_, c2_, c3_, c4_⟩ := hSw; go_simp; (try with_reducible rfl))
              (try simp only [Act.put, List.setIfInBounds_toArray, List.set_cons_zero, List.set_cons_succ, List.getElem_toArray, List.getElem_cons_zero, List.getElem_cons_succ])
              refine wpAnyH_take (i := 32) (v := ?vd32) rfl (by kernel_rfl) (by kernel_rfl) (by kernel_rfl) (fun _ _ _ h => h) (Or.inl ⟨by rfl, ?hyd32⟩) (by assumption) ?restd32
              case hyd32 => (intro w_ hSw; (try dsimp only at hSw); obtain ⟨_, c0_, c1_, c2_, c3_, c4_⟩ := hSw; go_simp; (try with_reducible rfl))
              (try simp only [Act.put, List.setIfInBounds_toArray, List.set_cons_zero, List.set_cons_succ, List.getElem_toArray, List.getElem_cons_zero, List.getElem_cons_succ])
              refine wpAnyH_take (i := 35) (v := ?vd35) rfl (by kernel_rfl) (by kernel_rfl) (by kernel_rfl) (fun _ _ _ h => h) (Or.inl ⟨by rfl, ?hyd35⟩) (by assumption) ?restd35
              case hyd35 => (intro w_ hSw; (try dsimp only at hSw); obtain ⟨_, c0_, c1_, c2_, c3_, c4_⟩ := hSw; go_simp; (try with_reducible rfl))
              (try simp only [Act.put, List.setIfInBounds_toArray, List.set_cons_zero, List.set_cons_succ, List.getElem_toArray, List.getElem_cons_zero, List.getElem_cons_succ])
              refine wpAnyH_take (i := 36) (v := ?vd36) rfl (by kernel_rfl) (by kernel_rfl) (by kernel_rfl) (fun _ _ _ h => h) (Or.inl ⟨by rfl, ?hyd36⟩) (by assumption) ?restd36
              case hyd36 => (intro w_ hSw; (try dsimp only at hSw); obtain ⟨_, c0_, c1_, c2_, c3_, c4_⟩ := hSw; go_simp; (try with_reducible rfl))
              (try simp only [Act.put, List.setIfInBounds_toArray, List.set_cons_zero, List.set_cons_succ, List.getElem_toArray, List.getElem_cons_zero, List.getElem_cons_succ])
              refine wpAnyH_ready (rs := [33]) (by kernel_rfl) (by simp) ?_
              refine (AllReadyH.cons rfl (fun K hK => ?_) AllReadyH.nil)
              go_simp
              refine (rclimb_any l (some ad) n c x0 _ _ (HRD.out.low_ hHeld6.1) (Nat.le_refl _) (by omega)).mono ?_
              rintro e wb ⟨v, rfl, hown, hbb⟩
              rw [hRR] at hown
              obtain ⟨Av, cv, rfl⟩ := own_slice hown
              dsimp only
              refine hK.out _ _ ?hSd33 (fun hHeld33 => ?_)
              case hSd33 => exact hHeld6.step hbb had
              clear hK K hbb hown
              (try simp only [Act.put, List.setIfInBounds_toArray, List.set_cons_zero, List.set_cons_succ, List.getElem_toArray, List.getElem_cons_zero, List.getElem_cons_succ])
              refine wpAnyH_take (i := 34) (v := ?vd34) rfl (by kernel_rfl) (by kernel_rfl) (by kernel_rfl) (fun _ _ _ h => h) (Or.inl ⟨by rfl, ?hyd34⟩) (by assumption) ?restd34
              case hyd34 => (intro w_ hSw; (try dsimp only at hSw); obtain ⟨_, c0_, c1_, c2_, c3_, c4_⟩ := hSw; go_simp; (try with_reducible rfl))
              (try simp only [Act.put, List.setIfInBounds_toArray, List.set_cons_zero, List.set_cons_succ, List.getElem_toArray, List.getElem_cons_zero, List.getElem_cons_succ])
              refine wpAnyH_take (i := 37) (v := ?vd37) rfl (by kernel_rfl) (by kernel_rfl) (by kernel_rfl) (fun _ _ _ h => h) (Or.inl ⟨by rfl, ?hyd37⟩) (by assumption) ?restd37
              case hyd37 => (intro w_ hSw; (try dsimp only at hSw); obtain ⟨_, c0_, c1_, c2_, c3_, c4_⟩ := hSw; go_simp; (try with_reducible rfl))
              (try simp only [Act.put, List.setIfInBounds_toArray, List.set_cons_zero, List.set_cons_succ, List.getElem_toArray, List.getElem_cons_zero, List.getElem_cons_succ])
              refine wpAnyH_take (i := 38) (v := ?vd38) rfl (by kernel_rfl) (by kernel_rfl) (by kernel_rfl) (fun _ _ _ h => h) (Or.inl ⟨by rfl, ?hyd38⟩) (by assumption) ?restd38
              case hyd38 => (intro w_ hSw; (try dsimp only at hSw); obtain ⟨_, c0_, c1_, c2_, c3_, c4_⟩ := hSw; go_simp; (try with_reducible rfl))
              (try simp only [Act.put, List.setIfInBounds_toArray, List.set_cons_zero, List.set_cons_succ, List.getElem_toArray, List.getElem_cons_zero, List.getElem_cons_succ])
              refine wpAnyH_done (by kernel_rfl) ?_ _
              clear hwq
              have hb1 := below_two hbr hHeld33.1
              clear hHeld hHeld6 hHeld33
              by_cases hcl : RL ≤ n
              case pos =>
                have r1 : decide ((n : Int) < (RL : Int)) = false := by rw [decide_eq_false_iff_not]; omega
                have r2 : ¬ n < RL := by omega
                have F := Lib.hid (allR_step HD.out (HAE.out.trans (decide_eq_true hcl)))
                clear hcl hRR
                go_wp2_with fail
                exact ⟨⟨(q + 1) + 1, by omega, by go_num, F.out, hb1⟩, by simp [intOf]; omega⟩
              case neg =>
                have r1 : decide ((n : Int) < (RL : Int)) = true := by rw [decide_eq_true_eq]; omega
                have r2 : n < RL := by omega
                have F : Hid (chartR l g = false) := chartR_no (by rw [HL.out]; exact hlt) (HAE.out.trans (decide_eq_false hcl))
                clear hcl hRR
                go_wp2_with fail
                go_ret
                exact ⟨ret_bool (by rw [HG.out, F.out]), hb1⟩
/-- what a round of the program's Valid has before it -/
def ChT (w2 : World) (b : Nat) (ad : Addr) (q : Nat) (x0 x1 x2 x3 pc : Int) (W : World) : Prop := Below w2.heap.size w2 W ∧ W.cell? ⟨b, 0, none⟩ = some (.int .i64 x0) ∧ W.cell? ⟨b, 1, none⟩ = some (.int .i64 x1) ∧ W.cell? ⟨b, 2, none⟩ = some (.int .i64 x2) ∧ W.cell? ⟨b, 3, none⟩ = some (.int .i64 x3) ∧ W.cell? (ad.add (q * 4)) = some (.int .i64 pc)
theorem ChT.step {w2 W W' : World} {b : Nat} {ad : Addr} {q : Nat} {x0 x1 x2 x3 pc : Int} (h : ChT w2 b ad q x0 x1 x2 x3 pc W) (hb : Below W.heap.size W W') (had : ad.block < w2.heap.size) (hbb : b < w2.heap.size) : ChT w2 b ad q x0 x1 x2 x3 pc W' := by
  obtain ⟨h0, h1, h2, h3, h4, h5⟩ := h
  have hs := h0.size
  refine ⟨below_two h0 hb, (hb.cell (p := ⟨b, 0, none⟩) (by show b < _; omega)).trans h1, (hb.cell (p := ⟨b, 1, none⟩) (by show b < _; omega)).trans h2, (hb.cell (p := ⟨b, 2, none⟩) (by show b < _; omega)).trans h3, (hb.cell (p := ⟨b, 3, none⟩) (by show b < _; omega)).trans h4, (hb.cell (by rw [block_of_add]; omega)).trans h5⟩
theorem mem_find {l : List SAcc} {k : Nat} (h : k < l.length) : ∃ b, findA l (l.getD k default).code = some b := findA_some (getD_memA h)
set_option maxRecDepth 100000 in
set_option maxHeartbeats 8000000 in
theorem chart_any (l : List SAcc) (A : Option Addr) (n c : Nat) (g : Bool) (B : Nat) (w : World) (hr : Reads w B 4 A n (accsC l)) (hB : B ≤ w.heap.size) (hn : n ≤ 1000) (hok : ∀ x ∈ l, AccOk x) :
    Calls Tryz.prog 81 #[.slice A n c, .bool g] w fun e w' => e = .returned (.bool (chartP l g)) ∧ Below w.heap.size w w' := by
  have HL := Lib.hid (accs_len hr)
  have HR := Lib.hid hr
  have HOK := Lib.hid hok
  clear hr hok
  generalize hgo : chartP l g = ok
  have HG := Lib.hid hgo.symm
  clear hgo
  go_enter Tryz.func81, Tryz.ntmps81
  go_wp2_with fail
  go_loopw [9] (fun i wr => ∃ k : Nat, k ≤ n ∧ i = .int .i64 k ∧ (List.range k).all (chartAtP l g) = true ∧ Below w.heap.size w wr) (fun i _ => n - (intOf i).toNat)
  case atStart => exact ⟨0, by omega, rfl, rfl, Below.refl _ _⟩
  case round =>
    obtain ⟨k, hk, rfl, hd, hbr⟩ := hrel
    obtain ⟨wo, rfl⟩ : ∃ wo : World, wo = wr := ⟨_, rfl⟩
    have HD := Lib.hid hd
    clear hd
    by_cases hlt : k < n
    case neg =>
      have k3 : decide ((k : Int) < (n : Int)) = false := by rw [decide_eq_false_iff_not]; omega
      by_cases h200 : n ≤ 200
      all_goals
        have F : Hid (chartP l g = decide (n ≤ 200)) := by
          show _ = _
          unfold chartP
          rw [HL.out, show n = k by omega, HD.out]; rfl
      · have h2 : decide ((n : Int) ≤ 200) = true := by rw [decide_eq_true_eq]; omega
        rw [decide_eq_true h200] at F
        clear h200
        go_wp2_with fail
        go_ret
        exact ⟨ret_bool (by rw [HG.out, F.out]), hbr⟩
      · have h2 : decide ((n : Int) ≤ 200) = false := by rw [decide_eq_false_iff_not]; omega
        rw [decide_eq_false h200] at F
        clear h200
        go_wp2_with fail
        go_ret
        exact ⟨ret_bool (by rw [HG.out, F.out]), hbr⟩
    case pos =>
      have k3 : decide ((k : Int) < (n : Int)) = true := by rw [decide_eq_true_eq]; omega
      have HRD := Lib.hid ((HR.out.lowg hB (Nat.le_refl _) hbr).more (B' := wo.heap.size) (by have := hbr.size; omega))
      have hat := HRD.out.acc_at hlt
      obtain ⟨ad, rfl, had, c0, c1, c2, c3⟩ := hat
      have HRD := HRD
      have hpv : wo.cell? (ad.add ((k - 1) * 4)) = some (.int .i64 (l.getD (k - 1) default).code) := by
        obtain ⟨ad', e, _, d0, _⟩ := HRD.out.acc_at (k := k - 1) (by omega)
        injection e with e
        rw [e]; exact d0
      have HPV0 := Lib.hid hpv
      clear hpv
      have HIL := Lib.hid (mem_find (l := l) (k := k) (by rw [HL.out]; exact hlt))
      have HX := Lib.hid (HOK.out _ (getD_memA (l := l) (i := k) (by rw [HL.out]; exact hlt))).1
      have HAT : Hid (chartAtP l g k = (ascAt l k && properP l g (l.getD k default))) := rfl
      have HAS : Hid (ascAt l k = (decide (k = 0) || decide ((l.getD (k - 1) default).code < (l.getD k default).code))) := rfl
      generalize (l.getD (k - 1) default).code = pc at *
      generalize l.getD k default = x at *
      obtain ⟨x0, x1, x2, x3⟩ := x
      simp only [] at c0 c1 c2 c3 HAT HAS HIL HX
      obtain ⟨pv, hpv⟩ : ∃ pv, properP l g ⟨x0, x1, x2, x3⟩ = pv := ⟨_, rfl⟩
      rw [hpv] at HAT
      have HPV := Lib.hid hpv
      have hs1 := hbr.size
      have HB2 := Lib.hid (hbr.alloc hs1 (.cells #[.int .i64 x0, .int .i64 x1, .int .i64 x2, .int .i64 x3] 42))
      have HRD2 := Lib.hid ((HRD.out.alloc (Nat.le_refl _) (.cells #[.int .i64 x0, .int .i64 x1, .int .i64 x2, .int .i64 x3] 42)).more (B' := (wo.alloc (.cells #[.int .i64 x0, .int .i64 x1, .int .i64 x2, .int .i64 x3] 42)).heap.size) (by simp))
      have hs2 : (wo.alloc (.cells #[.int .i64 x0, .int .i64 x1, .int .i64 x2, .int .i64 x3] 42)).heap.size = wo.heap.size + 1 := by simp
      obtain ⟨y0, y1, y2, y3⟩ := acc_blk (Blk.new wo 42 #[.int .i64 x0, .int .i64 x1, .int .i64 x2, .int .i64 x3])
      have HS : Hid (ChT (wo.alloc (.cells #[.int .i64 x0, .int .i64 x1, .int .i64 x2, .int .i64 x3] 42)) wo.heap.size ad (k - 1) x0 x1 x2 x3 pc (wo.alloc (.cells #[.int .i64 x0, .int .i64 x1, .int .i64 x2, .int .i64 x3] 42)).drew) :=
        ⟨below_drew (Below.refl _ _), y0, y1, y2, y3, (World.cell?_alloc_lt wo _ _ (by rw [block_of_add]; exact had)).trans HPV0.out⟩
      clear y0 y1 y2 y3 hpv
      by_cases hk0 : k = 0
      case pos =>
        have kz : decide ((0 : Int) < (k : Int)) = false := by rw [decide_eq_false_iff_not]; omega
        have kz2 : decide (0 < k) = false := by rw [decide_eq_false_iff_not]; omega
        have HAE : Hid (chartAtP l g k = pv) := by show _ = _; rw [HAT.out, HAS.out, decide_eq_true hk0]; simp
        clear hk0 HAT HAS
        go_upto_region 4 with fail
        generalize wo.alloc _ = w2 at *
        refine wp_region_held_drew (S := ChT w2 wo.heap.size ad (k - 1) x0 x1 x2 x3 pc) (by kernel_rfl) HS.out (fun hHeld => ?_)
        refine wpAnyH_take (i := 0) (v := ?vz0) rfl (by kernel_rfl) (by kernel_rfl) (by kernel_rfl) (fun _ _ _ h => h) (Or.inl ⟨by rfl, ?hyz0⟩) (by assumption) ?restz0
        case hyz0 => (intro w_ hSw; (try dsimp only at hSw); obtain ⟨_, c0_, c1_, c2_, c3_, c4_⟩ := hSw; go_simp; (try with_reducible rfl))
        (try simp only [Act.put, List.setIfInBounds_toArray, List.set_cons_zero, List.set_cons_succ, List.getElem_toArray, List.getElem_cons_zero, List.getElem_cons_succ])
        refine wpAnyH_take (i := 1) (v := ?vz1) rfl (by kernel_rfl) (by kernel_rfl) (by kernel_rfl) (fun _ _ _ h => h) (Or.inl ⟨by rfl, ?hyz1⟩) (by assumption) ?restz1
        case hyz1 => (intro w_ hSw; (try dsimp only at hSw); obtain ⟨_, c0_, c1_, c2_, c3_, c4_⟩ := hSw; go_simp; (try with_reducible rfl))
        (try simp only [Act.put, List.setIfInBounds_toArray, List.set_cons_zero, List.set_cons_succ, List.getElem_toArray, List.getElem_cons_zero, List.getElem_cons_succ])
        refine wpAnyH_take (i := 2) (v := ?vz2) rfl (by kernel_rfl) (by kernel_rfl) (by kernel_rfl) (fun _ _ _ h => h) (Or.inl ⟨by rfl, ?hyz2⟩) (by assumption) ?restz2
        case hyz2 => (intro w_ hSw; (try dsimp only at hSw); obtain ⟨_, c0_, c1_, c2_, c3_, c4_⟩ := hSw; go_simp; (try with_reducible rfl))
        (try simp only [Act.put, List.setIfInBounds_toArray, List.set_cons_zero, List.set_cons_succ, List.getElem_toArray, List.getElem_cons_zero, List.getElem_cons_succ])
        refine wpAnyH_take (i := 3) (v := undef) rfl (by kernel_rfl) (by kernel_rfl) (by kernel_rfl) (fun _ _ _ h => h) (Or.inr ⟨by rfl, rfl⟩) (by assumption) ?restz3
        (try simp only [Act.put, List.setIfInBounds_toArray, List.set_cons_zero, List.set_cons_succ, List.getElem_toArray, List.getElem_cons_zero, List.getElem_cons_succ])
        refine wpAnyH_take (i := 4) (v := undef) rfl (by kernel_rfl) (by kernel_rfl) (by kernel_rfl) (fun _ _ _ h => h) (Or.inr ⟨by rfl, rfl⟩) (by assumption) ?restz4
        (try simp only [Act.put, List.setIfInBounds_toArray, List.set_cons_zero, List.set_cons_succ, List.getElem_toArray, List.getElem_cons_zero, List.getElem_cons_succ])
        refine wpAnyH_take (i := 5) (v := undef) rfl (by kernel_rfl) (by kernel_rfl) (by kernel_rfl) (fun _ _ _ h => h) (Or.inr ⟨by rfl, rfl⟩) (by assumption) ?restz5
        (try simp only [Act.put, List.setIfInBounds_toArray, List.set_cons_zero, List.set_cons_succ, List.getElem_toArray, List.getElem_cons_zero, List.getElem_cons_succ])
        refine wpAnyH_take (i := 6) (v := undef) rfl (by kernel_rfl) (by kernel_rfl) (by kernel_rfl) (fun _ _ _ h => h) (Or.inr ⟨by rfl, rfl⟩) (by assumption) ?restz6
        (try simp only [Act.put, List.setIfInBounds_toArray, List.set_cons_zero, List.set_cons_succ, List.getElem_toArray, List.getElem_cons_zero, List.getElem_cons_succ])
        refine wpAnyH_take (i := 7) (v := undef) rfl (by kernel_rfl) (by kernel_rfl) (by kernel_rfl) (fun _ _ _ h => h) (Or.inr ⟨by rfl, rfl⟩) (by assumption) ?restz7
        (try simp only [Act.put, List.setIfInBounds_toArray, List.set_cons_zero, List.set_cons_succ, List.getElem_toArray, List.getElem_cons_zero, List.getElem_cons_succ])
        refine wpAnyH_take (i := 8) (v := undef) rfl (by kernel_rfl) (by kernel_rfl) (by kernel_rfl) (fun _ _ _ h => h) (Or.inr ⟨by rfl, rfl⟩) (by assumption) ?restz8
        (try simp only [Act.put, List.setIfInBounds_toArray, List.set_cons_zero, List.set_cons_succ, List.getElem_toArray, List.getElem_cons_zero, List.getElem_cons_succ])
        refine wpAnyH_take (i := 9) (v := undef) rfl (by kernel_rfl) (by kernel_rfl) (by kernel_rfl) (fun _ _ _ h => h) (Or.inr ⟨by rfl, rfl⟩) (by assumption) ?restz9
        (try simp only [Act.put, List.setIfInBounds_toArray, List.set_cons_zero, List.set_cons_succ, List.getElem_toArray, List.getElem_cons_zero, List.getElem_cons_succ])
        refine wpAnyH_take (i := 10) (v := undef) rfl (by kernel_rfl) (by kernel_rfl) (by kernel_rfl) (fun _ _ _ h => h) (Or.inr ⟨by rfl, rfl⟩) (by assumption) ?restz10
        (try simp only [Act.put, List.setIfInBounds_toArray, List.set_cons_zero, List.set_cons_succ, List.getElem_toArray, List.getElem_cons_zero, List.getElem_cons_succ])
        refine wpAnyH_take (i := 11) (v := undef) rfl (by kernel_rfl) (by kernel_rfl) (by kernel_rfl) (fun _ _ _ h => h) (Or.inr ⟨by rfl, rfl⟩) (by assumption) ?restz11
        (try simp only [Act.put, List.setIfInBounds_toArray, List.set_cons_zero, List.set_cons_succ, List.getElem_toArray, List.getElem_cons_zero, List.getElem_cons_succ])
        refine wpAnyH_take (i := 12) (v := ?vz12) rfl (by kernel_rfl) (by kernel_rfl) (by kernel_rfl) (fun _ _ _ h => h) (Or.inl ⟨by rfl, ?hyz12⟩) (by assumption) ?restz12
        case hyz12 => (intro w_ hSw; (try dsimp only at hSw); obtain ⟨_, c0_, c1_, c2_, c3_, c4_⟩ := hSw; go_simp; (try with_reducible rfl))
        (try simp only [Act.put, List.setIfInBounds_toArray, List.set_cons_zero, List.set_cons_succ, List.getElem_toArray, List.getElem_cons_zero, List.getElem_cons_succ])
        refine wpAnyH_take (i := 13) (v := ?vz13) rfl (by kernel_rfl) (by kernel_rfl) (by kernel_rfl) (fun _ _ _ h => h) (Or.inl ⟨by rfl, ?hyz13⟩) (by assumption) ?restz13
        case hyz13 => (intro w_ hSw; (try dsimp only at hSw); obtain ⟨_, c0_, c1_, c2_, c3_, c4_⟩ := hSw; go_simp; (try with_reducible rfl))
        (try simp only [Act.put, List.setIfInBounds_toArray, List.set_cons_zero, List.set_cons_succ, List.getElem_toArray, List.getElem_cons_zero, List.getElem_cons_succ])
        refine wpAnyH_take (i := 14) (v := ?vz14) rfl (by kernel_rfl) (by kernel_rfl) (by kernel_rfl) (fun _ _ _ h => h) (Or.inl ⟨by rfl, ?hyz14⟩) (by assumption) ?restz14
        case hyz14 => (intro w_ hSw; (try dsimp only at hSw); obtain ⟨_, c0_, c1_, c2_, c3_, c4_⟩ := hSw; go_simp; (try with_reducible rfl))
        (try simp only [Act.put, List.setIfInBounds_toArray, List.set_cons_zero, List.set_cons_succ, List.getElem_toArray, List.getElem_cons_zero, List.getElem_cons_succ])
        refine wpAnyH_take (i := 15) (v := ?vz15) rfl (by kernel_rfl) (by kernel_rfl) (by kernel_rfl) (fun _ _ _ h => h) (Or.inl ⟨by rfl, ?hyz15⟩) (by assumption) ?restz15
        case hyz15 => (intro w_ hSw; (try dsimp only at hSw); obtain ⟨_, c0_, c1_, c2_, c3_, c4_⟩ := hSw; go_simp; (try with_reducible rfl))
        (try simp only [Act.put, List.setIfInBounds_toArray, List.set_cons_zero, List.set_cons_succ, List.getElem_toArray, List.getElem_cons_zero, List.getElem_cons_succ])
        refine wpAnyH_take (i := 16) (v := ?vz16) rfl (by kernel_rfl) (by kernel_rfl) (by kernel_rfl) (fun _ _ _ h => h) (Or.inl ⟨by rfl, ?hyz16⟩) (by assumption) ?restz16
        case hyz16 => (intro w_ hSw; (try dsimp only at hSw); obtain ⟨_, c0_, c1_, c2_, c3_, c4_⟩ := hSw; go_simp; (try with_reducible rfl))
        (try simp only [Act.put, List.setIfInBounds_toArray, List.set_cons_zero, List.set_cons_succ, List.getElem_toArray, List.getElem_cons_zero, List.getElem_cons_succ])
        refine wpAnyH_ready (rs := [17]) (by kernel_rfl) (by simp) ?_
        refine (AllReadyH.cons rfl (fun K hK => ?_) AllReadyH.nil)
        go_simp
        refine (proper_anyP l (some ad) n c ⟨x0, x1, x2, x3⟩ g _ _ (HRD2.out.low_ hHeld.1) (Nat.le_refl _) (by omega) HOK.out HIL.out HX.out).mono ?_
        rintro e wa ⟨rfl, hba⟩
        rw [HPV.out]
        dsimp only
        refine hK.out _ _ ?hSz17 (fun hHeld17 => ?_)
        case hSz17 => exact hHeld.step hba (by omega) (by omega)
        clear hK K hba
        (try simp only [Act.put, List.setIfInBounds_toArray, List.set_cons_zero, List.set_cons_succ, List.getElem_toArray, List.getElem_cons_zero, List.getElem_cons_succ])
        refine wpAnyH_take (i := 18) (v := ?vz18) rfl (by kernel_rfl) (by kernel_rfl) (by kernel_rfl) (fun _ _ _ h => h) (Or.inl ⟨by rfl, ?hyz18⟩) (by assumption) ?restz18
        case hyz18 => (intro w_ hSw; (try dsimp only at hSw); obtain ⟨_, c0_, c1_, c2_, c3_, c4_⟩ := hSw; go_simp; (try with_reducible rfl))
        (try simp only [Act.put, List.setIfInBounds_toArray, List.set_cons_zero, List.set_cons_succ, List.getElem_toArray, List.getElem_cons_zero, List.getElem_cons_succ])
        refine wpAnyH_take (i := 19) (v := ?vz19) rfl (by kernel_rfl) (by kernel_rfl) (by kernel_rfl) (fun _ _ _ h => h) (Or.inl ⟨by rfl, ?hyz19⟩) (by assumption) ?restz19
        case hyz19 => (intro w_ hSw; (try dsimp only at hSw); obtain ⟨_, c0_, c1_, c2_, c3_, c4_⟩ := hSw; go_simp; (try with_reducible rfl))
        (try simp only [Act.put, List.setIfInBounds_toArray, List.set_cons_zero, List.set_cons_succ, List.getElem_toArray, List.getElem_cons_zero, List.getElem_cons_succ])
        refine wpAnyH_done (by kernel_rfl) ?_ _
        have hb1 : Below w.heap.size w wa := below_two HB2.out hHeld17.1
        clear hHeld hHeld17
        cases pv
        case false =>
          have F : Hid (chartP l g = false) := chartP_no (k := k) (by rw [HL.out]; exact hlt) HAE.out
          go_wp2_with fail
          go_ret
          exact ⟨ret_bool (by rw [HG.out, F.out]), hb1⟩
        case true =>
          have F := Lib.hid (allR_step HD.out HAE.out)
          go_wp2_with fail
          exact ⟨⟨k + 1, by omega, by go_num, F.out, hb1⟩, by simp [intOf]; omega⟩
      case neg =>
        obtain ⟨q, rfl⟩ : ∃ q, k = q + 1 := ⟨k - 1, by omega⟩
        have kz : decide ((0 : Int) < ((q + 1 : Nat) : Int)) = true := by rw [decide_eq_true_eq]; omega
        rw [Nat.add_sub_cancel] at HS
        have hq0 : (0 : Int) ≤ (q : Int) + 1 := by omega
        have hq1 : (q : Int) + 1 < (n : Int) := by omega
        have hq2 : (q : Int) < (n : Int) := by omega
        by_cases hle : x0 ≤ pc
        case pos =>
          have l1 : decide (x0 ≤ pc) = true := decide_eq_true hle
          have F : Hid (chartP l g = false) := chartP_no (k := q + 1) (by rw [HL.out]; exact hlt) (by rw [HAT.out, HAS.out, decide_eq_false (by omega : ¬ (q + 1 = 0)), decide_eq_false (by omega : ¬ pc < x0)]; rfl)
          clear hk0 HAT HAS hle
          go_upto_region 4 with fail
          generalize wo.alloc _ = w2 at *
          have hwq : IntKind.i64.wrap (q : Int) = (q : Int) := IntWalk.i64_in _ (by omega)
          refine wp_region_held_drew (S := ChT w2 wo.heap.size ad q x0 x1 x2 x3 pc) (by kernel_rfl) HS.out (fun hHeld => ?_)
          refine wpAnyH_take (i := 0) (v := ?vy0) rfl (by kernel_rfl) (by kernel_rfl) (by kernel_rfl) (fun _ _ _ h => h) (Or.inl ⟨by rfl, ?hyy0⟩) (by assumption) ?resty0
          case hyy0 => (intro w_ hSw; (try dsimp only at hSw); obtain ⟨_, c0_, c1_, c2_, c3_, c4_⟩ := hSw; go_simp; (try with_reducible rfl))
          (try simp only [Act.put, List.setIfInBounds_toArray, List.set_cons_zero, List.set_cons_succ, List.getElem_toArray, List.getElem_cons_zero, List.getElem_cons_succ])
          refine wpAnyH_take (i := 1) (v := ?vy1) rfl (by kernel_rfl) (by kernel_rfl) (by kernel_rfl) (fun _ _ _ h => h) (Or.inl ⟨by rfl, ?hyy1⟩) (by assumption) ?resty1
          case hyy1 => (intro w_ hSw; (try dsimp only at hSw); obtain ⟨_, c0_, c1_, c2_, c3_, c4_⟩ := hSw; go_simp; (try with_reducible rfl))
          (try simp only [Act.put, List.setIfInBounds_toArray, List.set_cons_zero, List.set_cons_succ, List.getElem_toArray, List.getElem_cons_zero, List.getElem_cons_succ])
          refine wpAnyH_take (i := 2) (v := ?vy2) rfl (by kernel_rfl) (by kernel_rfl) (by kernel_rfl) (fun _ _ _ h => h) (Or.inl ⟨by rfl, ?hyy2⟩) (by assumption) ?resty2
          case hyy2 => (intro w_ hSw; (try dsimp only at hSw); obtain ⟨_, c0_, c1_, c2_, c3_, c4_⟩ := hSw; go_simp; (try with_reducible rfl))
          (try simp only [Act.put, List.setIfInBounds_toArray, List.set_cons_zero, List.set_cons_succ, List.getElem_toArray, List.getElem_cons_zero, List.getElem_cons_succ])
          refine wpAnyH_take (i := 3) (v := ?vy3) rfl (by kernel_rfl) (by kernel_rfl) (by kernel_rfl) (fun _ _ _ h => h) (Or.inl ⟨by rfl, ?hyy3⟩) (by assumption) ?resty3
          case hyy3 => (intro w_ hSw; (try dsimp only at hSw); obtain ⟨_, c0_, c1_, c2_, c3_, c4_⟩ := hSw; go_simp; (try with_reducible rfl))
          (try simp only [Act.put, List.setIfInBounds_toArray, List.set_cons_zero, List.set_cons_succ, List.getElem_toArray, List.getElem_cons_zero, List.getElem_cons_succ])
          refine wpAnyH_take (i := 4) (v := ?vy4) rfl (by kernel_rfl) (by kernel_rfl) (by kernel_rfl) (fun _ _ _ h => h) (Or.inl ⟨by rfl, ?hyy4⟩) (by assumption) ?resty4
          case hyy4 => (intro w_ hSw; (try dsimp only at hSw); obtain ⟨_, c0_, c1_, c2_, c3_, c4_⟩ := hSw; go_simp; (try with_reducible rfl))
          (try simp only [Act.put, List.setIfInBounds_toArray, List.set_cons_zero, List.set_cons_succ, List.getElem_toArray, List.getElem_cons_zero, List.getElem_cons_succ])
          refine wpAnyH_take (i := 5) (v := ?vy5) rfl (by kernel_rfl) (by kernel_rfl) (by kernel_rfl) (fun _ _ _ h => h) (Or.inl ⟨by rfl, ?hyy5⟩) (by assumption) ?resty5
          case hyy5 => (intro w_ hSw; (try dsimp only at hSw); obtain ⟨_, c0_, c1_, c2_, c3_, c4_⟩ := hSw; go_simp; (try with_reducible rfl))
          (try simp only [Act.put, List.setIfInBounds_toArray, List.set_cons_zero, List.set_cons_succ, List.getElem_toArray, List.getElem_cons_zero, List.getElem_cons_succ])
          refine wpAnyH_take (i := 6) (v := ?vy6) rfl (by kernel_rfl) (by kernel_rfl) (by kernel_rfl) (fun _ _ _ h => h) (Or.inl ⟨by rfl, ?hyy6⟩) (by assumption) ?resty6
          case hyy6 => (intro w_ hSw; (try dsimp only at hSw); obtain ⟨_, c0_, c1_, c2_, c3_, c4_⟩ := hSw; go_simp; (try with_reducible rfl))
          (try simp only [Act.put, List.setIfInBounds_toArray, List.set_cons_zero, List.set_cons_succ, List.getElem_toArray, List.getElem_cons_zero, List.getElem_cons_succ])
          refine wpAnyH_take (i := 7) (v := ?vy7) rfl (by kernel_rfl) (by kernel_rfl) (by kernel_rfl) (fun _ _ _ h => h) (Or.inl ⟨by rfl, ?hyy7⟩) (by assumption) ?resty7
          case hyy7 => (intro w_ hSw; (try dsimp only at hSw); obtain ⟨_, c0_, c1_, c2_, c3_, c4_⟩ := hSw; go_simp; (try with_reducible rfl))
          (try simp only [Act.put, List.setIfInBounds_toArray, List.set_cons_zero, List.set_cons_succ, List.getElem_toArray, List.getElem_cons_zero, List.getElem_cons_succ])
          refine wpAnyH_take (i := 8) (v := ?vy8) rfl (by kernel_rfl) (by kernel_rfl) (by kernel_rfl) (fun _ _ _ h => h) (Or.inl ⟨by rfl, ?hyy8⟩) (by assumption) ?resty8
          case hyy8 => (intro w_ hSw; (try dsimp only at hSw); obtain ⟨_, c0_, c1_, c2_, c3_, c4_⟩ := hSw; go_simp; (try with_reducible rfl))
          (try simp only [Act.put, List.setIfInBounds_toArray, List.set_cons_zero, List.set_cons_succ, List.getElem_toArray, List.getElem_cons_zero, List.getElem_cons_succ])
          refine wpAnyH_take (i := 9) (v := ?vy9) rfl (by kernel_rfl) (by kernel_rfl) (by kernel_rfl) (fun _ _ _ h => h) (Or.inl ⟨by rfl, ?hyy9⟩) (by assumption) ?resty9
          case hyy9 => (intro w_ hSw; (try dsimp only at hSw); obtain ⟨_, c0_, c1_, c2_, c3_, c4_⟩ := hSw; go_simp; (try with_reducible rfl))
          (try simp only [Act.put, List.setIfInBounds_toArray, List.set_cons_zero, List.set_cons_succ, List.getElem_toArray, List.getElem_cons_zero, List.getElem_cons_succ])
          refine wpAnyH_take (i := 10) (v := ?vy10) rfl (by kernel_rfl) (by kernel_rfl) (by kernel_rfl) (fun _ _ _ h => h) (Or.inl ⟨by rfl, ?hyy10⟩) (by assumption) ?resty10
          case hyy10 => (intro w_ hSw; (try dsimp only at hSw); obtain ⟨_, c0_, c1_, c2_, c3_, c4_⟩ := hSw; go_simp; (try with_reducible rfl))
          (try simp only [Act.put, List.setIfInBounds_toArray, List.set_cons_zero, List.set_cons_succ, List.getElem_toArray, List.getElem_cons_zero, List.getElem_cons_succ])
          refine wpAnyH_take (i := 11) (v := ?vy11) rfl (by kernel_rfl) (by kernel_rfl) (by kernel_rfl) (fun _ _ _ h => h) (Or.inl ⟨by rfl, ?hyy11⟩) (by assumption) ?resty11
          case hyy11 => (intro w_ hSw; (try dsimp only at hSw); obtain ⟨_, c0_, c1_, c2_, c3_, c4_⟩ := hSw; go_simp; (try with_reducible rfl))
          (try simp only [Act.put, List.setIfInBounds_toArray, List.set_cons_zero, List.set_cons_succ, List.getElem_toArray, List.getElem_cons_zero, List.getElem_cons_succ])
          refine wpAnyH_take (i := 12) (v := ?vy12) rfl (by kernel_rfl) (by kernel_rfl) (by kernel_rfl) (fun _ _ _ h => h) (Or.inl ⟨by rfl, ?hyy12⟩) (by assumption) ?resty12
          case hyy12 => (intro w_ hSw; (try dsimp only at hSw); obtain ⟨_, c0_, c1_, c2_, c3_, c4_⟩ := hSw; go_simp; (try with_reducible rfl))
          (try simp only [Act.put, List.setIfInBounds_toArray, List.set_cons_zero, List.set_cons_succ, List.getElem_toArray, List.getElem_cons_zero, List.getElem_cons_succ])
          refine wpAnyH_take (i := 13) (v := ?vy13) rfl (by kernel_rfl) (by kernel_rfl) (by kernel_rfl) (fun _ _ _ h => h) (Or.inl ⟨by rfl, ?hyy13⟩) (by assumption) ?resty13
          case hyy13 => (intro w_ hSw; (try dsimp only at hSw); obtain ⟨_, c0_, c1_, c2_, c3_, c4_⟩ := hSw; go_simp; (try with_reducible rfl))
          (try simp only [Act.put, List.setIfInBounds_toArray, List.set_cons_zero, List.set_cons_succ, List.getElem_toArray, List.getElem_cons_zero, List.getElem_cons_succ])
          refine wpAnyH_take (i := 14) (v := undef) rfl (by kernel_rfl) (by kernel_rfl) (by kernel_rfl) (fun _ _ _ h => h) (Or.inr ⟨by rfl, rfl⟩) (by assumption) ?resty14
          (try simp only [Act.put, List.setIfInBounds_toArray, List.set_cons_zero, List.set_cons_succ, List.getElem_toArray, List.getElem_cons_zero, List.getElem_cons_succ])
          refine wpAnyH_take (i := 15) (v := undef) rfl (by kernel_rfl) (by kernel_rfl) (by kernel_rfl) (fun _ _ _ h => h) (Or.inr ⟨by rfl, rfl⟩) (by assumption) ?resty15
          (try simp only [Act.put, List.setIfInBounds_toArray, List.set_cons_zero, List.set_cons_succ, List.getElem_toArray, List.getElem_cons_zero, List.getElem_cons_succ])
          refine wpAnyH_take (i := 16) (v := undef) rfl (by kernel_rfl) (by kernel_rfl) (by kernel_rfl) (fun _ _ _ h => h) (Or.inr ⟨by rfl, rfl⟩) (by assumption) ?resty16
          (try simp only [Act.put, List.setIfInBounds_toArray, List.set_cons_zero, List.set_cons_succ, List.getElem_toArray, List.getElem_cons_zero, List.getElem_cons_succ])
          refine wpAnyH_take (i := 17) (v := undef) rfl (by kernel_rfl) (by kernel_rfl) (by kernel_rfl) (fun _ _ _ h => h) (Or.inr ⟨by rfl, rfl⟩) (by assumption) ?resty17
          (try simp only [Act.put, List.setIfInBounds_toArray, List.set_cons_zero, List.set_cons_succ, List.getElem_toArray, List.getElem_cons_zero, List.getElem_cons_succ])
          refine wpAnyH_take (i := 18) (v := undef) rfl (by kernel_rfl) (by kernel_rfl) (by kernel_rfl) (fun _ _ _ h => h) (Or.inr ⟨by rfl, rfl⟩) (by assumption) ?resty18
          (try simp only [Act.put, List.setIfInBounds_toArray, List.set_cons_zero, List.set_cons_succ, List.getElem_toArray, List.getElem_cons_zero, List.getElem_cons_succ])
          refine wpAnyH_take (i := 19) (v := ?vy19) rfl (by kernel_rfl) (by kernel_rfl) (by kernel_rfl) (fun _ _ _ h => h) (Or.inl ⟨by rfl, ?hyy19⟩) (by assumption) ?resty19
          case hyy19 => (intro w_ hSw; (try dsimp only at hSw); obtain ⟨_, c0_, c1_, c2_, c3_, c4_⟩ := hSw; go_simp; (try with_reducible rfl))
          (try simp only [Act.put, List.setIfInBounds_toArray, List.set_cons_zero, List.set_cons_succ, List.getElem_toArray, List.getElem_cons_zero, List.getElem_cons_succ])
          refine wpAnyH_done (by kernel_rfl) ?_ _
          clear hwq
          have hb1 := HB2.out
          clear hHeld
          go_wp2_with fail
          go_ret
          exact ⟨ret_bool (by rw [HG.out, F.out]), below_drew hb1⟩
        case neg =>
          have l1 : decide (x0 ≤ pc) = false := decide_eq_false hle
          have HAE : Hid (chartAtP l g (q + 1) = pv) := by show _ = _; rw [HAT.out, HAS.out, decide_eq_false (by omega : ¬ (q + 1 = 0)), decide_eq_true (by omega : pc < x0)]; simp
          clear hk0 HAT HAS hle
          go_upto_region 4 with fail
          generalize wo.alloc _ = w2 at *
          have hwq : IntKind.i64.wrap (q : Int) = (q : Int) := IntWalk.i64_in _ (by omega)
          refine wp_region_held_drew (S := ChT w2 wo.heap.size ad q x0 x1 x2 x3 pc) (by kernel_rfl) HS.out (fun hHeld => ?_)
          refine wpAnyH_take (i := 0) (v := ?vx0) rfl (by kernel_rfl) (by kernel_rfl) (by kernel_rfl) (fun _ _ _ h => h) (Or.inl ⟨by rfl, ?hyx0⟩) (by assumption) ?restx0
          case hyx0 => (intro w_ hSw; (try dsimp only at hSw); obtain ⟨_, c0_, c1_, c2_, c3_, c4_⟩ := hSw; go_simp; (try with_reducible rfl))
          (try simp only [Act.put, List.setIfInBounds_toArray, List.set_cons_zero, List.set_cons_succ, List.getElem_toArray, List.getElem_cons_zero, List.getElem_cons_succ])
          refine wpAnyH_take (i := 1) (v := ?vx1) rfl (by kernel_rfl) (by kernel_rfl) (by kernel_rfl) (fun _ _ _ h => h) (Or.inl ⟨by rfl, ?hyx1⟩) (by assumption) ?restx1
          case hyx1 => (intro w_ hSw; (try dsimp only at hSw); obtain ⟨_, c0_, c1_, c2_, c3_, c4_⟩ := hSw; go_simp; (try with_reducible rfl))
          (try simp only [Act.put, List.setIfInBounds_toArray, List.set_cons_zero, List.set_cons_succ, List.getElem_toArray, List.getElem_cons_zero, List.getElem_cons_succ])
          refine wpAnyH_take (i := 2) (v := ?vx2) rfl (by kernel_rfl) (by kernel_rfl) (by kernel_rfl) (fun _ _ _ h => h) (Or.inl ⟨by rfl, ?hyx2⟩) (by assumption) ?restx2
          case hyx2 => (intro w_ hSw; (try dsimp only at hSw); obtain ⟨_, c0_, c1_, c2_, c3_, c4_⟩ := hSw; go_simp; (try with_reducible rfl))
          (try simp only [Act.put, List.setIfInBounds_toArray, List.set_cons_zero, List.set_cons_succ, List.getElem_toArray, List.getElem_cons_zero, List.getElem_cons_succ])
          refine wpAnyH_take (i := 3) (v := ?vx3) rfl (by kernel_rfl) (by kernel_rfl) (by kernel_rfl) (fun _ _ _ h => h) (Or.inl ⟨by rfl, ?hyx3⟩) (by assumption) ?restx3
          case hyx3 => (intro w_ hSw; (try dsimp only at hSw); obtain ⟨_, c0_, c1_, c2_, c3_, c4_⟩ := hSw; go_simp; (try with_reducible rfl))
          (try simp only [Act.put, List.setIfInBounds_toArray, List.set_cons_zero, List.set_cons_succ, List.getElem_toArray, List.getElem_cons_zero, List.getElem_cons_succ])
          refine wpAnyH_take (i := 4) (v := ?vx4) rfl (by kernel_rfl) (by kernel_rfl) (by kernel_rfl) (fun _ _ _ h => h) (Or.inl ⟨by rfl, ?hyx4⟩) (by assumption) ?restx4
          case hyx4 => (intro w_ hSw; (try dsimp only at hSw); obtain ⟨_, c0_, c1_, c2_, c3_, c4_⟩ := hSw; go_simp; (try with_reducible rfl))
          (try simp only [Act.put, List.setIfInBounds_toArray, List.set_cons_zero, List.set_cons_succ, List.getElem_toArray, List.getElem_cons_zero, List.getElem_cons_succ])
          refine wpAnyH_take (i := 5) (v := ?vx5) rfl (by kernel_rfl) (by kernel_rfl) (by kernel_rfl) (fun _ _ _ h => h) (Or.inl ⟨by rfl, ?hyx5⟩) (by assumption) ?restx5
          case hyx5 => (intro w_ hSw; (try dsimp only at hSw); obtain ⟨_, c0_, c1_, c2_, c3_, c4_⟩ := hSw; go_simp; (try with_reducible rfl))
          (try simp only [Act.put, List.setIfInBounds_toArray, List.set_cons_zero, List.set_cons_succ, List.getElem_toArray, List.getElem_cons_zero, List.getElem_cons_succ])
          refine wpAnyH_take (i := 6) (v := ?vx6) rfl (by kernel_rfl) (by kernel_rfl) (by kernel_rfl) (fun _ _ _ h => h) (Or.inl ⟨by rfl, ?hyx6⟩) (by assumption) ?restx6
          case hyx6 => (intro w_ hSw; (try dsimp only at hSw); obtain ⟨_, c0_, c1_, c2_, c3_, c4_⟩ := hSw; go_simp; (try with_reducible rfl))
          (try simp only [Act.put, List.setIfInBounds_toArray, List.set_cons_zero, List.set_cons_succ, List.getElem_toArray, List.getElem_cons_zero, List.getElem_cons_succ])
          refine wpAnyH_take (i := 7) (v := ?vx7) rfl (by kernel_rfl) (by kernel_rfl) (by kernel_rfl) (fun _ _ _ h => h) (Or.inl ⟨by rfl, ?hyx7⟩) (by assumption) ?restx7
          case hyx7 => (intro w_ hSw; (try dsimp only at hSw); obtain ⟨_, c0_, c1_, c2_, c3_, c4_⟩ := hSw; go_simp; (try with_reducible rfl))
          (try simp only [Act.put, List.setIfInBounds_toArray, List.set_cons_zero, List.set_cons_succ, List.getElem_toArray, List.getElem_cons_zero, List.getElem_cons_succ])
          refine wpAnyH_take (i := 8) (v := ?vx8) rfl (by kernel_rfl) (by kernel_rfl) (by kernel_rfl) (fun _ _ _ h => h) (Or.inl ⟨by rfl, ?hyx8⟩) (by assumption) ?restx8
          case hyx8 => (intro w_ hSw; (try dsimp only at hSw); obtain ⟨_, c0_, c1_, c2_, c3_, c4_⟩ := hSw; go_simp; (try with_reducible rfl))
          (try simp only [Act.put, List.setIfInBounds_toArray, List.set_cons_zero, List.set_cons_succ, List.getElem_toArray, List.getElem_cons_zero, List.getElem_cons_succ])
          refine wpAnyH_take (i := 9) (v := ?vx9) rfl (by kernel_rfl) (by kernel_rfl) (by kernel_rfl) (fun _ _ _ h => h) (Or.inl ⟨by rfl, ?hyx9⟩) (by assumption) ?restx9
          case hyx9 => (intro w_ hSw; (try dsimp only at hSw); obtain ⟨_, c0_, c1_, c2_, c3_, c4_⟩ := hSw; go_simp; (try with_reducible rfl))
          (try simp only [Act.put, List.setIfInBounds_toArray, List.set_cons_zero, List.set_cons_succ, List.getElem_toArray, List.getElem_cons_zero, List.getElem_cons_succ])
          refine wpAnyH_take (i := 10) (v := ?vx10) rfl (by kernel_rfl) (by kernel_rfl) (by kernel_rfl) (fun _ _ _ h => h) (Or.inl ⟨by rfl, ?hyx10⟩) (by assumption) ?restx10
          case hyx10 => (intro w_ hSw; (try dsimp only at hSw); obtain ⟨_, c0_, c1_, c2_, c3_, c4_⟩ := hSw; go_simp; (try with_reducible rfl))
          (try simp only [Act.put, List.setIfInBounds_toArray, List.set_cons_zero, List.set_cons_succ, List.getElem_toArray, List.getElem_cons_zero, List.getElem_cons_succ])
          refine wpAnyH_take (i := 11) (v := ?vx11) rfl (by kernel_rfl) (by kernel_rfl) (by kernel_rfl) (fun _ _ _ h => h) (Or.inl ⟨by rfl, ?hyx11⟩) (by assumption) ?restx11
          case hyx11 => (intro w_ hSw; (try dsimp only at hSw); obtain ⟨_, c0_, c1_, c2_, c3_, c4_⟩ := hSw; go_simp; (try with_reducible rfl))
          (try simp only [Act.put, List.setIfInBounds_toArray, List.set_cons_zero, List.set_cons_succ, List.getElem_toArray, List.getElem_cons_zero, List.getElem_cons_succ])
          refine wpAnyH_take (i := 12) (v := ?vx12) rfl (by kernel_rfl) (by kernel_rfl) (by kernel_rfl) (fun _ _ _ h => h) (Or.inl ⟨by rfl, ?hyx12⟩) (by assumption) ?restx12
          case hyx12 => (intro w_ hSw; (try dsimp only at hSw); obtain ⟨_, c0_, c1_, c2_, c3_, c4_⟩ := hSw; go_simp; (try with_reducible rfl))
          (try simp only [Act.put, List.setIfInBounds_toArray, List.set_cons_zero, List.set_cons_succ, List.getElem_toArray, List.getElem_cons_zero, List.getElem_cons_succ])
          refine wpAnyH_take (i := 13) (v := ?vx13) rfl (by kernel_rfl) (by kernel_rfl) (by kernel_rfl) (fun _ _ _ h => h) (Or.inl ⟨by rfl, ?hyx13⟩) (by assumption) ?restx13
          case hyx13 => (intro w_ hSw; (try dsimp only at hSw); obtain ⟨_, c0_, c1_, c2_, c3_, c4_⟩ := hSw; go_simp; (try with_reducible rfl))
          (try simp only [Act.put, List.setIfInBounds_toArray, List.set_cons_zero, List.set_cons_succ, List.getElem_toArray, List.getElem_cons_zero, List.getElem_cons_succ])
          refine wpAnyH_take (i := 14) (v := ?vx14) rfl (by kernel_rfl) (by kernel_rfl) (by kernel_rfl) (fun _ _ _ h => h) (Or.inl ⟨by rfl, ?hyx14⟩) (by assumption) ?restx14
          case hyx14 => (intro w_ hSw; (try dsimp only at hSw); obtain ⟨_, c0_, c1_, c2_, c3_, c4_⟩ := hSw; go_simp; (try with_reducible rfl))
          (try simp only [Act.put, List.setIfInBounds_toArray, List.set_cons_zero, List.set_cons_succ, List.getElem_toArray, List.getElem_cons_zero, List.getElem_cons_succ])
          refine wpAnyH_take (i := 15) (v := ?vx15) rfl (by kernel_rfl) (by kernel_rfl) (by kernel_rfl) (fun _ _ _ h => h) (Or.inl ⟨by rfl, ?hyx15⟩) (by assumption) ?restx15
          case hyx15 => (intro w_ hSw; (try dsimp only at hSw); obtain ⟨_, c0_, c1_, c2_, c3_, c4_⟩ := hSw; go_simp; (try with_reducible rfl))
          (try simp only [Act.put, List.setIfInBounds_toArray, List.set_cons_zero, List.set_cons_succ, List.getElem_toArray, List.getElem_cons_zero, List.getElem_cons_succ])
          refine wpAnyH_take (i := 16) (v := ?vx16) rfl (by kernel_rfl) (by kernel_rfl) (by kernel_rfl) (fun _ _ _ h => h) (Or.inl ⟨by rfl, ?hyx16⟩) (by assumption) ?restx16
          case hyx16 => (intro w_ hSw; (try dsimp only at hSw); obtain ⟨_, c0_, c1_, c2_, c3_, c4_⟩ := hSw; go_simp; (try with_reducible rfl))
          (try simp only [Act.put, List.setIfInBounds_toArray, List.set_cons_zero, List.set_cons_succ, List.getElem_toArray, List.getElem_cons_zero, List.getElem_cons_succ])
          refine wpAnyH_ready (rs := [17]) (by kernel_rfl) (by simp) ?_
          refine (AllReadyH.cons rfl (fun K hK => ?_) AllReadyH.nil)
          go_simp
          refine (proper_anyP l (some ad) n c ⟨x0, x1, x2, x3⟩ g _ _ (HRD2.out.low_ hHeld.1) (Nat.le_refl _) (by omega) HOK.out HIL.out HX.out).mono ?_
          rintro e wa ⟨rfl, hba⟩
          rw [HPV.out]
          dsimp only
          refine hK.out _ _ ?hSx17 (fun hHeld17 => ?_)
          case hSx17 => exact hHeld.step hba (by omega) (by omega)
          clear hK K hba
          (try simp only [Act.put, List.setIfInBounds_toArray, List.set_cons_zero, List.set_cons_succ, List.getElem_toArray, List.getElem_cons_zero, List.getElem_cons_succ])
          refine wpAnyH_take (i := 18) (v := ?vx18) rfl (by kernel_rfl) (by kernel_rfl) (by kernel_rfl) (fun _ _ _ h => h) (Or.inl ⟨by rfl, ?hyx18⟩) (by assumption) ?restx18
          case hyx18 => (intro w_ hSw; (try dsimp only at hSw); obtain ⟨_, c0_, c1_, c2_, c3_, c4_⟩ := hSw; go_simp; (try with_reducible rfl))
          (try simp only [Act.put, List.setIfInBounds_toArray, List.set_cons_zero, List.set_cons_succ, List.getElem_toArray, List.getElem_cons_zero, List.getElem_cons_succ])
          refine wpAnyH_take (i := 19) (v := ?vx19) rfl (by kernel_rfl) (by kernel_rfl) (by kernel_rfl) (fun _ _ _ h => h) (Or.inl ⟨by rfl, ?hyx19⟩) (by assumption) ?restx19
          case hyx19 => (intro w_ hSw; (try dsimp only at hSw); obtain ⟨_, c0_, c1_, c2_, c3_, c4_⟩ := hSw; go_simp; (try with_reducible rfl))
          (try simp only [Act.put, List.setIfInBounds_toArray, List.set_cons_zero, List.set_cons_succ, List.getElem_toArray, List.getElem_cons_zero, List.getElem_cons_succ])
          refine wpAnyH_done (by kernel_rfl) ?_ _
          clear hwq
          have hb1 : Below w.heap.size w wa := below_two HB2.out hHeld17.1
          clear hHeld hHeld17
          cases pv
          case false =>
            have F : Hid (chartP l g = false) := chartP_no (k := (q + 1)) (by rw [HL.out]; exact hlt) HAE.out
            go_wp2_with fail
            go_ret
            exact ⟨ret_bool (by rw [HG.out, F.out]), hb1⟩
          case true =>
            have F := Lib.hid (allR_step HD.out HAE.out)
            go_wp2_with fail
            exact ⟨⟨(q + 1) + 1, by omega, by go_num, F.out, hb1⟩, by simp [intOf]; omega⟩
end Go.Proofs.YtcmmppkmkejniaaGreatDoor
