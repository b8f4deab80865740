/-
  The reference's put: where the key belongs (the walk of its search and of the store in place).
-/
import Derived.Test.YtfnlddloalineaaGreatDoorRunB
import Derived.Test.YtfnlddloalineaaGreatDoorRunC
namespace Go.Proofs.YtfnlddloalineaaGreatDoor
open Go.RowKit
set_option linter.unusedVariables false
set_option linter.unusedSimpArgs false
set_option maxRecDepth 100000
theorem grown_drewN {x y : World} {row : Option Nat} (n : Nat) (h : (x.drewN n).grownBy y row) : x.grownBy y row := ⟨h.os, h.tape, h.output, h.size, h.block⟩
theorem grown_setAt (w : World) (b j : Nat) (v : Value) : w.grownBy (w.setCell ⟨b, j, none⟩ v) (some b) := ⟨rfl, rfl, rfl, by simp, fun k _ hne => heap_setCell_other w _ k v (fun e => hne (by rw [e]))⟩
theorem drewN_two (w : World) (a b : Nat) : (w.drewN a).drewN b = w.drewN (a + b) := by unfold World.drewN; simp [Nat.add_assoc]
/-- a cell of an own row is set -/
theorem own_set {w : World} {base : Nat} {e : TypeId} {size n c g j : Nat} {xs : List Value} (h : w.ownsRow base e size (.slice (some ⟨g, 0, none⟩) n c) n xs) (hj : j < n * size) (u : Value) : (w.setCell ⟨g, j, none⟩ u).ownsRow base e size (.slice (some ⟨g, 0, none⟩) n c) n (xs.set j u) := by
  obtain ⟨hl, ⟨hv, _⟩ | ⟨g', cap, cur, hv, hb, hc, h1, h2, h3, h4⟩⟩ := h
  · exact absurd hv (by simp)
  · have hg : g = g' := by injection hv with e1; injection e1 with e2; injection e2
    subst hg
    refine ⟨by rw [List.length_set]; exact hl, .inr ⟨g, cap, cur.setIfInBounds j u, hv, hb, ?_, h1, h2, by rw [Array.size_setIfInBounds]; exact h3, ?_⟩⟩
    · have := heap_setCell_same w g j cur e u hc
      simpa using this
    · rw [Array.toList_setIfInBounds, List.take_set, h4]
theorem own_cap {w : World} {base : Nat} {e : TypeId} {size n c : Nat} {A : Option Addr} {xs : List Value} (h : w.ownsRow base e size (.slice A n c) n xs) (hn : 0 < n) : n ≤ c ∧ c ≤ maxLen := by
  obtain ⟨hl, ⟨_, h0⟩ | ⟨g', cap, cur, hv, hb, hc, h1, h2, h3, h4⟩⟩ := h
  · omega
  · have : c = cap := by injection hv
    subst this
    exact ⟨h1, h2⟩
theorem own_nil {w : World} {base : Nat} {e : TypeId} {size n c : Nat} {xs : List Value} (h : w.ownsRow base e size (.slice none n c) n xs) : n = 0 ∧ c = 0 := by
  obtain ⟨hl, ⟨hv, h0⟩ | ⟨g', cap, cur, hv, hb, hc, h1, h2, h3, h4⟩⟩ := h
  · exact ⟨h0, by injection hv⟩
  · exact absurd hv (by simp)
theorem own_cap0 {w : World} {base : Nat} {e : TypeId} {size n c : Nat} {ad : Addr} {xs : List Value} (h : w.ownsRow base e size (.slice (some ad) n c) n xs) : n ≤ c ∧ c ≤ maxLen := by
  obtain ⟨hl, ⟨hv, h0⟩ | ⟨g', cap, cur, hv, hb, hc, h1, h2, h3, h4⟩⟩ := h
  · exact absurd hv (by simp)
  · have : c = cap := by injection hv
    subst this
    exact ⟨h1, h2⟩
theorem reads_nil (w : World) (B size : Nat) (A : Option Addr) {xs : List Value} (h : xs.length = 0) : Reads w B size A 0 xs := ⟨by rw [h]; simp, fun h => absurd h (by omega)⟩
theorem addr_block (a : Addr) (k : Nat) : (a.add k).block = a.block := by unfold Addr.add; split <;> rfl
theorem own_thaw {w : World} {base : Nat} {e : TypeId} {size n c : Nat} {ad : Addr} {xs : List Value} (h : w.ownsRow base e size (.slice (some ad) n c) n xs) : ad.off = 0 ∧ ad.spot = none ∧ ∀ j, w.frozen? ⟨ad.block, j, none⟩ = false := by
  obtain ⟨hl, ⟨hv, _⟩ | ⟨g', cap, cur, hv, hb, hc, h1, h2, h3, h4⟩⟩ := h
  · exact absurd hv (by simp)
  · have hg : ad = ⟨g', 0, none⟩ := by injection hv with e1; injection e1
    subst hg
    exact ⟨rfl, rfl, fun j => by simp [World.frozen?, hc]⟩
theorem rrows_set (l : List RRow) (k : Nat) (x : Int) (hk : k < l.length) : (rrowsC l).set (k * 2 + 1) (.int .i64 x) = rrowsC (l.set k { l.getD k default with val := x }) := by
  induction l generalizing k with
  | nil => simp at hk
  | cons r t ih =>
    cases k with
    | zero => rfl
    | succ k =>
      have := ih k (by simpa using hk)
      rw [show (k + 1) * 2 + 1 = k * 2 + 1 + 2 by omega]
      show (.slice r.A r.n r.c :: .int .i64 r.val :: rrowsC t : List Value).set (k * 2 + 1 + 1 + 1) _ = _
      rw [List.set_cons_succ, List.set_cons_succ, this]
      rfl
theorem row_emptyU (w : World) (e : TypeId) (S : Nat) : (w.alloc (.cells #[] e)).ownsRow w.heap.size e S (.slice (some ⟨w.heap.size, 0, none⟩) 0 0) 0 [] :=
  ⟨by simp, .inr ⟨w.heap.size, 0, #[], rfl, Nat.le_refl _, (MapKept.heap_alloc w _).1, Nat.le_refl _, Nat.zero_le _, by simp, by simp⟩⟩
theorem rrows_one (l : List RRow) : ∀ u ∈ rrowsC l, u.oneCell' = true := by
  intro u hu
  obtain ⟨r, _, h⟩ := List.mem_flatMap.1 hu
  exact two_one _ _ _ _ u h
theorem add_add (a : Addr) (m j : Nat) : (a.add m).add j = a.add (m + j) := by
  unfold Addr.add
  by_cases h : m = 0
  · subst h; simp
  · by_cases hj : j = 0
    · subst hj; simp
    · rw [if_neg h, if_neg hj, if_neg (show ¬ m + j = 0 by omega)]
      simp only [Nat.add_assoc]
theorem Reads.tail3 {w : World} {B size n : Nat} {ad : Addr} {xs : List Value} (h : Reads w B size (some ad) n xs) {p : Nat} (hp : p ≤ n) : Reads w B size (some (ad.add (p * size))) (n - p) (xs.drop (p * size)) := by
  refine ⟨by rw [List.length_drop, h.1, Nat.sub_mul], fun h0 => ?_⟩
  obtain ⟨ad', e, hb, hc⟩ := h.2 (by omega)
  have e2 : ad' = ad := by injection e with e; exact e.symm
  subst e2
  refine ⟨_, rfl, by rw [addr_block]; exact hb, fun j u hu => ?_⟩
  rw [List.getElem?_drop] at hu
  rw [add_add]
  exact hc _ _ hu
/-- a list of rows whose keys can be read -/
def RIn (w : World) (nb : Nat) (rs : List RRow) : Prop := ∀ j, j < rs.length → (rs.getD j default).n = nb ∧ (rs.getD j default).ks.length = nb ∧ RdBy w w.heap.size (rs.getD j default).A (rs.getD j default).ks
instance (a b : List Int) : Decidable (cmpL a b < 0) := inferInstance
def lessAt (rs : List RRow) (ks : List Int) (j : Nat) : Prop := cmpL (rs.getD j default).ks ks < 0
theorem reads_past {w w' : World} {B size n gN : Nat} {row : Option Nat} {xs : List Value} (h : Reads w B size (some ⟨gN, 0, none⟩) n xs) (hg : w.grownBy w' row) (hne : row ≠ some gN) (hl : gN < w.heap.size) : Reads w' B size (some ⟨gN, 0, none⟩) n xs := by
  refine ⟨h.1, fun h0 => ?_⟩
  obtain ⟨ad, e, hb, hc⟩ := h.2 h0
  have e2 : ad = ⟨gN, 0, none⟩ := by injection e with e; exact e.symm
  subst e2
  refine ⟨_, rfl, hb, fun j u hu => ?_⟩
  exact (World.cell?_of_block (by rw [addr_block]; exact hg.block gN hl (fun e => hne e.symm))).trans (hc j u hu)
theorem put_new {w w' : World} {b k p nb c : Nat} {v : Value} {A : Option Addr} {ks : List Int} {x : Int} {rs : List RRow} (h : w'.ownsRow b 128 2 v (0 + p + 1 + (k - p)) ((([] ++ (rrowsC rs).take (p * 2)) ++ [.slice A nb c, .int .i64 x]) ++ (rrowsC rs).drop (p * 2))) (hk : rs.length = k) (hb : b = w.heap.size) (hp : p ≤ k) :
    w'.ownsRow w.heap.size 128 2 v (rs.length + 1) (rrowsC (rs.take p ++ ⟨A, nb, c, ks, x⟩ :: rs.drop p)) := by
  have e : 0 + p + 1 + (k - p) = rs.length + 1 := by omega
  rw [e, hb, List.nil_append, List.append_assoc] at h
  rw [rrows_cat, rrows_take2]
  show w'.ownsRow _ _ _ _ _ (_ ++ (rrowC ⟨A, nb, c, ks, x⟩ ++ rrowsC (rs.drop p)))
  rw [rrows_drop2]
  exact h
/-- what put answers -/
def PutSays (rs : List RRow) (ks : List Int) (x : Int) (A : Option Addr) (n c base : Nat) (v : Value) (w : World) (e : Ending) (w' : World) : Prop :=
  ∃ i, i ≤ rs.length ∧ (∀ j, j < i → lessAt rs ks j) ∧ (i < rs.length → ¬ lessAt rs ks i) ∧
    ((i < rs.length ∧ ¬ cmpL ks (rs.getD i default).ks < 0 ∧ e = .returned v ∧ w'.ownsRow base 128 2 v rs.length (rrowsC (rs.set i { rs.getD i default with val := (rs.getD i default).val + x })) ∧ w.grownBy w' v.ownBlock) ∨
     ((i < rs.length → cmpL ks (rs.getD i default).ks < 0) ∧ ∃ v' ks', e = .returned v' ∧ w'.ownsRow w.heap.size 128 2 v' (rs.length + 1) (rrowsC (rs.take i ++ ⟨A, n, c, ks', x⟩ :: rs.drop i)) ∧ Below w.heap.size w w'))
set_option maxHeartbeats 1500000 in
theorem put_any (rs : List RRow) (Al : Option Addr) (k cl base nb : Nat) (A : Option Addr) (c : Nat) (ks : List Int) (x : Int) (w : World) (ho : w.ownsRow base 128 2 (.slice Al k cl) k (rrowsC rs)) (hl : rs.length = k) (hk : k ≤ 100000) (hr : RIn w nb rs) (hks : RdBy w w.heap.size A ks) (hn : ks.length = nb) (hnb : nb ≤ 1000) (hsm : ∀ j, j < rs.length → (rs.getD j default).val + x ≤ 4611686018427387904 ∧ -4611686018427387904 ≤ (rs.getD j default).val + x) :
    Calls Tryz.prog 67 #[.slice Al k cl, .slice A nb c, .int .i64 x] w fun e w' => PutSays rs ks x A nb c base (.slice Al k cl) w e w' := by
  obtain ⟨i0, hi0, hz0, hz1, hz2⟩ := info_parts info_rrow
  have HO := Lib.hid ho
  have HL := Lib.hid hl
  have HR := Lib.hid hr
  have HK := Lib.hid hks
  have HN := Lib.hid hn
  clear ho hl hr hks hn
  go_enter Tryz.func67, Tryz.ntmps67
  go_wp2_with fail
  go_loopw [7] (fun i y => ∃ p m : Nat, p ≤ k ∧ i = .int .i64 (p : Int) ∧ y = w.drewN m ∧ ∀ j, j < p → lessAt rs ks j) (fun i _ => k - (intOf i).toNat)
  case atStart => exact ⟨0, 0, Nat.zero_le _, rfl, rfl, fun j h => by omega⟩
  case round =>
    obtain ⟨p, m, hp, rfl, hw, hd⟩ := hrel
    have HD := Lib.hid hd
    have HW := Lib.hid hw
    clear hd
    by_cases hlt : p < k
    · have k1 : decide ((p : Int) < (k : Int)) = true := by rw [decide_eq_true_eq]; omega
      have k4 : (p : Int) < (k : Int) := by omega
      obtain ⟨ad, rfl, had, hkl, b0, bj⟩ := (Reads.of_own HO.out).row_at rrowC (fun _ => rfl) (by decide) hlt
      have HRJ := Lib.hid (HR.out p (by have := HL.out; omega))
      have HNX : Hid (lessAt rs ks p → ∀ j, j < p + 1 → lessAt rs ks j) := fun h j hj => by
        by_cases e : j = p
        · rw [e]; exact h
        · exact HD.out j (by omega)
      have b1 := bj 1 (by decide) (by decide)
      clear bj
      have HNY : Hid (∀ b : Bool, decide (cmpL (rs.getD p default).ks ks < 0) = b → b = false → ¬ lessAt rs ks p) := fun b h1 h2 h3 => by
        rw [h2] at h1
        exact of_decide_eq_false h1 h3
      have HNZ : Hid (∀ b : Bool, decide (cmpL (rs.getD p default).ks ks < 0) = b → b = true → lessAt rs ks p) := fun b h1 h2 => by
        rw [h2] at h1
        show cmpL (rs.getD p default).ks ks < 0
        exact of_decide_eq_true h1
      have HCALL : Hid (Calls Tryz.prog 95 #[.slice (rs.getD p default).A nb (rs.getD p default).c, .slice A nb c] (w.drewN m) fun e w' => e = .returned (.bool (decide (cmpL (rs.getD p default).ks ks < 0))) ∧ ∃ m2, w' = (w.drewN m).drewN m2) := less_any _ _ _ _ nb _ _ w.heap.size (w.drewN m) (fun h => HRJ.out.2.2 h) (fun h => HK.out h) HRJ.out.2.1 HN.out hnb
      have HCALL2 : Hid (∀ m3, Calls Tryz.prog 95 #[.slice A nb c, .slice (rs.getD p default).A nb (rs.getD p default).c] (w.drewN m3) fun e w' => e = .returned (.bool (decide (cmpL ks (rs.getD p default).ks < 0))) ∧ ∃ m2, w' = (w.drewN m3).drewN m2) := fun m3 => less_any _ _ _ _ nb _ _ w.heap.size (w.drewN m3) (fun h => HK.out h) (fun h => HRJ.out.2.2 h) HN.out HRJ.out.2.1 hnb
      have hrn := HRJ.out.1
      have c0 : wr.cell? (ad.add (p * 2)) = some (.slice (rs.getD p default).A nb (rs.getD p default).c) := by rw [hw, ← hrn]; exact b0
      have c1 : wr.cell? ⟨(ad.add (p * 2)).block, (ad.add (p * 2)).off + 1, none⟩ = some (.int .i64 (rs.getD p default).val) := by rw [hw]; exact b1
      rw [← hw] at HCALL
      clear b0 b1 hrn hw
      have HSM := Lib.hid (hsm p hkl)
      clear hsm hkl HRJ
      generalize hrr : rs.getD p default = rr at *
      have HRR := Lib.hid hrr
      clear hrr
      generalize hb1 : decide (cmpL rr.ks ks < 0) = q1 at *
      have HB1 := Lib.hid hb1
      clear hb1
      go_wp2_with fail
      refine HCALL.out.mono ?_
      rintro e w2 ⟨rfl, m2, hw2⟩
      have HW2 := Lib.hid hw2
      cases q1 with
      | true =>
        have F := Lib.hid (HNX.out (HNZ.out true rfl rfl))
        clear hw2
        go_wp2_with fail
        go_roundw
        case rel => exact ⟨p + 1, m + m2, by omega, by go_num, by rw [HW2.out, HW.out, drewN_two], F.out⟩
        case measure => simp [intOf]; omega
      | false =>
        have HWW : Hid (w2 = w.drewN (m + m2)) := by show _ = _; rw [HW2.out, HW.out, drewN_two]
        have d0 : w2.cell? (ad.add (p * 2)) = some (.slice rr.A nb rr.c) := by rw [HW2.out]; exact c0
        have d1 : w2.cell? ⟨(ad.add (p * 2)).block, (ad.add (p * 2)).off + 1, none⟩ = some (.int .i64 rr.val) := by rw [HW2.out]; exact c1
        have HC3 := Lib.hid (HCALL2.out (m + m2))
        rw [← HWW.out] at HC3
        have HNL : Hid (¬ lessAt rs ks p) := HNY.out false rfl rfl
        clear hw2 c0 c1 HCALL HCALL2 HNZ HNY HNX
        generalize hb2 : decide (cmpL ks rr.ks < 0) = q2 at *
        have HB2 := Lib.hid hb2
        clear hb2
        go_wp2_with fail
        refine HC3.out.mono ?_
        rintro e w3 ⟨rfl, m4, hw3⟩
        have HW3 : Hid (w3 = w.drewN (m + m2 + m4)) := by show _ = _; rw [hw3, HWW.out, drewN_two]
        have e1 : w3.cell? ⟨(ad.add (p * 2)).block, (ad.add (p * 2)).off + 1, none⟩ = some (.int .i64 rr.val) := by rw [hw3]; exact d1
        clear hw3 d0 d1
        cases q2 with
        | false =>
          have h1 := HSM.out.1
          have h2 := HSM.out.2
          have hfz : w3.frozen? ⟨(ad.add (p * 2)).block, (ad.add (p * 2)).off + 1, none⟩ = false := by rw [HW3.out, addr_block]; exact (own_thaw HO.out).2.2 _
          go_wp2_with fail
          go_ret
          have hll := HL.out
          obtain ⟨z1, z2, _⟩ := own_thaw HO.out
          have eA : (⟨(ad.add (p * 2)).block, (ad.add (p * 2)).off + 1, none⟩ : Addr) = ⟨ad.block, p * 2 + 1, none⟩ := by
            rw [addr_block]
            congr 1
            unfold Addr.add
            split
            · rw [z1]; omega
            · show ad.off + p * 2 + 1 = _
              omega
          rw [eA, HW3.out]
          have hA : ad = ⟨ad.block, 0, none⟩ := by rw [← z1, ← z2]
          refine ⟨p, by omega, HD.out, fun _ => HNL.out, .inl ⟨by omega, by rw [HRR.out]; exact of_decide_eq_false HB2.out, rfl, ?_, ?_⟩⟩
          · rw [← rrows_set _ _ _ (by omega), HRR.out, hll]
            have := own_set (g := ad.block) (j := p * 2 + 1) (hA ▸ own_below HO.out (below_drewN (Below.refl _ _) (m + m2 + m4))) (by omega) (.int .i64 (rr.val + x))
            rw [← hA] at this
            exact this
          · exact grown_drewN (m + m2 + m4) (grown_setAt _ _ _ _)
        | true =>
          have hlk : rs.length = k := HL.out
          have hcl : k ≤ cl ∧ cl ≤ maxLen := own_cap HO.out (by omega)
          have hcl1 := hcl.1
          have hcl2 := hcl.2
          have hpc : p ≤ cl := by omega
          have hpn : ¬ cl = p := by omega
          have HBW : Hid (Below w.heap.size w w3) := by rw [HW3.out]; exact below_drewN (Below.refl _ _) _
          have hw3s : w3.heap.size = w.heap.size := by rw [HW3.out]; rfl
          have HRD := Lib.hid (Reads.of_own HO.out)
          have HONE : Hid (∀ u ∈ rrowsC rs, u.oneCell' = true) := rrows_one rs
          go_upto_region 7 with fail
          refine wp_region_held_drew (S := fun _ => True) (by kernel_rfl) trivial (fun hHeld => ?_)
          refine wpAnyH_take (i := 1) (v := ?va1) rfl (by kernel_rfl) (by kernel_rfl) (by kernel_rfl) (fun _ _ _ h => h) (Or.inl ⟨by rfl, ?hya1⟩) (by assumption) ?resta1
          case hya1 => (intro w_ hSw; (try dsimp only at hSw); obtain _ := hSw; go_simp; (try with_reducible rfl))
          (try simp only [Act.put, List.setIfInBounds_toArray, List.set_cons_zero, List.set_cons_succ, List.getElem_toArray, List.getElem_cons_zero, List.getElem_cons_succ])
          refine wpAnyH_take (i := 2) (v := ?va2) rfl (by kernel_rfl) (by kernel_rfl) (by kernel_rfl) (fun _ _ _ h => h) (Or.inl ⟨by rfl, ?hya2⟩) (by assumption) ?resta2
          case hya2 => (intro w_ hSw; (try dsimp only at hSw); obtain _ := hSw; go_simp; (try with_reducible rfl))
          (try simp only [Act.put, List.setIfInBounds_toArray, List.set_cons_zero, List.set_cons_succ, List.getElem_toArray, List.getElem_cons_zero, List.getElem_cons_succ])
          refine wpAnyH_take (i := 3) (v := ?va3) rfl (by kernel_rfl) (by kernel_rfl) (by kernel_rfl) (fun _ _ _ h => h) (Or.inl ⟨by rfl, ?hya3⟩) (by assumption) ?resta3
          case hya3 => (intro w_ hSw; (try dsimp only at hSw); obtain _ := hSw; go_simp; (try with_reducible rfl))
          (try simp only [Act.put, List.setIfInBounds_toArray, List.set_cons_zero, List.set_cons_succ, List.getElem_toArray, List.getElem_cons_zero, List.getElem_cons_succ])
          refine wpAnyH_take (i := 5) (v := ?va5) rfl (by kernel_rfl) (by kernel_rfl) (by kernel_rfl) (fun _ _ _ h => h) (Or.inl ⟨by rfl, ?hya5⟩) (by assumption) ?resta5
          case hya5 => (intro w_ hSw; (try dsimp only at hSw); obtain _ := hSw; go_simp; (try with_reducible rfl))
          (try simp only [Act.put, List.setIfInBounds_toArray, List.set_cons_zero, List.set_cons_succ, List.getElem_toArray, List.getElem_cons_zero, List.getElem_cons_succ])
          refine wpAnyH_take (i := 6) (v := ?va6) rfl (by kernel_rfl) (by kernel_rfl) (by kernel_rfl) (fun _ _ _ h => h) (Or.inl ⟨by rfl, ?hya6⟩) (by assumption) ?resta6
          case hya6 => (intro w_ hSw; (try dsimp only at hSw); obtain _ := hSw; go_simp; (try with_reducible rfl))
          (try simp only [Act.put, List.setIfInBounds_toArray, List.set_cons_zero, List.set_cons_succ, List.getElem_toArray, List.getElem_cons_zero, List.getElem_cons_succ])
          refine wpAnyH_take (i := 7) (v := ?va7) rfl (by kernel_rfl) (by kernel_rfl) (by kernel_rfl) (fun _ _ _ h => h) (Or.inl ⟨by rfl, ?hya7⟩) (by assumption) ?resta7
          case hya7 => (intro w_ hSw; (try dsimp only at hSw); obtain _ := hSw; go_simp; (try with_reducible rfl))
          (try simp only [Act.put, List.setIfInBounds_toArray, List.set_cons_zero, List.set_cons_succ, List.getElem_toArray, List.getElem_cons_zero, List.getElem_cons_succ])
          refine wpAnyH_take (i := 10) (v := ?va10) rfl (by kernel_rfl) (by kernel_rfl) (by kernel_rfl) (fun _ _ _ h => h) (Or.inl ⟨by rfl, ?hya10⟩) (by assumption) ?resta10
          case hya10 => (intro w_ hSw; (try dsimp only at hSw); obtain _ := hSw; go_simp; (try with_reducible rfl))
          (try simp only [Act.put, List.setIfInBounds_toArray, List.set_cons_zero, List.set_cons_succ, List.getElem_toArray, List.getElem_cons_zero, List.getElem_cons_succ])
          refine wpAnyH_take (i := 11) (v := ?va11) rfl (by kernel_rfl) (by kernel_rfl) (by kernel_rfl) (fun _ _ _ h => h) (Or.inl ⟨by rfl, ?hya11⟩) (by assumption) ?resta11
          case hya11 => (intro w_ hSw; (try dsimp only at hSw); obtain _ := hSw; go_simp; (try with_reducible rfl))
          (try simp only [Act.put, List.setIfInBounds_toArray, List.set_cons_zero, List.set_cons_succ, List.getElem_toArray, List.getElem_cons_zero, List.getElem_cons_succ])
          refine wpAnyH_take (i := 12) (v := ?va12) rfl (by kernel_rfl) (by kernel_rfl) (by kernel_rfl) (fun _ _ _ h => h) (Or.inl ⟨by rfl, ?hya12⟩) (by assumption) ?resta12
          case hya12 => (intro w_ hSw; (try dsimp only at hSw); obtain _ := hSw; go_simp; (try with_reducible rfl))
          (try simp only [Act.put, List.setIfInBounds_toArray, List.set_cons_zero, List.set_cons_succ, List.getElem_toArray, List.getElem_cons_zero, List.getElem_cons_succ])
          refine wpAnyH_ready (rs := [0, 8]) (by kernel_rfl) (by simp) ?_
          refine AllReadyH.cons rfl (fun K hK => ?_) (AllReadyH.cons rfl (fun K hK => ?_) AllReadyH.nil)
          · go_simp
            refine hK.out _ _ ?hSa0 (fun hHelda0 => ?_)
            case hSa0 => trivial
            clear hK K
            (try simp only [Act.put, List.setIfInBounds_toArray, List.set_cons_zero, List.set_cons_succ, List.getElem_toArray, List.getElem_cons_zero, List.getElem_cons_succ])
            refine wpAnyH_ready (rs := [4, 8]) (by kernel_rfl) (by simp) ?_
            refine AllReadyH.cons rfl (fun K hK => ?_) (AllReadyH.cons rfl (fun K hK => ?_) AllReadyH.nil)
            · have hbE := (HBW.out.alloc (by omega) (.cells (#[] : Array Value) 128)).drew
              (refine step_append_any _ rfl (.tmp 47) (.tmp 50) _ rfl w3.heap.size 128 i0 _ 2 32 Tryz.underlying62 hi0 hz0 hz1 hz2 rfl (by omega) _ 0 ([]) (by simp [Act.eval]) (own_below (row_emptyU w3 128 2) (Below.refl _ _).drew) (w.heap.size) (some ad) (p) (cl) ((rrowsC rs).take (p * 2)) (by simp [Act.eval]) ((HRD.out.head2 (by omega)).below hbE) (fun u hu => HONE.out u (List.mem_of_mem_take hu)) (by simp only [maxLen]; omega) (by omega) (by simp only [World.size_alloc, World.size_drew]; omega) ?_; intro v4 w4 hown4 hg4 hat4)
              refine hK.out _ _ ?hSc4 (fun hHeldc4 => ?_)
              case hSc4 => trivial
              clear hK K
              have hs4 := hg4.size
              simp only [World.size_alloc, World.size_drew] at hs4
              have hb4 := hbE.grown hg4 (by simp only [World.size_alloc, World.size_drew]; omega) (fun r e => by replace e : some w3.heap.size = some r := e; injection e with e; omega)
              (try simp only [Act.put, List.setIfInBounds_toArray, List.set_cons_zero, List.set_cons_succ, List.getElem_toArray, List.getElem_cons_zero, List.getElem_cons_succ])
              refine wpAnyH_ready (rs := [8]) (by kernel_rfl) (by simp) ?_
              refine AllReadyH.cons rfl (fun K hK => ?_) AllReadyH.nil
              go_simp
              refine hK.out _ _ ?hSd8 (fun hHeldd8 => ?_)
              case hSd8 => trivial
              clear hK K
              (try simp only [Act.put, List.setIfInBounds_toArray, List.set_cons_zero, List.set_cons_succ, List.getElem_toArray, List.getElem_cons_zero, List.getElem_cons_succ])
              refine wpAnyH_ready (rs := [9]) (by kernel_rfl) (by simp) ?_
              refine AllReadyH.cons rfl (fun K hK => ?_) AllReadyH.nil
              (refine step_append_any _ rfl (.tmp 51) (.tmp 55) _ rfl w3.heap.size 128 i0 _ 2 32 Tryz.underlying62 hi0 hz0 hz1 hz2 rfl (by omega) _ (0 + p) ([] ++ (rrowsC rs).take (p * 2)) (by simp [Act.eval]) (hown4.alloc _) (w4.heap.size + 1) (some ⟨w4.heap.size, 0, none⟩) (1) (1) ([.slice A nb c, .int .i64 x]) (by simp [Act.eval]) (reads_one w4 (#[.slice A nb c, .int .i64 x] : Array Value) 128 2 rfl) (two_one _ _ _ _) (by simp only [maxLen]; omega) (by omega) (by simp only [World.size_alloc, World.size_drew]; omega) ?_; intro v9 w9 hown9 hg9 hat9)
              refine hK.out _ _ ?hSd9 (fun hHeldd9 => ?_)
              case hSd9 => trivial
              clear hK K
              have hs9 := hg9.size
              simp only [World.size_alloc] at hs9
              have hb9 := (hb4.alloc (by omega) (.cells (#[.slice A nb c, .int .i64 x] : Array Value) 128)).grown hg9 (by simp only [World.size_alloc]; omega) (fun r e => by have := own_base hown4 r e; omega)
              (try simp only [Act.put, List.setIfInBounds_toArray, List.set_cons_zero, List.set_cons_succ, List.getElem_toArray, List.getElem_cons_zero, List.getElem_cons_succ])
              refine wpAnyH_ready (rs := [13]) (by kernel_rfl) (by simp) ?_
              refine AllReadyH.cons rfl (fun K hK => ?_) AllReadyH.nil
              (refine step_append_any _ rfl (.tmp 56) (.tmp 59) _ rfl w3.heap.size 128 i0 _ 2 32 Tryz.underlying62 hi0 hz0 hz1 hz2 rfl (by omega) _ (0 + p + 1) (([] ++ (rrowsC rs).take (p * 2)) ++ [.slice A nb c, .int .i64 x]) (by simp [Act.eval]) (hown9) (w.heap.size) (some (ad.add (p * 2))) (k - p) (cl - p) ((rrowsC rs).drop (p * 2)) (by simp [Act.eval]) ((HRD.out.tail3 (by omega)).below hb9) (fun u hu => HONE.out u (List.mem_of_mem_drop hu)) (by simp only [maxLen]; omega) (by omega) (by omega) ?_; intro v13 w13 hown13 hg13 hat13)
              refine hK.out _ _ ?hSd13 (fun hHeldd13 => ?_)
              case hSd13 => trivial
              clear hK K
              have hb13 := hb9.grown hg13 (by omega) (fun r e => by have := own_base hown9 r e; omega)
              have HF := Lib.hid (And.intro hown13 hb13)
              clear hown13 hb13 hown9 hown4 hg4 hg9 hg13 hat4 hat9 hat13 hb4 hb9 hs4 hs9 hbE
              (try simp only [Act.put, List.setIfInBounds_toArray, List.set_cons_zero, List.set_cons_succ, List.getElem_toArray, List.getElem_cons_zero, List.getElem_cons_succ])
              refine wpAnyH_take (i := 14) (v := ?vd14) rfl (by kernel_rfl) (by kernel_rfl) (by kernel_rfl) (fun _ _ _ h => h) (Or.inl ⟨by rfl, ?hyd14⟩) (by assumption) ?restd14
              case hyd14 => (intro w_ hSw; (try dsimp only at hSw); obtain _ := hSw; go_simp; (try with_reducible rfl))
              (try simp only [Act.put, List.setIfInBounds_toArray, List.set_cons_zero, List.set_cons_succ, List.getElem_toArray, List.getElem_cons_zero, List.getElem_cons_succ])
              refine wpAnyH_done (by kernel_rfl) ?_ _
              go_wp2_with fail
              go_ret
              exact ⟨p, by omega, HD.out, fun _ => HNL.out, .inr ⟨fun _ => by rw [HRR.out]; exact of_decide_eq_true HB2.out, _, ks, rfl, put_new HF.out.1 hlk hw3s hp, HF.out.2⟩⟩
            · skip
              go_simp
              refine hK.out _ _ ?hSe8 (fun hHelde8 => ?_)
              case hSe8 => trivial
              clear hK K
              (try simp only [Act.put, List.setIfInBounds_toArray, List.set_cons_zero, List.set_cons_succ, List.getElem_toArray, List.getElem_cons_zero, List.getElem_cons_succ])
              refine wpAnyH_ready (rs := [4]) (by kernel_rfl) (by simp) ?_
              refine AllReadyH.cons rfl (fun K hK => ?_) AllReadyH.nil
              have hbE := (((HBW.out.alloc (by omega) (.cells (#[] : Array Value) 128)).alloc (by rw [World.size_alloc]; omega) (.cells (#[.slice A nb c, .int .i64 x] : Array Value) 128)).drew)
              (refine step_append_any _ rfl (.tmp 47) (.tmp 50) _ rfl w3.heap.size 128 i0 _ 2 32 Tryz.underlying62 hi0 hz0 hz1 hz2 rfl (by omega) _ (0) ([]) (by simp [Act.eval]) (own_below ((row_emptyU w3 128 2).alloc (.cells (#[.slice A nb c, .int .i64 x] : Array Value) 128)) (Below.refl _ _).drew) (w.heap.size) (some ad) (p) (cl) ((rrowsC rs).take (p * 2)) (by simp [Act.eval]) ((HRD.out.head2 (by omega)).below hbE) (fun u hu => HONE.out u (List.mem_of_mem_take hu)) (by simp only [maxLen]; omega) (by omega) (by (try simp only [World.size_alloc, World.size_drew]); omega) ?_; intro v4 w4 hown4 hg4 hat4)
              refine hK.out _ _ ?hSe4 (fun hHelde4 => ?_)
              case hSe4 => trivial
              clear hK K
              have hs4 := hg4.size
              simp only [World.size_alloc, World.size_drew] at hs4
              have hb4 := hbE.grown hg4 (by simp only [World.size_alloc, World.size_drew]; omega) (fun r e => by (have h9 : w3.heap.size = r := (by simpa [Value.ownBlock] using e)); omega)
              have hrn : Reads (((w3.alloc (.cells (#[] : Array Value) 128)).alloc (.cells (#[.slice A nb c, .int .i64 x] : Array Value) 128)).drew) (w3.heap.size + 1 + 1) 2 (some ⟨w3.heap.size + 1, 0, none⟩) 1 [.slice A nb c, .int .i64 x] := by have := (reads_one (w3.alloc (.cells (#[] : Array Value) 128)) (#[.slice A nb c, .int .i64 x] : Array Value) 128 2 rfl).drew; simpa only [World.size_alloc] using this
              have hrn4 := reads_past hrn hg4 (by simp [Value.ownBlock]) (by simp only [World.size_alloc, World.size_drew]; omega)
              (try simp only [Act.put, List.setIfInBounds_toArray, List.set_cons_zero, List.set_cons_succ, List.getElem_toArray, List.getElem_cons_zero, List.getElem_cons_succ])
              refine wpAnyH_ready (rs := [9]) (by kernel_rfl) (by simp) ?_
              refine AllReadyH.cons rfl (fun K hK => ?_) AllReadyH.nil
              (refine step_append_any _ rfl (.tmp 51) (.tmp 55) _ rfl w3.heap.size 128 i0 _ 2 32 Tryz.underlying62 hi0 hz0 hz1 hz2 rfl (by omega) _ (0 + p) ([] ++ (rrowsC rs).take (p * 2)) (by simp [Act.eval]) (hown4) (w3.heap.size + 1 + 1) (some ⟨w3.heap.size + 1, 0, none⟩) (1) (1) ([.slice A nb c, .int .i64 x]) (by simp [Act.eval]) (hrn4) (two_one _ _ _ _) (by simp only [maxLen]; omega) (by omega) (by (try simp only [World.size_alloc, World.size_drew]); omega) ?_; intro v9 w9 hown9 hg9 hat9)
              refine hK.out _ _ ?hSe9 (fun hHelde9 => ?_)
              case hSe9 => trivial
              clear hK K
              have hs9 := hg9.size
              have hb9 := hb4.grown hg9 (by omega) (fun r e => by have := own_base hown4 r e; omega)
              (try simp only [Act.put, List.setIfInBounds_toArray, List.set_cons_zero, List.set_cons_succ, List.getElem_toArray, List.getElem_cons_zero, List.getElem_cons_succ])
              refine wpAnyH_ready (rs := [13]) (by kernel_rfl) (by simp) ?_
              refine AllReadyH.cons rfl (fun K hK => ?_) AllReadyH.nil
              (refine step_append_any _ rfl (.tmp 56) (.tmp 59) _ rfl w3.heap.size 128 i0 _ 2 32 Tryz.underlying62 hi0 hz0 hz1 hz2 rfl (by omega) _ (0 + p + 1) (([] ++ (rrowsC rs).take (p * 2)) ++ [.slice A nb c, .int .i64 x]) (by simp [Act.eval]) (hown9) (w.heap.size) (some (ad.add (p * 2))) (k - p) (cl - p) ((rrowsC rs).drop (p * 2)) (by simp [Act.eval]) ((HRD.out.tail3 (by omega)).below hb9) (fun u hu => HONE.out u (List.mem_of_mem_drop hu)) (by simp only [maxLen]; omega) (by omega) (by (try simp only [World.size_alloc, World.size_drew]); omega) ?_; intro v13 w13 hown13 hg13 hat13)
              refine hK.out _ _ ?hSe13 (fun hHelde13 => ?_)
              case hSe13 => trivial
              clear hK K
              have hb13 := hb9.grown hg13 (by omega) (fun r e => by have := own_base hown9 r e; omega)
              have HF := Lib.hid (And.intro hown13 hb13)
              clear hown13 hb13 hown9 hown4 hg4 hg9 hg13 hat4 hat9 hat13 hb4 hb9 hs4 hs9 hbE hrn hrn4
              (try simp only [Act.put, List.setIfInBounds_toArray, List.set_cons_zero, List.set_cons_succ, List.getElem_toArray, List.getElem_cons_zero, List.getElem_cons_succ])
              refine wpAnyH_take (i := 14) (v := ?ve14) rfl (by kernel_rfl) (by kernel_rfl) (by kernel_rfl) (fun _ _ _ h => h) (Or.inl ⟨by rfl, ?hye14⟩) (by assumption) ?reste14
              case hye14 => (intro w_ hSw; (try dsimp only at hSw); obtain _ := hSw; go_simp; (try with_reducible rfl))
              (try simp only [Act.put, List.setIfInBounds_toArray, List.set_cons_zero, List.set_cons_succ, List.getElem_toArray, List.getElem_cons_zero, List.getElem_cons_succ])
              refine wpAnyH_done (by kernel_rfl) ?_ _
              go_wp2_with fail
              go_ret
              exact ⟨p, by omega, HD.out, fun _ => HNL.out, .inr ⟨fun _ => by rw [HRR.out]; exact of_decide_eq_true HB2.out, _, ks, rfl, put_new HF.out.1 hlk hw3s hp, HF.out.2⟩⟩
          · go_simp
            refine hK.out _ _ ?hSb8 (fun hHeldb8 => ?_)
            case hSb8 => trivial
            clear hK K
            (try simp only [Act.put, List.setIfInBounds_toArray, List.set_cons_zero, List.set_cons_succ, List.getElem_toArray, List.getElem_cons_zero, List.getElem_cons_succ])
            refine wpAnyH_ready (rs := [0]) (by kernel_rfl) (by simp) ?_
            refine AllReadyH.cons rfl (fun K hK => ?_) AllReadyH.nil
            go_simp
            refine hK.out _ _ ?hSf0 (fun hHeldf0 => ?_)
            case hSf0 => trivial
            clear hK K
            (try simp only [Act.put, List.setIfInBounds_toArray, List.set_cons_zero, List.set_cons_succ, List.getElem_toArray, List.getElem_cons_zero, List.getElem_cons_succ])
            refine wpAnyH_ready (rs := [4]) (by kernel_rfl) (by simp) ?_
            refine AllReadyH.cons rfl (fun K hK => ?_) AllReadyH.nil
            have hbE := (((HBW.out.alloc (by omega) (.cells (#[.slice A nb c, .int .i64 x] : Array Value) 128)).alloc (by rw [World.size_alloc]; omega) (.cells (#[] : Array Value) 128)).drew)
            (refine step_append_any _ rfl (.tmp 47) (.tmp 50) _ rfl w3.heap.size 128 i0 _ 2 32 Tryz.underlying62 hi0 hz0 hz1 hz2 rfl (by omega) _ (0) ([]) (by simp [Act.eval]) (own_below (own_mono (row_emptyU (w3.alloc (.cells (#[.slice A nb c, .int .i64 x] : Array Value) 128)) 128 2) (by rw [World.size_alloc]; omega)) (Below.refl _ _).drew) (w.heap.size) (some ad) (p) (cl) ((rrowsC rs).take (p * 2)) (by simp [Act.eval]) ((HRD.out.head2 (by omega)).below hbE) (fun u hu => HONE.out u (List.mem_of_mem_take hu)) (by simp only [maxLen]; omega) (by omega) (by (try simp only [World.size_alloc, World.size_drew]); omega) ?_; intro v4 w4 hown4 hg4 hat4)
            refine hK.out _ _ ?hSf4 (fun hHeldf4 => ?_)
            case hSf4 => trivial
            clear hK K
            have hs4 := hg4.size
            simp only [World.size_alloc, World.size_drew] at hs4
            have hb4 := hbE.grown hg4 (by simp only [World.size_alloc, World.size_drew]; omega) (fun r e => by (have h9 : w3.heap.size + 1 = r := (by simpa [Value.ownBlock] using e)); omega)
            have hrn : Reads (((w3.alloc (.cells (#[.slice A nb c, .int .i64 x] : Array Value) 128)).alloc (.cells (#[] : Array Value) 128)).drew) (w3.heap.size + 1) 2 (some ⟨w3.heap.size, 0, none⟩) 1 [.slice A nb c, .int .i64 x] := by have := ((reads_one w3 (#[.slice A nb c, .int .i64 x] : Array Value) 128 2 rfl).alloc (by rw [World.size_alloc]; omega) (.cells (#[] : Array Value) 128)).drew; simpa only [World.size_alloc] using this
            have hrn4 := reads_past hrn hg4 (by simp [Value.ownBlock]) (by simp only [World.size_alloc, World.size_drew]; omega)
            (try simp only [Act.put, List.setIfInBounds_toArray, List.set_cons_zero, List.set_cons_succ, List.getElem_toArray, List.getElem_cons_zero, List.getElem_cons_succ])
            refine wpAnyH_ready (rs := [9]) (by kernel_rfl) (by simp) ?_
            refine AllReadyH.cons rfl (fun K hK => ?_) AllReadyH.nil
            (refine step_append_any _ rfl (.tmp 51) (.tmp 55) _ rfl w3.heap.size 128 i0 _ 2 32 Tryz.underlying62 hi0 hz0 hz1 hz2 rfl (by omega) _ (0 + p) ([] ++ (rrowsC rs).take (p * 2)) (by simp [Act.eval]) (hown4) (w3.heap.size + 1) (some ⟨w3.heap.size, 0, none⟩) (1) (1) ([.slice A nb c, .int .i64 x]) (by simp [Act.eval]) (hrn4) (two_one _ _ _ _) (by simp only [maxLen]; omega) (by omega) (by (try simp only [World.size_alloc, World.size_drew]); omega) ?_; intro v9 w9 hown9 hg9 hat9)
            refine hK.out _ _ ?hSf9 (fun hHeldf9 => ?_)
            case hSf9 => trivial
            clear hK K
            have hs9 := hg9.size
            have hb9 := hb4.grown hg9 (by omega) (fun r e => by have := own_base hown4 r e; omega)
            (try simp only [Act.put, List.setIfInBounds_toArray, List.set_cons_zero, List.set_cons_succ, List.getElem_toArray, List.getElem_cons_zero, List.getElem_cons_succ])
            refine wpAnyH_ready (rs := [13]) (by kernel_rfl) (by simp) ?_
            refine AllReadyH.cons rfl (fun K hK => ?_) AllReadyH.nil
            (refine step_append_any _ rfl (.tmp 56) (.tmp 59) _ rfl w3.heap.size 128 i0 _ 2 32 Tryz.underlying62 hi0 hz0 hz1 hz2 rfl (by omega) _ (0 + p + 1) (([] ++ (rrowsC rs).take (p * 2)) ++ [.slice A nb c, .int .i64 x]) (by simp [Act.eval]) (hown9) (w.heap.size) (some (ad.add (p * 2))) (k - p) (cl - p) ((rrowsC rs).drop (p * 2)) (by simp [Act.eval]) ((HRD.out.tail3 (by omega)).below hb9) (fun u hu => HONE.out u (List.mem_of_mem_drop hu)) (by simp only [maxLen]; omega) (by omega) (by (try simp only [World.size_alloc, World.size_drew]); omega) ?_; intro v13 w13 hown13 hg13 hat13)
            refine hK.out _ _ ?hSf13 (fun hHeldf13 => ?_)
            case hSf13 => trivial
            clear hK K
            have hb13 := hb9.grown hg13 (by omega) (fun r e => by have := own_base hown9 r e; omega)
            have HF := Lib.hid (And.intro hown13 hb13)
            clear hown13 hb13 hown9 hown4 hg4 hg9 hg13 hat4 hat9 hat13 hb4 hb9 hs4 hs9 hbE hrn hrn4
            (try simp only [Act.put, List.setIfInBounds_toArray, List.set_cons_zero, List.set_cons_succ, List.getElem_toArray, List.getElem_cons_zero, List.getElem_cons_succ])
            refine wpAnyH_take (i := 14) (v := ?vf14) rfl (by kernel_rfl) (by kernel_rfl) (by kernel_rfl) (fun _ _ _ h => h) (Or.inl ⟨by rfl, ?hyf14⟩) (by assumption) ?restf14
            case hyf14 => (intro w_ hSw; (try dsimp only at hSw); obtain _ := hSw; go_simp; (try with_reducible rfl))
            (try simp only [Act.put, List.setIfInBounds_toArray, List.set_cons_zero, List.set_cons_succ, List.getElem_toArray, List.getElem_cons_zero, List.getElem_cons_succ])
            refine wpAnyH_done (by kernel_rfl) ?_ _
            go_wp2_with fail
            go_ret
            exact ⟨p, by omega, HD.out, fun _ => HNL.out, .inr ⟨fun _ => by rw [HRR.out]; exact of_decide_eq_true HB2.out, _, ks, rfl, put_new HF.out.1 hlk hw3s hp, HF.out.2⟩⟩
    · have k1 : decide ((p : Int) < (k : Int)) = false := by rw [decide_eq_false_iff_not]; omega
      have hpk : p = k := by omega
      have hlk : rs.length = k := HL.out
      have HBW : Hid (Below w.heap.size w wr) := by rw [hw]; exact below_drewN (Below.refl _ _) _
      have hw3s : wr.heap.size = w.heap.size := by rw [hw]; rfl
      have HONE : Hid (∀ u ∈ rrowsC rs, u.oneCell' = true) := rrows_one rs
      clear hw
      cases Al with
      | none =>
        obtain ⟨rfl, rfl⟩ := own_nil HO.out
        subst hpk
        have HDZ : Hid (((rrowsC rs).drop (0 * 2)).length = 0) := by show _ = _; rw [← rrows_drop2, List.drop_of_length_le (by omega)]; rfl
        go_upto_region 7 with fail
        refine wp_region_held_drew (S := fun _ => True) (by kernel_rfl) trivial (fun hHeld => ?_)
        refine wpAnyH_take (i := 1) (v := ?vn1) rfl (by kernel_rfl) (by kernel_rfl) (by kernel_rfl) (fun _ _ _ h => h) (Or.inl ⟨by rfl, ?hyn1⟩) (by assumption) ?restn1
        case hyn1 => (intro w_ hSw; (try dsimp only at hSw); obtain _ := hSw; go_simp; (try with_reducible rfl))
        (try simp only [Act.put, List.setIfInBounds_toArray, List.set_cons_zero, List.set_cons_succ, List.getElem_toArray, List.getElem_cons_zero, List.getElem_cons_succ])
        refine wpAnyH_take (i := 2) (v := ?vn2) rfl (by kernel_rfl) (by kernel_rfl) (by kernel_rfl) (fun _ _ _ h => h) (Or.inl ⟨by rfl, ?hyn2⟩) (by assumption) ?restn2
        case hyn2 => (intro w_ hSw; (try dsimp only at hSw); obtain _ := hSw; go_simp; (try with_reducible rfl))
        (try simp only [Act.put, List.setIfInBounds_toArray, List.set_cons_zero, List.set_cons_succ, List.getElem_toArray, List.getElem_cons_zero, List.getElem_cons_succ])
        refine wpAnyH_take (i := 3) (v := ?vn3) rfl (by kernel_rfl) (by kernel_rfl) (by kernel_rfl) (fun _ _ _ h => h) (Or.inl ⟨by rfl, ?hyn3⟩) (by assumption) ?restn3
        case hyn3 => (intro w_ hSw; (try dsimp only at hSw); obtain _ := hSw; go_simp; (try with_reducible rfl))
        (try simp only [Act.put, List.setIfInBounds_toArray, List.set_cons_zero, List.set_cons_succ, List.getElem_toArray, List.getElem_cons_zero, List.getElem_cons_succ])
        refine wpAnyH_take (i := 5) (v := ?vn5) rfl (by kernel_rfl) (by kernel_rfl) (by kernel_rfl) (fun _ _ _ h => h) (Or.inl ⟨by rfl, ?hyn5⟩) (by assumption) ?restn5
        case hyn5 => (intro w_ hSw; (try dsimp only at hSw); obtain _ := hSw; go_simp; (try with_reducible rfl))
        (try simp only [Act.put, List.setIfInBounds_toArray, List.set_cons_zero, List.set_cons_succ, List.getElem_toArray, List.getElem_cons_zero, List.getElem_cons_succ])
        refine wpAnyH_take (i := 6) (v := ?vn6) rfl (by kernel_rfl) (by kernel_rfl) (by kernel_rfl) (fun _ _ _ h => h) (Or.inl ⟨by rfl, ?hyn6⟩) (by assumption) ?restn6
        case hyn6 => (intro w_ hSw; (try dsimp only at hSw); obtain _ := hSw; go_simp; (try with_reducible rfl))
        (try simp only [Act.put, List.setIfInBounds_toArray, List.set_cons_zero, List.set_cons_succ, List.getElem_toArray, List.getElem_cons_zero, List.getElem_cons_succ])
        refine wpAnyH_take (i := 7) (v := ?vn7) rfl (by kernel_rfl) (by kernel_rfl) (by kernel_rfl) (fun _ _ _ h => h) (Or.inl ⟨by rfl, ?hyn7⟩) (by assumption) ?restn7
        case hyn7 => (intro w_ hSw; (try dsimp only at hSw); obtain _ := hSw; go_simp; (try with_reducible rfl))
        (try simp only [Act.put, List.setIfInBounds_toArray, List.set_cons_zero, List.set_cons_succ, List.getElem_toArray, List.getElem_cons_zero, List.getElem_cons_succ])
        refine wpAnyH_take (i := 10) (v := ?vn10) rfl (by kernel_rfl) (by kernel_rfl) (by kernel_rfl) (fun _ _ _ h => h) (Or.inl ⟨by rfl, ?hyn10⟩) (by assumption) ?restn10
        case hyn10 => (intro w_ hSw; (try dsimp only at hSw); obtain _ := hSw; go_simp; (try with_reducible rfl))
        (try simp only [Act.put, List.setIfInBounds_toArray, List.set_cons_zero, List.set_cons_succ, List.getElem_toArray, List.getElem_cons_zero, List.getElem_cons_succ])
        refine wpAnyH_take (i := 11) (v := ?vn11) rfl (by kernel_rfl) (by kernel_rfl) (by kernel_rfl) (fun _ _ _ h => h) (Or.inl ⟨by rfl, ?hyn11⟩) (by assumption) ?restn11
        case hyn11 => (intro w_ hSw; (try dsimp only at hSw); obtain _ := hSw; go_simp; (try with_reducible rfl))
        (try simp only [Act.put, List.setIfInBounds_toArray, List.set_cons_zero, List.set_cons_succ, List.getElem_toArray, List.getElem_cons_zero, List.getElem_cons_succ])
        refine wpAnyH_take (i := 12) (v := ?vn12) rfl (by kernel_rfl) (by kernel_rfl) (by kernel_rfl) (fun _ _ _ h => h) (Or.inl ⟨by rfl, ?hyn12⟩) (by assumption) ?restn12
        case hyn12 => (intro w_ hSw; (try dsimp only at hSw); obtain _ := hSw; go_simp; (try with_reducible rfl))
        (try simp only [Act.put, List.setIfInBounds_toArray, List.set_cons_zero, List.set_cons_succ, List.getElem_toArray, List.getElem_cons_zero, List.getElem_cons_succ])
        refine wpAnyH_ready (rs := [0, 8]) (by kernel_rfl) (by simp) ?_
        refine AllReadyH.cons rfl (fun K hK => ?_) (AllReadyH.cons rfl (fun K hK => ?_) AllReadyH.nil)
        · go_simp
          refine hK.out _ _ ?hSnx0 (fun hHeldnx0 => ?_)
          case hSnx0 => trivial
          clear hK K
          (try simp only [Act.put, List.setIfInBounds_toArray, List.set_cons_zero, List.set_cons_succ, List.getElem_toArray, List.getElem_cons_zero, List.getElem_cons_succ])
          refine wpAnyH_ready (rs := [4, 8]) (by kernel_rfl) (by simp) ?_
          refine AllReadyH.cons rfl (fun K hK => ?_) (AllReadyH.cons rfl (fun K hK => ?_) AllReadyH.nil)
          · skip
            have hbE := ((HBW.out.alloc (by omega) (.cells (#[] : Array Value) 128)).drew)
            (refine step_append_any _ rfl (.tmp 47) (.tmp 50) _ rfl wr.heap.size 128 i0 _ 2 32 Tryz.underlying62 hi0 hz0 hz1 hz2 rfl (by omega) _ (0) ([]) (by simp [Act.eval]) (own_below (row_emptyU wr 128 2) (Below.refl _ _).drew) (w.heap.size) (none) (0) (0) ((rrowsC rs).take (0 * 2)) (by simp [Act.eval]) (reads_nil _ _ _ _ (by simp)) (fun u hu => HONE.out u (List.mem_of_mem_take hu)) (by simp only [maxLen]; omega) (by omega) (by (try simp only [World.size_alloc, World.size_drew]); omega) ?_; intro v4 w4 hown4 hg4 hat4)
            refine hK.out _ _ ?hSna4 (fun hHeldna4 => ?_)
            case hSna4 => trivial
            clear hK K
            have hs4 := hg4.size
            simp only [World.size_alloc, World.size_drew] at hs4
            have hb4 := hbE.grown hg4 (by simp only [World.size_alloc, World.size_drew]; omega) (fun r e => by (have h9 : wr.heap.size = r := (by simpa [Value.ownBlock] using e)); omega)
            (try simp only [Act.put, List.setIfInBounds_toArray, List.set_cons_zero, List.set_cons_succ, List.getElem_toArray, List.getElem_cons_zero, List.getElem_cons_succ])
            refine wpAnyH_ready (rs := [8]) (by kernel_rfl) (by simp) ?_
            refine AllReadyH.cons rfl (fun K hK => ?_) AllReadyH.nil
            go_simp
            refine hK.out _ _ ?hSna8 (fun hHeldna8 => ?_)
            case hSna8 => trivial
            clear hK K
            (try simp only [Act.put, List.setIfInBounds_toArray, List.set_cons_zero, List.set_cons_succ, List.getElem_toArray, List.getElem_cons_zero, List.getElem_cons_succ])
            refine wpAnyH_ready (rs := [9]) (by kernel_rfl) (by simp) ?_
            refine AllReadyH.cons rfl (fun K hK => ?_) AllReadyH.nil
            (refine step_append_any _ rfl (.tmp 51) (.tmp 55) _ rfl wr.heap.size 128 i0 _ 2 32 Tryz.underlying62 hi0 hz0 hz1 hz2 rfl (by omega) _ (0 + 0) ([] ++ (rrowsC rs).take (0 * 2)) (by simp [Act.eval]) (hown4.alloc _) (w4.heap.size + 1) (some ⟨w4.heap.size, 0, none⟩) (1) (1) ([.slice A nb c, .int .i64 x]) (by simp [Act.eval]) (reads_one w4 (#[.slice A nb c, .int .i64 x] : Array Value) 128 2 rfl) (two_one _ _ _ _) (by simp only [maxLen]; omega) (by omega) (by (try simp only [World.size_alloc, World.size_drew]); omega) ?_; intro v9 w9 hown9 hg9 hat9)
            refine hK.out _ _ ?hSna9 (fun hHeldna9 => ?_)
            case hSna9 => trivial
            clear hK K
            have hs9 := hg9.size
            (try simp only [World.size_alloc] at hs9)
            have hb9 := (hb4.alloc (by omega) (.cells (#[.slice A nb c, .int .i64 x] : Array Value) 128)).grown hg9 (by simp only [World.size_alloc]; omega) (fun r e => by have := own_base hown4 r e; omega)
            (try simp only [Act.put, List.setIfInBounds_toArray, List.set_cons_zero, List.set_cons_succ, List.getElem_toArray, List.getElem_cons_zero, List.getElem_cons_succ])
            refine wpAnyH_ready (rs := [13]) (by kernel_rfl) (by simp) ?_
            refine AllReadyH.cons rfl (fun K hK => ?_) AllReadyH.nil
            (refine step_append_any _ rfl (.tmp 56) (.tmp 59) _ rfl wr.heap.size 128 i0 _ 2 32 Tryz.underlying62 hi0 hz0 hz1 hz2 rfl (by omega) _ (0 + 0 + 1) (([] ++ (rrowsC rs).take (0 * 2)) ++ [.slice A nb c, .int .i64 x]) (by simp [Act.eval]) (hown9) (w.heap.size) (none) (0) (0) ((rrowsC rs).drop (0 * 2)) (by simp [Act.eval]) (reads_nil _ _ _ _ HDZ.out) (fun u hu => HONE.out u (List.mem_of_mem_drop hu)) (by simp only [maxLen]; omega) (by omega) (by (try simp only [World.size_alloc, World.size_drew]); omega) ?_; intro v13 w13 hown13 hg13 hat13)
            refine hK.out _ _ ?hSna13 (fun hHeldna13 => ?_)
            case hSna13 => trivial
            clear hK K
            have hb13 := hb9.grown hg13 (by omega) (fun r e => by have := own_base hown9 r e; omega)
            have HF := Lib.hid (And.intro hown13 hb13)
            clear hown13 hb13 hown9 hown4 hg4 hg9 hg13 hat4 hat9 hat13 hb4 hb9 hs4 hs9 hbE
            (try simp only [Act.put, List.setIfInBounds_toArray, List.set_cons_zero, List.set_cons_succ, List.getElem_toArray, List.getElem_cons_zero, List.getElem_cons_succ])
            refine wpAnyH_take (i := 14) (v := ?vna14) rfl (by kernel_rfl) (by kernel_rfl) (by kernel_rfl) (fun _ _ _ h => h) (Or.inl ⟨by rfl, ?hyna14⟩) (by assumption) ?restna14
            case hyna14 => (intro w_ hSw; (try dsimp only at hSw); obtain _ := hSw; go_simp; (try with_reducible rfl))
            (try simp only [Act.put, List.setIfInBounds_toArray, List.set_cons_zero, List.set_cons_succ, List.getElem_toArray, List.getElem_cons_zero, List.getElem_cons_succ])
            refine wpAnyH_done (by kernel_rfl) ?_ _
            go_wp2_with fail
            go_ret
            exact ⟨0, by omega, HD.out, fun h => absurd h (by omega), .inr ⟨fun h => absurd h (by omega), _, ks, rfl, put_new (by rw [Nat.sub_self]; exact HF.out.1) hlk hw3s (Nat.le_refl _), HF.out.2⟩⟩
          · skip
            go_simp
            refine hK.out _ _ ?hSnb8 (fun hHeldnb8 => ?_)
            case hSnb8 => trivial
            clear hK K
            (try simp only [Act.put, List.setIfInBounds_toArray, List.set_cons_zero, List.set_cons_succ, List.getElem_toArray, List.getElem_cons_zero, List.getElem_cons_succ])
            refine wpAnyH_ready (rs := [4]) (by kernel_rfl) (by simp) ?_
            refine AllReadyH.cons rfl (fun K hK => ?_) AllReadyH.nil
            have hbE := (((HBW.out.alloc (by omega) (.cells (#[] : Array Value) 128)).alloc (by rw [World.size_alloc]; omega) (.cells (#[.slice A nb c, .int .i64 x] : Array Value) 128)).drew)
            (refine step_append_any _ rfl (.tmp 47) (.tmp 50) _ rfl wr.heap.size 128 i0 _ 2 32 Tryz.underlying62 hi0 hz0 hz1 hz2 rfl (by omega) _ (0) ([]) (by simp [Act.eval]) (own_below ((row_emptyU wr 128 2).alloc (.cells (#[.slice A nb c, .int .i64 x] : Array Value) 128)) (Below.refl _ _).drew) (w.heap.size) (none) (0) (0) ((rrowsC rs).take (0 * 2)) (by simp [Act.eval]) (reads_nil _ _ _ _ (by simp)) (fun u hu => HONE.out u (List.mem_of_mem_take hu)) (by simp only [maxLen]; omega) (by omega) (by (try simp only [World.size_alloc, World.size_drew]); omega) ?_; intro v4 w4 hown4 hg4 hat4)
            refine hK.out _ _ ?hSnb4 (fun hHeldnb4 => ?_)
            case hSnb4 => trivial
            clear hK K
            have hs4 := hg4.size
            simp only [World.size_alloc, World.size_drew] at hs4
            have hb4 := hbE.grown hg4 (by simp only [World.size_alloc, World.size_drew]; omega) (fun r e => by (have h9 : wr.heap.size = r := (by simpa [Value.ownBlock] using e)); omega)
            have hrn : Reads (((wr.alloc (.cells (#[] : Array Value) 128)).alloc (.cells (#[.slice A nb c, .int .i64 x] : Array Value) 128)).drew) (wr.heap.size + 1 + 1) 2 (some ⟨wr.heap.size + 1, 0, none⟩) 1 [.slice A nb c, .int .i64 x] := by have := (reads_one (wr.alloc (.cells (#[] : Array Value) 128)) (#[.slice A nb c, .int .i64 x] : Array Value) 128 2 rfl).drew; simpa only [World.size_alloc] using this
            have hrn4 := reads_past hrn hg4 (by simp [Value.ownBlock]) (by simp only [World.size_alloc, World.size_drew]; omega)
            (try simp only [Act.put, List.setIfInBounds_toArray, List.set_cons_zero, List.set_cons_succ, List.getElem_toArray, List.getElem_cons_zero, List.getElem_cons_succ])
            refine wpAnyH_ready (rs := [9]) (by kernel_rfl) (by simp) ?_
            refine AllReadyH.cons rfl (fun K hK => ?_) AllReadyH.nil
            (refine step_append_any _ rfl (.tmp 51) (.tmp 55) _ rfl wr.heap.size 128 i0 _ 2 32 Tryz.underlying62 hi0 hz0 hz1 hz2 rfl (by omega) _ (0 + 0) ([] ++ (rrowsC rs).take (0 * 2)) (by simp [Act.eval]) (hown4) (wr.heap.size + 1 + 1) (some ⟨wr.heap.size + 1, 0, none⟩) (1) (1) ([.slice A nb c, .int .i64 x]) (by simp [Act.eval]) (hrn4) (two_one _ _ _ _) (by simp only [maxLen]; omega) (by omega) (by (try simp only [World.size_alloc, World.size_drew]); omega) ?_; intro v9 w9 hown9 hg9 hat9)
            refine hK.out _ _ ?hSnb9 (fun hHeldnb9 => ?_)
            case hSnb9 => trivial
            clear hK K
            have hs9 := hg9.size
            (try simp only [World.size_alloc] at hs9)
            have hb9 := hb4.grown hg9 (by omega) (fun r e => by have := own_base hown4 r e; omega)
            (try simp only [Act.put, List.setIfInBounds_toArray, List.set_cons_zero, List.set_cons_succ, List.getElem_toArray, List.getElem_cons_zero, List.getElem_cons_succ])
            refine wpAnyH_ready (rs := [13]) (by kernel_rfl) (by simp) ?_
            refine AllReadyH.cons rfl (fun K hK => ?_) AllReadyH.nil
            (refine step_append_any _ rfl (.tmp 56) (.tmp 59) _ rfl wr.heap.size 128 i0 _ 2 32 Tryz.underlying62 hi0 hz0 hz1 hz2 rfl (by omega) _ (0 + 0 + 1) (([] ++ (rrowsC rs).take (0 * 2)) ++ [.slice A nb c, .int .i64 x]) (by simp [Act.eval]) (hown9) (w.heap.size) (none) (0) (0) ((rrowsC rs).drop (0 * 2)) (by simp [Act.eval]) (reads_nil _ _ _ _ HDZ.out) (fun u hu => HONE.out u (List.mem_of_mem_drop hu)) (by simp only [maxLen]; omega) (by omega) (by (try simp only [World.size_alloc, World.size_drew]); omega) ?_; intro v13 w13 hown13 hg13 hat13)
            refine hK.out _ _ ?hSnb13 (fun hHeldnb13 => ?_)
            case hSnb13 => trivial
            clear hK K
            have hb13 := hb9.grown hg13 (by omega) (fun r e => by have := own_base hown9 r e; omega)
            have HF := Lib.hid (And.intro hown13 hb13)
            clear hown13 hb13 hown9 hown4 hg4 hg9 hg13 hat4 hat9 hat13 hb4 hb9 hs4 hs9 hbE hrn hrn4
            (try simp only [Act.put, List.setIfInBounds_toArray, List.set_cons_zero, List.set_cons_succ, List.getElem_toArray, List.getElem_cons_zero, List.getElem_cons_succ])
            refine wpAnyH_take (i := 14) (v := ?vnb14) rfl (by kernel_rfl) (by kernel_rfl) (by kernel_rfl) (fun _ _ _ h => h) (Or.inl ⟨by rfl, ?hynb14⟩) (by assumption) ?restnb14
            case hynb14 => (intro w_ hSw; (try dsimp only at hSw); obtain _ := hSw; go_simp; (try with_reducible rfl))
            (try simp only [Act.put, List.setIfInBounds_toArray, List.set_cons_zero, List.set_cons_succ, List.getElem_toArray, List.getElem_cons_zero, List.getElem_cons_succ])
            refine wpAnyH_done (by kernel_rfl) ?_ _
            go_wp2_with fail
            go_ret
            exact ⟨0, by omega, HD.out, fun h => absurd h (by omega), .inr ⟨fun h => absurd h (by omega), _, ks, rfl, put_new (by rw [Nat.sub_self]; exact HF.out.1) hlk hw3s (Nat.le_refl _), HF.out.2⟩⟩
        · go_simp
          refine hK.out _ _ ?hSnx8 (fun hHeldnx8 => ?_)
          case hSnx8 => trivial
          clear hK K
          (try simp only [Act.put, List.setIfInBounds_toArray, List.set_cons_zero, List.set_cons_succ, List.getElem_toArray, List.getElem_cons_zero, List.getElem_cons_succ])
          refine wpAnyH_ready (rs := [0]) (by kernel_rfl) (by simp) ?_
          refine AllReadyH.cons rfl (fun K hK => ?_) AllReadyH.nil
          go_simp
          refine hK.out _ _ ?hSnc0 (fun hHeldnc0 => ?_)
          case hSnc0 => trivial
          clear hK K
          (try simp only [Act.put, List.setIfInBounds_toArray, List.set_cons_zero, List.set_cons_succ, List.getElem_toArray, List.getElem_cons_zero, List.getElem_cons_succ])
          refine wpAnyH_ready (rs := [4]) (by kernel_rfl) (by simp) ?_
          refine AllReadyH.cons rfl (fun K hK => ?_) AllReadyH.nil
          have hbE := (((HBW.out.alloc (by omega) (.cells (#[.slice A nb c, .int .i64 x] : Array Value) 128)).alloc (by rw [World.size_alloc]; omega) (.cells (#[] : Array Value) 128)).drew)
          (refine step_append_any _ rfl (.tmp 47) (.tmp 50) _ rfl wr.heap.size 128 i0 _ 2 32 Tryz.underlying62 hi0 hz0 hz1 hz2 rfl (by omega) _ (0) ([]) (by simp [Act.eval]) (own_below (own_mono (row_emptyU (wr.alloc (.cells (#[.slice A nb c, .int .i64 x] : Array Value) 128)) 128 2) (by rw [World.size_alloc]; omega)) (Below.refl _ _).drew) (w.heap.size) (none) (0) (0) ((rrowsC rs).take (0 * 2)) (by simp [Act.eval]) (reads_nil _ _ _ _ (by simp)) (fun u hu => HONE.out u (List.mem_of_mem_take hu)) (by simp only [maxLen]; omega) (by omega) (by (try simp only [World.size_alloc, World.size_drew]); omega) ?_; intro v4 w4 hown4 hg4 hat4)
          refine hK.out _ _ ?hSnc4 (fun hHeldnc4 => ?_)
          case hSnc4 => trivial
          clear hK K
          have hs4 := hg4.size
          simp only [World.size_alloc, World.size_drew] at hs4
          have hb4 := hbE.grown hg4 (by simp only [World.size_alloc, World.size_drew]; omega) (fun r e => by (have h9 : wr.heap.size + 1 = r := (by simpa [Value.ownBlock] using e)); omega)
          have hrn : Reads (((wr.alloc (.cells (#[.slice A nb c, .int .i64 x] : Array Value) 128)).alloc (.cells (#[] : Array Value) 128)).drew) (wr.heap.size + 1) 2 (some ⟨wr.heap.size, 0, none⟩) 1 [.slice A nb c, .int .i64 x] := by have := ((reads_one wr (#[.slice A nb c, .int .i64 x] : Array Value) 128 2 rfl).alloc (by rw [World.size_alloc]; omega) (.cells (#[] : Array Value) 128)).drew; simpa only [World.size_alloc] using this
          have hrn4 := reads_past hrn hg4 (by simp [Value.ownBlock]) (by simp only [World.size_alloc, World.size_drew]; omega)
          (try simp only [Act.put, List.setIfInBounds_toArray, List.set_cons_zero, List.set_cons_succ, List.getElem_toArray, List.getElem_cons_zero, List.getElem_cons_succ])
          refine wpAnyH_ready (rs := [9]) (by kernel_rfl) (by simp) ?_
          refine AllReadyH.cons rfl (fun K hK => ?_) AllReadyH.nil
          (refine step_append_any _ rfl (.tmp 51) (.tmp 55) _ rfl wr.heap.size 128 i0 _ 2 32 Tryz.underlying62 hi0 hz0 hz1 hz2 rfl (by omega) _ (0 + 0) ([] ++ (rrowsC rs).take (0 * 2)) (by simp [Act.eval]) (hown4) (wr.heap.size + 1) (some ⟨wr.heap.size, 0, none⟩) (1) (1) ([.slice A nb c, .int .i64 x]) (by simp [Act.eval]) (hrn4) (two_one _ _ _ _) (by simp only [maxLen]; omega) (by omega) (by (try simp only [World.size_alloc, World.size_drew]); omega) ?_; intro v9 w9 hown9 hg9 hat9)
          refine hK.out _ _ ?hSnc9 (fun hHeldnc9 => ?_)
          case hSnc9 => trivial
          clear hK K
          have hs9 := hg9.size
          (try simp only [World.size_alloc] at hs9)
          have hb9 := hb4.grown hg9 (by omega) (fun r e => by have := own_base hown4 r e; omega)
          (try simp only [Act.put, List.setIfInBounds_toArray, List.set_cons_zero, List.set_cons_succ, List.getElem_toArray, List.getElem_cons_zero, List.getElem_cons_succ])
          refine wpAnyH_ready (rs := [13]) (by kernel_rfl) (by simp) ?_
          refine AllReadyH.cons rfl (fun K hK => ?_) AllReadyH.nil
          (refine step_append_any _ rfl (.tmp 56) (.tmp 59) _ rfl wr.heap.size 128 i0 _ 2 32 Tryz.underlying62 hi0 hz0 hz1 hz2 rfl (by omega) _ (0 + 0 + 1) (([] ++ (rrowsC rs).take (0 * 2)) ++ [.slice A nb c, .int .i64 x]) (by simp [Act.eval]) (hown9) (w.heap.size) (none) (0) (0) ((rrowsC rs).drop (0 * 2)) (by simp [Act.eval]) (reads_nil _ _ _ _ HDZ.out) (fun u hu => HONE.out u (List.mem_of_mem_drop hu)) (by simp only [maxLen]; omega) (by omega) (by (try simp only [World.size_alloc, World.size_drew]); omega) ?_; intro v13 w13 hown13 hg13 hat13)
          refine hK.out _ _ ?hSnc13 (fun hHeldnc13 => ?_)
          case hSnc13 => trivial
          clear hK K
          have hb13 := hb9.grown hg13 (by omega) (fun r e => by have := own_base hown9 r e; omega)
          have HF := Lib.hid (And.intro hown13 hb13)
          clear hown13 hb13 hown9 hown4 hg4 hg9 hg13 hat4 hat9 hat13 hb4 hb9 hs4 hs9 hbE hrn hrn4
          (try simp only [Act.put, List.setIfInBounds_toArray, List.set_cons_zero, List.set_cons_succ, List.getElem_toArray, List.getElem_cons_zero, List.getElem_cons_succ])
          refine wpAnyH_take (i := 14) (v := ?vnc14) rfl (by kernel_rfl) (by kernel_rfl) (by kernel_rfl) (fun _ _ _ h => h) (Or.inl ⟨by rfl, ?hync14⟩) (by assumption) ?restnc14
          case hync14 => (intro w_ hSw; (try dsimp only at hSw); obtain _ := hSw; go_simp; (try with_reducible rfl))
          (try simp only [Act.put, List.setIfInBounds_toArray, List.set_cons_zero, List.set_cons_succ, List.getElem_toArray, List.getElem_cons_zero, List.getElem_cons_succ])
          refine wpAnyH_done (by kernel_rfl) ?_ _
          go_wp2_with fail
          go_ret
          exact ⟨0, by omega, HD.out, fun h => absurd h (by omega), .inr ⟨fun h => absurd h (by omega), _, ks, rfl, put_new (by rw [Nat.sub_self]; exact HF.out.1) hlk hw3s (Nat.le_refl _), HF.out.2⟩⟩
      | some ad =>
        have hcl : k ≤ cl ∧ cl ≤ maxLen := own_cap0 HO.out
        have hcl1 := hcl.1
        have hcl2 := hcl.2
        have HRD := Lib.hid (Reads.of_own HO.out)
        subst hpk
        by_cases hcp : cl = p
        · skip
          have HDZ : Hid (((rrowsC rs).drop (p * 2)).length = 0) := by show _ = _; rw [← rrows_drop2, List.drop_of_length_le (by omega)]; rfl
          go_upto_region 7 with fail
          refine wp_region_held_drew (S := fun _ => True) (by kernel_rfl) trivial (fun hHeld => ?_)
          refine wpAnyH_take (i := 1) (v := ?vs1) rfl (by kernel_rfl) (by kernel_rfl) (by kernel_rfl) (fun _ _ _ h => h) (Or.inl ⟨by rfl, ?hys1⟩) (by assumption) ?rests1
          case hys1 => (intro w_ hSw; (try dsimp only at hSw); obtain _ := hSw; go_simp; (try with_reducible rfl))
          (try simp only [Act.put, List.setIfInBounds_toArray, List.set_cons_zero, List.set_cons_succ, List.getElem_toArray, List.getElem_cons_zero, List.getElem_cons_succ])
          refine wpAnyH_take (i := 2) (v := ?vs2) rfl (by kernel_rfl) (by kernel_rfl) (by kernel_rfl) (fun _ _ _ h => h) (Or.inl ⟨by rfl, ?hys2⟩) (by assumption) ?rests2
          case hys2 => (intro w_ hSw; (try dsimp only at hSw); obtain _ := hSw; go_simp; (try with_reducible rfl))
          (try simp only [Act.put, List.setIfInBounds_toArray, List.set_cons_zero, List.set_cons_succ, List.getElem_toArray, List.getElem_cons_zero, List.getElem_cons_succ])
          refine wpAnyH_take (i := 3) (v := ?vs3) rfl (by kernel_rfl) (by kernel_rfl) (by kernel_rfl) (fun _ _ _ h => h) (Or.inl ⟨by rfl, ?hys3⟩) (by assumption) ?rests3
          case hys3 => (intro w_ hSw; (try dsimp only at hSw); obtain _ := hSw; go_simp; (try with_reducible rfl))
          (try simp only [Act.put, List.setIfInBounds_toArray, List.set_cons_zero, List.set_cons_succ, List.getElem_toArray, List.getElem_cons_zero, List.getElem_cons_succ])
          refine wpAnyH_take (i := 5) (v := ?vs5) rfl (by kernel_rfl) (by kernel_rfl) (by kernel_rfl) (fun _ _ _ h => h) (Or.inl ⟨by rfl, ?hys5⟩) (by assumption) ?rests5
          case hys5 => (intro w_ hSw; (try dsimp only at hSw); obtain _ := hSw; go_simp; (try with_reducible rfl))
          (try simp only [Act.put, List.setIfInBounds_toArray, List.set_cons_zero, List.set_cons_succ, List.getElem_toArray, List.getElem_cons_zero, List.getElem_cons_succ])
          refine wpAnyH_take (i := 6) (v := ?vs6) rfl (by kernel_rfl) (by kernel_rfl) (by kernel_rfl) (fun _ _ _ h => h) (Or.inl ⟨by rfl, ?hys6⟩) (by assumption) ?rests6
          case hys6 => (intro w_ hSw; (try dsimp only at hSw); obtain _ := hSw; go_simp; (try with_reducible rfl))
          (try simp only [Act.put, List.setIfInBounds_toArray, List.set_cons_zero, List.set_cons_succ, List.getElem_toArray, List.getElem_cons_zero, List.getElem_cons_succ])
          refine wpAnyH_take (i := 7) (v := ?vs7) rfl (by kernel_rfl) (by kernel_rfl) (by kernel_rfl) (fun _ _ _ h => h) (Or.inl ⟨by rfl, ?hys7⟩) (by assumption) ?rests7
          case hys7 => (intro w_ hSw; (try dsimp only at hSw); obtain _ := hSw; go_simp; (try with_reducible rfl))
          (try simp only [Act.put, List.setIfInBounds_toArray, List.set_cons_zero, List.set_cons_succ, List.getElem_toArray, List.getElem_cons_zero, List.getElem_cons_succ])
          refine wpAnyH_take (i := 10) (v := ?vs10) rfl (by kernel_rfl) (by kernel_rfl) (by kernel_rfl) (fun _ _ _ h => h) (Or.inl ⟨by rfl, ?hys10⟩) (by assumption) ?rests10
          case hys10 => (intro w_ hSw; (try dsimp only at hSw); obtain _ := hSw; go_simp; (try with_reducible rfl))
          (try simp only [Act.put, List.setIfInBounds_toArray, List.set_cons_zero, List.set_cons_succ, List.getElem_toArray, List.getElem_cons_zero, List.getElem_cons_succ])
          refine wpAnyH_take (i := 11) (v := ?vs11) rfl (by kernel_rfl) (by kernel_rfl) (by kernel_rfl) (fun _ _ _ h => h) (Or.inl ⟨by rfl, ?hys11⟩) (by assumption) ?rests11
          case hys11 => (intro w_ hSw; (try dsimp only at hSw); obtain _ := hSw; go_simp; (try with_reducible rfl))
          (try simp only [Act.put, List.setIfInBounds_toArray, List.set_cons_zero, List.set_cons_succ, List.getElem_toArray, List.getElem_cons_zero, List.getElem_cons_succ])
          refine wpAnyH_take (i := 12) (v := ?vs12) rfl (by kernel_rfl) (by kernel_rfl) (by kernel_rfl) (fun _ _ _ h => h) (Or.inl ⟨by rfl, ?hys12⟩) (by assumption) ?rests12
          case hys12 => (intro w_ hSw; (try dsimp only at hSw); obtain _ := hSw; go_simp; (try with_reducible rfl))
          (try simp only [Act.put, List.setIfInBounds_toArray, List.set_cons_zero, List.set_cons_succ, List.getElem_toArray, List.getElem_cons_zero, List.getElem_cons_succ])
          refine wpAnyH_ready (rs := [0, 8]) (by kernel_rfl) (by simp) ?_
          refine AllReadyH.cons rfl (fun K hK => ?_) (AllReadyH.cons rfl (fun K hK => ?_) AllReadyH.nil)
          · go_simp
            refine hK.out _ _ ?hSsx0 (fun hHeldsx0 => ?_)
            case hSsx0 => trivial
            clear hK K
            (try simp only [Act.put, List.setIfInBounds_toArray, List.set_cons_zero, List.set_cons_succ, List.getElem_toArray, List.getElem_cons_zero, List.getElem_cons_succ])
            refine wpAnyH_ready (rs := [4, 8]) (by kernel_rfl) (by simp) ?_
            refine AllReadyH.cons rfl (fun K hK => ?_) (AllReadyH.cons rfl (fun K hK => ?_) AllReadyH.nil)
            · skip
              have hbE := ((HBW.out.alloc (by omega) (.cells (#[] : Array Value) 128)).drew)
              (refine step_append_any _ rfl (.tmp 47) (.tmp 50) _ rfl wr.heap.size 128 i0 _ 2 32 Tryz.underlying62 hi0 hz0 hz1 hz2 rfl (by omega) _ (0) ([]) (by simp [Act.eval]) (own_below (row_emptyU wr 128 2) (Below.refl _ _).drew) (w.heap.size) (some ad) (p) (p) ((rrowsC rs).take (p * 2)) (by simp [Act.eval]) ((HRD.out.head2 (Nat.le_refl _)).below hbE) (fun u hu => HONE.out u (List.mem_of_mem_take hu)) (by simp only [maxLen]; omega) (by omega) (by (try simp only [World.size_alloc, World.size_drew]); omega) ?_; intro v4 w4 hown4 hg4 hat4)
              refine hK.out _ _ ?hSsa4 (fun hHeldsa4 => ?_)
              case hSsa4 => trivial
              clear hK K
              have hs4 := hg4.size
              simp only [World.size_alloc, World.size_drew] at hs4
              have hb4 := hbE.grown hg4 (by simp only [World.size_alloc, World.size_drew]; omega) (fun r e => by (have h9 : wr.heap.size = r := (by simpa [Value.ownBlock] using e)); omega)
              (try simp only [Act.put, List.setIfInBounds_toArray, List.set_cons_zero, List.set_cons_succ, List.getElem_toArray, List.getElem_cons_zero, List.getElem_cons_succ])
              refine wpAnyH_ready (rs := [8]) (by kernel_rfl) (by simp) ?_
              refine AllReadyH.cons rfl (fun K hK => ?_) AllReadyH.nil
              go_simp
              refine hK.out _ _ ?hSsa8 (fun hHeldsa8 => ?_)
              case hSsa8 => trivial
              clear hK K
              (try simp only [Act.put, List.setIfInBounds_toArray, List.set_cons_zero, List.set_cons_succ, List.getElem_toArray, List.getElem_cons_zero, List.getElem_cons_succ])
              refine wpAnyH_ready (rs := [9]) (by kernel_rfl) (by simp) ?_
              refine AllReadyH.cons rfl (fun K hK => ?_) AllReadyH.nil
              (refine step_append_any _ rfl (.tmp 51) (.tmp 55) _ rfl wr.heap.size 128 i0 _ 2 32 Tryz.underlying62 hi0 hz0 hz1 hz2 rfl (by omega) _ (0 + p) ([] ++ (rrowsC rs).take (p * 2)) (by simp [Act.eval]) (hown4.alloc _) (w4.heap.size + 1) (some ⟨w4.heap.size, 0, none⟩) (1) (1) ([.slice A nb c, .int .i64 x]) (by simp [Act.eval]) (reads_one w4 (#[.slice A nb c, .int .i64 x] : Array Value) 128 2 rfl) (two_one _ _ _ _) (by simp only [maxLen]; omega) (by omega) (by (try simp only [World.size_alloc, World.size_drew]); omega) ?_; intro v9 w9 hown9 hg9 hat9)
              refine hK.out _ _ ?hSsa9 (fun hHeldsa9 => ?_)
              case hSsa9 => trivial
              clear hK K
              have hs9 := hg9.size
              (try simp only [World.size_alloc] at hs9)
              have hb9 := (hb4.alloc (by omega) (.cells (#[.slice A nb c, .int .i64 x] : Array Value) 128)).grown hg9 (by simp only [World.size_alloc]; omega) (fun r e => by have := own_base hown4 r e; omega)
              (try simp only [Act.put, List.setIfInBounds_toArray, List.set_cons_zero, List.set_cons_succ, List.getElem_toArray, List.getElem_cons_zero, List.getElem_cons_succ])
              refine wpAnyH_ready (rs := [13]) (by kernel_rfl) (by simp) ?_
              refine AllReadyH.cons rfl (fun K hK => ?_) AllReadyH.nil
              (refine step_append_any _ rfl (.tmp 56) (.tmp 59) _ rfl wr.heap.size 128 i0 _ 2 32 Tryz.underlying62 hi0 hz0 hz1 hz2 rfl (by omega) _ (0 + p + 1) (([] ++ (rrowsC rs).take (p * 2)) ++ [.slice A nb c, .int .i64 x]) (by simp [Act.eval]) (hown9) (w.heap.size) (some ad) (0) (cl - p) ((rrowsC rs).drop (p * 2)) (by simp [Act.eval] <;> omega) (reads_nil _ _ _ _ HDZ.out) (fun u hu => HONE.out u (List.mem_of_mem_drop hu)) (by simp only [maxLen]; omega) (by omega) (by (try simp only [World.size_alloc, World.size_drew]); omega) ?_; intro v13 w13 hown13 hg13 hat13)
              refine hK.out _ _ ?hSsa13 (fun hHeldsa13 => ?_)
              case hSsa13 => trivial
              clear hK K
              have hb13 := hb9.grown hg13 (by omega) (fun r e => by have := own_base hown9 r e; omega)
              have HF := Lib.hid (And.intro hown13 hb13)
              clear hown13 hb13 hown9 hown4 hg4 hg9 hg13 hat4 hat9 hat13 hb4 hb9 hs4 hs9 hbE
              (try simp only [Act.put, List.setIfInBounds_toArray, List.set_cons_zero, List.set_cons_succ, List.getElem_toArray, List.getElem_cons_zero, List.getElem_cons_succ])
              refine wpAnyH_take (i := 14) (v := ?vsa14) rfl (by kernel_rfl) (by kernel_rfl) (by kernel_rfl) (fun _ _ _ h => h) (Or.inl ⟨by rfl, ?hysa14⟩) (by assumption) ?restsa14
              case hysa14 => (intro w_ hSw; (try dsimp only at hSw); obtain _ := hSw; go_simp; (try with_reducible rfl))
              (try simp only [Act.put, List.setIfInBounds_toArray, List.set_cons_zero, List.set_cons_succ, List.getElem_toArray, List.getElem_cons_zero, List.getElem_cons_succ])
              refine wpAnyH_done (by kernel_rfl) ?_ _
              go_wp2_with fail
              go_ret
              exact ⟨p, by omega, HD.out, fun h => absurd h (by omega), .inr ⟨fun h => absurd h (by omega), _, ks, rfl, put_new (by rw [Nat.sub_self]; exact HF.out.1) hlk hw3s (Nat.le_refl _), HF.out.2⟩⟩
            · skip
              go_simp
              refine hK.out _ _ ?hSsb8 (fun hHeldsb8 => ?_)
              case hSsb8 => trivial
              clear hK K
              (try simp only [Act.put, List.setIfInBounds_toArray, List.set_cons_zero, List.set_cons_succ, List.getElem_toArray, List.getElem_cons_zero, List.getElem_cons_succ])
              refine wpAnyH_ready (rs := [4]) (by kernel_rfl) (by simp) ?_
              refine AllReadyH.cons rfl (fun K hK => ?_) AllReadyH.nil
              have hbE := (((HBW.out.alloc (by omega) (.cells (#[] : Array Value) 128)).alloc (by rw [World.size_alloc]; omega) (.cells (#[.slice A nb c, .int .i64 x] : Array Value) 128)).drew)
              (refine step_append_any _ rfl (.tmp 47) (.tmp 50) _ rfl wr.heap.size 128 i0 _ 2 32 Tryz.underlying62 hi0 hz0 hz1 hz2 rfl (by omega) _ (0) ([]) (by simp [Act.eval]) (own_below ((row_emptyU wr 128 2).alloc (.cells (#[.slice A nb c, .int .i64 x] : Array Value) 128)) (Below.refl _ _).drew) (w.heap.size) (some ad) (p) (p) ((rrowsC rs).take (p * 2)) (by simp [Act.eval]) ((HRD.out.head2 (Nat.le_refl _)).below hbE) (fun u hu => HONE.out u (List.mem_of_mem_take hu)) (by simp only [maxLen]; omega) (by omega) (by (try simp only [World.size_alloc, World.size_drew]); omega) ?_; intro v4 w4 hown4 hg4 hat4)
              refine hK.out _ _ ?hSsb4 (fun hHeldsb4 => ?_)
              case hSsb4 => trivial
              clear hK K
              have hs4 := hg4.size
              simp only [World.size_alloc, World.size_drew] at hs4
              have hb4 := hbE.grown hg4 (by simp only [World.size_alloc, World.size_drew]; omega) (fun r e => by (have h9 : wr.heap.size = r := (by simpa [Value.ownBlock] using e)); omega)
              have hrn : Reads (((wr.alloc (.cells (#[] : Array Value) 128)).alloc (.cells (#[.slice A nb c, .int .i64 x] : Array Value) 128)).drew) (wr.heap.size + 1 + 1) 2 (some ⟨wr.heap.size + 1, 0, none⟩) 1 [.slice A nb c, .int .i64 x] := by have := (reads_one (wr.alloc (.cells (#[] : Array Value) 128)) (#[.slice A nb c, .int .i64 x] : Array Value) 128 2 rfl).drew; simpa only [World.size_alloc] using this
              have hrn4 := reads_past hrn hg4 (by simp [Value.ownBlock]) (by simp only [World.size_alloc, World.size_drew]; omega)
              (try simp only [Act.put, List.setIfInBounds_toArray, List.set_cons_zero, List.set_cons_succ, List.getElem_toArray, List.getElem_cons_zero, List.getElem_cons_succ])
              refine wpAnyH_ready (rs := [9]) (by kernel_rfl) (by simp) ?_
              refine AllReadyH.cons rfl (fun K hK => ?_) AllReadyH.nil
              (refine step_append_any _ rfl (.tmp 51) (.tmp 55) _ rfl wr.heap.size 128 i0 _ 2 32 Tryz.underlying62 hi0 hz0 hz1 hz2 rfl (by omega) _ (0 + p) ([] ++ (rrowsC rs).take (p * 2)) (by simp [Act.eval]) (hown4) (wr.heap.size + 1 + 1) (some ⟨wr.heap.size + 1, 0, none⟩) (1) (1) ([.slice A nb c, .int .i64 x]) (by simp [Act.eval]) (hrn4) (two_one _ _ _ _) (by simp only [maxLen]; omega) (by omega) (by (try simp only [World.size_alloc, World.size_drew]); omega) ?_; intro v9 w9 hown9 hg9 hat9)
              refine hK.out _ _ ?hSsb9 (fun hHeldsb9 => ?_)
              case hSsb9 => trivial
              clear hK K
              have hs9 := hg9.size
              (try simp only [World.size_alloc] at hs9)
              have hb9 := hb4.grown hg9 (by omega) (fun r e => by have := own_base hown4 r e; omega)
              (try simp only [Act.put, List.setIfInBounds_toArray, List.set_cons_zero, List.set_cons_succ, List.getElem_toArray, List.getElem_cons_zero, List.getElem_cons_succ])
              refine wpAnyH_ready (rs := [13]) (by kernel_rfl) (by simp) ?_
              refine AllReadyH.cons rfl (fun K hK => ?_) AllReadyH.nil
              (refine step_append_any _ rfl (.tmp 56) (.tmp 59) _ rfl wr.heap.size 128 i0 _ 2 32 Tryz.underlying62 hi0 hz0 hz1 hz2 rfl (by omega) _ (0 + p + 1) (([] ++ (rrowsC rs).take (p * 2)) ++ [.slice A nb c, .int .i64 x]) (by simp [Act.eval]) (hown9) (w.heap.size) (some ad) (0) (cl - p) ((rrowsC rs).drop (p * 2)) (by simp [Act.eval] <;> omega) (reads_nil _ _ _ _ HDZ.out) (fun u hu => HONE.out u (List.mem_of_mem_drop hu)) (by simp only [maxLen]; omega) (by omega) (by (try simp only [World.size_alloc, World.size_drew]); omega) ?_; intro v13 w13 hown13 hg13 hat13)
              refine hK.out _ _ ?hSsb13 (fun hHeldsb13 => ?_)
              case hSsb13 => trivial
              clear hK K
              have hb13 := hb9.grown hg13 (by omega) (fun r e => by have := own_base hown9 r e; omega)
              have HF := Lib.hid (And.intro hown13 hb13)
              clear hown13 hb13 hown9 hown4 hg4 hg9 hg13 hat4 hat9 hat13 hb4 hb9 hs4 hs9 hbE hrn hrn4
              (try simp only [Act.put, List.setIfInBounds_toArray, List.set_cons_zero, List.set_cons_succ, List.getElem_toArray, List.getElem_cons_zero, List.getElem_cons_succ])
              refine wpAnyH_take (i := 14) (v := ?vsb14) rfl (by kernel_rfl) (by kernel_rfl) (by kernel_rfl) (fun _ _ _ h => h) (Or.inl ⟨by rfl, ?hysb14⟩) (by assumption) ?restsb14
              case hysb14 => (intro w_ hSw; (try dsimp only at hSw); obtain _ := hSw; go_simp; (try with_reducible rfl))
              (try simp only [Act.put, List.setIfInBounds_toArray, List.set_cons_zero, List.set_cons_succ, List.getElem_toArray, List.getElem_cons_zero, List.getElem_cons_succ])
              refine wpAnyH_done (by kernel_rfl) ?_ _
              go_wp2_with fail
              go_ret
              exact ⟨p, by omega, HD.out, fun h => absurd h (by omega), .inr ⟨fun h => absurd h (by omega), _, ks, rfl, put_new (by rw [Nat.sub_self]; exact HF.out.1) hlk hw3s (Nat.le_refl _), HF.out.2⟩⟩
          · go_simp
            refine hK.out _ _ ?hSsx8 (fun hHeldsx8 => ?_)
            case hSsx8 => trivial
            clear hK K
            (try simp only [Act.put, List.setIfInBounds_toArray, List.set_cons_zero, List.set_cons_succ, List.getElem_toArray, List.getElem_cons_zero, List.getElem_cons_succ])
            refine wpAnyH_ready (rs := [0]) (by kernel_rfl) (by simp) ?_
            refine AllReadyH.cons rfl (fun K hK => ?_) AllReadyH.nil
            go_simp
            refine hK.out _ _ ?hSsc0 (fun hHeldsc0 => ?_)
            case hSsc0 => trivial
            clear hK K
            (try simp only [Act.put, List.setIfInBounds_toArray, List.set_cons_zero, List.set_cons_succ, List.getElem_toArray, List.getElem_cons_zero, List.getElem_cons_succ])
            refine wpAnyH_ready (rs := [4]) (by kernel_rfl) (by simp) ?_
            refine AllReadyH.cons rfl (fun K hK => ?_) AllReadyH.nil
            have hbE := (((HBW.out.alloc (by omega) (.cells (#[.slice A nb c, .int .i64 x] : Array Value) 128)).alloc (by rw [World.size_alloc]; omega) (.cells (#[] : Array Value) 128)).drew)
            (refine step_append_any _ rfl (.tmp 47) (.tmp 50) _ rfl wr.heap.size 128 i0 _ 2 32 Tryz.underlying62 hi0 hz0 hz1 hz2 rfl (by omega) _ (0) ([]) (by simp [Act.eval]) (own_below (own_mono (row_emptyU (wr.alloc (.cells (#[.slice A nb c, .int .i64 x] : Array Value) 128)) 128 2) (by rw [World.size_alloc]; omega)) (Below.refl _ _).drew) (w.heap.size) (some ad) (p) (p) ((rrowsC rs).take (p * 2)) (by simp [Act.eval]) ((HRD.out.head2 (Nat.le_refl _)).below hbE) (fun u hu => HONE.out u (List.mem_of_mem_take hu)) (by simp only [maxLen]; omega) (by omega) (by (try simp only [World.size_alloc, World.size_drew]); omega) ?_; intro v4 w4 hown4 hg4 hat4)
            refine hK.out _ _ ?hSsc4 (fun hHeldsc4 => ?_)
            case hSsc4 => trivial
            clear hK K
            have hs4 := hg4.size
            simp only [World.size_alloc, World.size_drew] at hs4
            have hb4 := hbE.grown hg4 (by simp only [World.size_alloc, World.size_drew]; omega) (fun r e => by (have h9 : wr.heap.size + 1 = r := (by simpa [Value.ownBlock] using e)); omega)
            have hrn : Reads (((wr.alloc (.cells (#[.slice A nb c, .int .i64 x] : Array Value) 128)).alloc (.cells (#[] : Array Value) 128)).drew) (wr.heap.size + 1) 2 (some ⟨wr.heap.size, 0, none⟩) 1 [.slice A nb c, .int .i64 x] := by have := ((reads_one wr (#[.slice A nb c, .int .i64 x] : Array Value) 128 2 rfl).alloc (by rw [World.size_alloc]; omega) (.cells (#[] : Array Value) 128)).drew; simpa only [World.size_alloc] using this
            have hrn4 := reads_past hrn hg4 (by simp [Value.ownBlock]) (by simp only [World.size_alloc, World.size_drew]; omega)
            (try simp only [Act.put, List.setIfInBounds_toArray, List.set_cons_zero, List.set_cons_succ, List.getElem_toArray, List.getElem_cons_zero, List.getElem_cons_succ])
            refine wpAnyH_ready (rs := [9]) (by kernel_rfl) (by simp) ?_
            refine AllReadyH.cons rfl (fun K hK => ?_) AllReadyH.nil
            (refine step_append_any _ rfl (.tmp 51) (.tmp 55) _ rfl wr.heap.size 128 i0 _ 2 32 Tryz.underlying62 hi0 hz0 hz1 hz2 rfl (by omega) _ (0 + p) ([] ++ (rrowsC rs).take (p * 2)) (by simp [Act.eval]) (hown4) (wr.heap.size + 1) (some ⟨wr.heap.size, 0, none⟩) (1) (1) ([.slice A nb c, .int .i64 x]) (by simp [Act.eval]) (hrn4) (two_one _ _ _ _) (by simp only [maxLen]; omega) (by omega) (by (try simp only [World.size_alloc, World.size_drew]); omega) ?_; intro v9 w9 hown9 hg9 hat9)
            refine hK.out _ _ ?hSsc9 (fun hHeldsc9 => ?_)
            case hSsc9 => trivial
            clear hK K
            have hs9 := hg9.size
            (try simp only [World.size_alloc] at hs9)
            have hb9 := hb4.grown hg9 (by omega) (fun r e => by have := own_base hown4 r e; omega)
            (try simp only [Act.put, List.setIfInBounds_toArray, List.set_cons_zero, List.set_cons_succ, List.getElem_toArray, List.getElem_cons_zero, List.getElem_cons_succ])
            refine wpAnyH_ready (rs := [13]) (by kernel_rfl) (by simp) ?_
            refine AllReadyH.cons rfl (fun K hK => ?_) AllReadyH.nil
            (refine step_append_any _ rfl (.tmp 56) (.tmp 59) _ rfl wr.heap.size 128 i0 _ 2 32 Tryz.underlying62 hi0 hz0 hz1 hz2 rfl (by omega) _ (0 + p + 1) (([] ++ (rrowsC rs).take (p * 2)) ++ [.slice A nb c, .int .i64 x]) (by simp [Act.eval]) (hown9) (w.heap.size) (some ad) (0) (cl - p) ((rrowsC rs).drop (p * 2)) (by simp [Act.eval] <;> omega) (reads_nil _ _ _ _ HDZ.out) (fun u hu => HONE.out u (List.mem_of_mem_drop hu)) (by simp only [maxLen]; omega) (by omega) (by (try simp only [World.size_alloc, World.size_drew]); omega) ?_; intro v13 w13 hown13 hg13 hat13)
            refine hK.out _ _ ?hSsc13 (fun hHeldsc13 => ?_)
            case hSsc13 => trivial
            clear hK K
            have hb13 := hb9.grown hg13 (by omega) (fun r e => by have := own_base hown9 r e; omega)
            have HF := Lib.hid (And.intro hown13 hb13)
            clear hown13 hb13 hown9 hown4 hg4 hg9 hg13 hat4 hat9 hat13 hb4 hb9 hs4 hs9 hbE hrn hrn4
            (try simp only [Act.put, List.setIfInBounds_toArray, List.set_cons_zero, List.set_cons_succ, List.getElem_toArray, List.getElem_cons_zero, List.getElem_cons_succ])
            refine wpAnyH_take (i := 14) (v := ?vsc14) rfl (by kernel_rfl) (by kernel_rfl) (by kernel_rfl) (fun _ _ _ h => h) (Or.inl ⟨by rfl, ?hysc14⟩) (by assumption) ?restsc14
            case hysc14 => (intro w_ hSw; (try dsimp only at hSw); obtain _ := hSw; go_simp; (try with_reducible rfl))
            (try simp only [Act.put, List.setIfInBounds_toArray, List.set_cons_zero, List.set_cons_succ, List.getElem_toArray, List.getElem_cons_zero, List.getElem_cons_succ])
            refine wpAnyH_done (by kernel_rfl) ?_ _
            go_wp2_with fail
            go_ret
            exact ⟨p, by omega, HD.out, fun h => absurd h (by omega), .inr ⟨fun h => absurd h (by omega), _, ks, rfl, put_new (by rw [Nat.sub_self]; exact HF.out.1) hlk hw3s (Nat.le_refl _), HF.out.2⟩⟩
        · skip
          have HDZ : Hid (((rrowsC rs).drop (p * 2)).length = 0) := by show _ = _; rw [← rrows_drop2, List.drop_of_length_le (by omega)]; rfl
          go_upto_region 7 with fail
          refine wp_region_held_drew (S := fun _ => True) (by kernel_rfl) trivial (fun hHeld => ?_)
          refine wpAnyH_take (i := 1) (v := ?vu1) rfl (by kernel_rfl) (by kernel_rfl) (by kernel_rfl) (fun _ _ _ h => h) (Or.inl ⟨by rfl, ?hyu1⟩) (by assumption) ?restu1
          case hyu1 => (intro w_ hSw; (try dsimp only at hSw); obtain _ := hSw; go_simp; (try with_reducible rfl))
          (try simp only [Act.put, List.setIfInBounds_toArray, List.set_cons_zero, List.set_cons_succ, List.getElem_toArray, List.getElem_cons_zero, List.getElem_cons_succ])
          refine wpAnyH_take (i := 2) (v := ?vu2) rfl (by kernel_rfl) (by kernel_rfl) (by kernel_rfl) (fun _ _ _ h => h) (Or.inl ⟨by rfl, ?hyu2⟩) (by assumption) ?restu2
          case hyu2 => (intro w_ hSw; (try dsimp only at hSw); obtain _ := hSw; go_simp; (try with_reducible rfl))
          (try simp only [Act.put, List.setIfInBounds_toArray, List.set_cons_zero, List.set_cons_succ, List.getElem_toArray, List.getElem_cons_zero, List.getElem_cons_succ])
          refine wpAnyH_take (i := 3) (v := ?vu3) rfl (by kernel_rfl) (by kernel_rfl) (by kernel_rfl) (fun _ _ _ h => h) (Or.inl ⟨by rfl, ?hyu3⟩) (by assumption) ?restu3
          case hyu3 => (intro w_ hSw; (try dsimp only at hSw); obtain _ := hSw; go_simp; (try with_reducible rfl))
          (try simp only [Act.put, List.setIfInBounds_toArray, List.set_cons_zero, List.set_cons_succ, List.getElem_toArray, List.getElem_cons_zero, List.getElem_cons_succ])
          refine wpAnyH_take (i := 5) (v := ?vu5) rfl (by kernel_rfl) (by kernel_rfl) (by kernel_rfl) (fun _ _ _ h => h) (Or.inl ⟨by rfl, ?hyu5⟩) (by assumption) ?restu5
          case hyu5 => (intro w_ hSw; (try dsimp only at hSw); obtain _ := hSw; go_simp; (try with_reducible rfl))
          (try simp only [Act.put, List.setIfInBounds_toArray, List.set_cons_zero, List.set_cons_succ, List.getElem_toArray, List.getElem_cons_zero, List.getElem_cons_succ])
          refine wpAnyH_take (i := 6) (v := ?vu6) rfl (by kernel_rfl) (by kernel_rfl) (by kernel_rfl) (fun _ _ _ h => h) (Or.inl ⟨by rfl, ?hyu6⟩) (by assumption) ?restu6
          case hyu6 => (intro w_ hSw; (try dsimp only at hSw); obtain _ := hSw; go_simp; (try with_reducible rfl))
          (try simp only [Act.put, List.setIfInBounds_toArray, List.set_cons_zero, List.set_cons_succ, List.getElem_toArray, List.getElem_cons_zero, List.getElem_cons_succ])
          refine wpAnyH_take (i := 7) (v := ?vu7) rfl (by kernel_rfl) (by kernel_rfl) (by kernel_rfl) (fun _ _ _ h => h) (Or.inl ⟨by rfl, ?hyu7⟩) (by assumption) ?restu7
          case hyu7 => (intro w_ hSw; (try dsimp only at hSw); obtain _ := hSw; go_simp; (try with_reducible rfl))
          (try simp only [Act.put, List.setIfInBounds_toArray, List.set_cons_zero, List.set_cons_succ, List.getElem_toArray, List.getElem_cons_zero, List.getElem_cons_succ])
          refine wpAnyH_take (i := 10) (v := ?vu10) rfl (by kernel_rfl) (by kernel_rfl) (by kernel_rfl) (fun _ _ _ h => h) (Or.inl ⟨by rfl, ?hyu10⟩) (by assumption) ?restu10
          case hyu10 => (intro w_ hSw; (try dsimp only at hSw); obtain _ := hSw; go_simp; (try with_reducible rfl))
          (try simp only [Act.put, List.setIfInBounds_toArray, List.set_cons_zero, List.set_cons_succ, List.getElem_toArray, List.getElem_cons_zero, List.getElem_cons_succ])
          refine wpAnyH_take (i := 11) (v := ?vu11) rfl (by kernel_rfl) (by kernel_rfl) (by kernel_rfl) (fun _ _ _ h => h) (Or.inl ⟨by rfl, ?hyu11⟩) (by assumption) ?restu11
          case hyu11 => (intro w_ hSw; (try dsimp only at hSw); obtain _ := hSw; go_simp; (try with_reducible rfl))
          (try simp only [Act.put, List.setIfInBounds_toArray, List.set_cons_zero, List.set_cons_succ, List.getElem_toArray, List.getElem_cons_zero, List.getElem_cons_succ])
          refine wpAnyH_take (i := 12) (v := ?vu12) rfl (by kernel_rfl) (by kernel_rfl) (by kernel_rfl) (fun _ _ _ h => h) (Or.inl ⟨by rfl, ?hyu12⟩) (by assumption) ?restu12
          case hyu12 => (intro w_ hSw; (try dsimp only at hSw); obtain _ := hSw; go_simp; (try with_reducible rfl))
          (try simp only [Act.put, List.setIfInBounds_toArray, List.set_cons_zero, List.set_cons_succ, List.getElem_toArray, List.getElem_cons_zero, List.getElem_cons_succ])
          refine wpAnyH_ready (rs := [0, 8]) (by kernel_rfl) (by simp) ?_
          refine AllReadyH.cons rfl (fun K hK => ?_) (AllReadyH.cons rfl (fun K hK => ?_) AllReadyH.nil)
          · go_simp
            refine hK.out _ _ ?hSux0 (fun hHeldux0 => ?_)
            case hSux0 => trivial
            clear hK K
            (try simp only [Act.put, List.setIfInBounds_toArray, List.set_cons_zero, List.set_cons_succ, List.getElem_toArray, List.getElem_cons_zero, List.getElem_cons_succ])
            refine wpAnyH_ready (rs := [4, 8]) (by kernel_rfl) (by simp) ?_
            refine AllReadyH.cons rfl (fun K hK => ?_) (AllReadyH.cons rfl (fun K hK => ?_) AllReadyH.nil)
            · skip
              have hbE := ((HBW.out.alloc (by omega) (.cells (#[] : Array Value) 128)).drew)
              (refine step_append_any _ rfl (.tmp 47) (.tmp 50) _ rfl wr.heap.size 128 i0 _ 2 32 Tryz.underlying62 hi0 hz0 hz1 hz2 rfl (by omega) _ (0) ([]) (by simp [Act.eval]) (own_below (row_emptyU wr 128 2) (Below.refl _ _).drew) (w.heap.size) (some ad) (p) (cl) ((rrowsC rs).take (p * 2)) (by simp [Act.eval]) ((HRD.out.head2 (Nat.le_refl _)).below hbE) (fun u hu => HONE.out u (List.mem_of_mem_take hu)) (by simp only [maxLen]; omega) (by omega) (by (try simp only [World.size_alloc, World.size_drew]); omega) ?_; intro v4 w4 hown4 hg4 hat4)
              refine hK.out _ _ ?hSua4 (fun hHeldua4 => ?_)
              case hSua4 => trivial
              clear hK K
              have hs4 := hg4.size
              simp only [World.size_alloc, World.size_drew] at hs4
              have hb4 := hbE.grown hg4 (by simp only [World.size_alloc, World.size_drew]; omega) (fun r e => by (have h9 : wr.heap.size = r := (by simpa [Value.ownBlock] using e)); omega)
              (try simp only [Act.put, List.setIfInBounds_toArray, List.set_cons_zero, List.set_cons_succ, List.getElem_toArray, List.getElem_cons_zero, List.getElem_cons_succ])
              refine wpAnyH_ready (rs := [8]) (by kernel_rfl) (by simp) ?_
              refine AllReadyH.cons rfl (fun K hK => ?_) AllReadyH.nil
              go_simp
              refine hK.out _ _ ?hSua8 (fun hHeldua8 => ?_)
              case hSua8 => trivial
              clear hK K
              (try simp only [Act.put, List.setIfInBounds_toArray, List.set_cons_zero, List.set_cons_succ, List.getElem_toArray, List.getElem_cons_zero, List.getElem_cons_succ])
              refine wpAnyH_ready (rs := [9]) (by kernel_rfl) (by simp) ?_
              refine AllReadyH.cons rfl (fun K hK => ?_) AllReadyH.nil
              (refine step_append_any _ rfl (.tmp 51) (.tmp 55) _ rfl wr.heap.size 128 i0 _ 2 32 Tryz.underlying62 hi0 hz0 hz1 hz2 rfl (by omega) _ (0 + p) ([] ++ (rrowsC rs).take (p * 2)) (by simp [Act.eval]) (hown4.alloc _) (w4.heap.size + 1) (some ⟨w4.heap.size, 0, none⟩) (1) (1) ([.slice A nb c, .int .i64 x]) (by simp [Act.eval]) (reads_one w4 (#[.slice A nb c, .int .i64 x] : Array Value) 128 2 rfl) (two_one _ _ _ _) (by simp only [maxLen]; omega) (by omega) (by (try simp only [World.size_alloc, World.size_drew]); omega) ?_; intro v9 w9 hown9 hg9 hat9)
              refine hK.out _ _ ?hSua9 (fun hHeldua9 => ?_)
              case hSua9 => trivial
              clear hK K
              have hs9 := hg9.size
              (try simp only [World.size_alloc] at hs9)
              have hb9 := (hb4.alloc (by omega) (.cells (#[.slice A nb c, .int .i64 x] : Array Value) 128)).grown hg9 (by simp only [World.size_alloc]; omega) (fun r e => by have := own_base hown4 r e; omega)
              (try simp only [Act.put, List.setIfInBounds_toArray, List.set_cons_zero, List.set_cons_succ, List.getElem_toArray, List.getElem_cons_zero, List.getElem_cons_succ])
              refine wpAnyH_ready (rs := [13]) (by kernel_rfl) (by simp) ?_
              refine AllReadyH.cons rfl (fun K hK => ?_) AllReadyH.nil
              (refine step_append_any _ rfl (.tmp 56) (.tmp 59) _ rfl wr.heap.size 128 i0 _ 2 32 Tryz.underlying62 hi0 hz0 hz1 hz2 rfl (by omega) _ (0 + p + 1) (([] ++ (rrowsC rs).take (p * 2)) ++ [.slice A nb c, .int .i64 x]) (by simp [Act.eval]) (hown9) (w.heap.size) (some (ad.add (p * 2))) (0) (cl - p) ((rrowsC rs).drop (p * 2)) (by first | simp [Act.eval, hcp] | (simp [Act.eval] <;> omega)) (reads_nil _ _ _ _ HDZ.out) (fun u hu => HONE.out u (List.mem_of_mem_drop hu)) (by simp only [maxLen]; omega) (by omega) (by (try simp only [World.size_alloc, World.size_drew]); omega) ?_; intro v13 w13 hown13 hg13 hat13)
              refine hK.out _ _ ?hSua13 (fun hHeldua13 => ?_)
              case hSua13 => trivial
              clear hK K
              have hb13 := hb9.grown hg13 (by omega) (fun r e => by have := own_base hown9 r e; omega)
              have HF := Lib.hid (And.intro hown13 hb13)
              clear hown13 hb13 hown9 hown4 hg4 hg9 hg13 hat4 hat9 hat13 hb4 hb9 hs4 hs9 hbE
              (try simp only [Act.put, List.setIfInBounds_toArray, List.set_cons_zero, List.set_cons_succ, List.getElem_toArray, List.getElem_cons_zero, List.getElem_cons_succ])
              refine wpAnyH_take (i := 14) (v := ?vua14) rfl (by kernel_rfl) (by kernel_rfl) (by kernel_rfl) (fun _ _ _ h => h) (Or.inl ⟨by rfl, ?hyua14⟩) (by assumption) ?restua14
              case hyua14 => (intro w_ hSw; (try dsimp only at hSw); obtain _ := hSw; go_simp; (try with_reducible rfl))
              (try simp only [Act.put, List.setIfInBounds_toArray, List.set_cons_zero, List.set_cons_succ, List.getElem_toArray, List.getElem_cons_zero, List.getElem_cons_succ])
              refine wpAnyH_done (by kernel_rfl) ?_ _
              go_wp2_with fail
              go_ret
              exact ⟨p, by omega, HD.out, fun h => absurd h (by omega), .inr ⟨fun h => absurd h (by omega), _, ks, rfl, put_new (by rw [Nat.sub_self]; exact HF.out.1) hlk hw3s (Nat.le_refl _), HF.out.2⟩⟩
            · skip
              go_simp
              refine hK.out _ _ ?hSub8 (fun hHeldub8 => ?_)
              case hSub8 => trivial
              clear hK K
              (try simp only [Act.put, List.setIfInBounds_toArray, List.set_cons_zero, List.set_cons_succ, List.getElem_toArray, List.getElem_cons_zero, List.getElem_cons_succ])
              refine wpAnyH_ready (rs := [4]) (by kernel_rfl) (by simp) ?_
              refine AllReadyH.cons rfl (fun K hK => ?_) AllReadyH.nil
              have hbE := (((HBW.out.alloc (by omega) (.cells (#[] : Array Value) 128)).alloc (by rw [World.size_alloc]; omega) (.cells (#[.slice A nb c, .int .i64 x] : Array Value) 128)).drew)
              (refine step_append_any _ rfl (.tmp 47) (.tmp 50) _ rfl wr.heap.size 128 i0 _ 2 32 Tryz.underlying62 hi0 hz0 hz1 hz2 rfl (by omega) _ (0) ([]) (by simp [Act.eval]) (own_below ((row_emptyU wr 128 2).alloc (.cells (#[.slice A nb c, .int .i64 x] : Array Value) 128)) (Below.refl _ _).drew) (w.heap.size) (some ad) (p) (cl) ((rrowsC rs).take (p * 2)) (by simp [Act.eval]) ((HRD.out.head2 (Nat.le_refl _)).below hbE) (fun u hu => HONE.out u (List.mem_of_mem_take hu)) (by simp only [maxLen]; omega) (by omega) (by (try simp only [World.size_alloc, World.size_drew]); omega) ?_; intro v4 w4 hown4 hg4 hat4)
              refine hK.out _ _ ?hSub4 (fun hHeldub4 => ?_)
              case hSub4 => trivial
              clear hK K
              have hs4 := hg4.size
              simp only [World.size_alloc, World.size_drew] at hs4
              have hb4 := hbE.grown hg4 (by simp only [World.size_alloc, World.size_drew]; omega) (fun r e => by (have h9 : wr.heap.size = r := (by simpa [Value.ownBlock] using e)); omega)
              have hrn : Reads (((wr.alloc (.cells (#[] : Array Value) 128)).alloc (.cells (#[.slice A nb c, .int .i64 x] : Array Value) 128)).drew) (wr.heap.size + 1 + 1) 2 (some ⟨wr.heap.size + 1, 0, none⟩) 1 [.slice A nb c, .int .i64 x] := by have := (reads_one (wr.alloc (.cells (#[] : Array Value) 128)) (#[.slice A nb c, .int .i64 x] : Array Value) 128 2 rfl).drew; simpa only [World.size_alloc] using this
              have hrn4 := reads_past hrn hg4 (by simp [Value.ownBlock]) (by simp only [World.size_alloc, World.size_drew]; omega)
              (try simp only [Act.put, List.setIfInBounds_toArray, List.set_cons_zero, List.set_cons_succ, List.getElem_toArray, List.getElem_cons_zero, List.getElem_cons_succ])
              refine wpAnyH_ready (rs := [9]) (by kernel_rfl) (by simp) ?_
              refine AllReadyH.cons rfl (fun K hK => ?_) AllReadyH.nil
              (refine step_append_any _ rfl (.tmp 51) (.tmp 55) _ rfl wr.heap.size 128 i0 _ 2 32 Tryz.underlying62 hi0 hz0 hz1 hz2 rfl (by omega) _ (0 + p) ([] ++ (rrowsC rs).take (p * 2)) (by simp [Act.eval]) (hown4) (wr.heap.size + 1 + 1) (some ⟨wr.heap.size + 1, 0, none⟩) (1) (1) ([.slice A nb c, .int .i64 x]) (by simp [Act.eval]) (hrn4) (two_one _ _ _ _) (by simp only [maxLen]; omega) (by omega) (by (try simp only [World.size_alloc, World.size_drew]); omega) ?_; intro v9 w9 hown9 hg9 hat9)
              refine hK.out _ _ ?hSub9 (fun hHeldub9 => ?_)
              case hSub9 => trivial
              clear hK K
              have hs9 := hg9.size
              (try simp only [World.size_alloc] at hs9)
              have hb9 := hb4.grown hg9 (by omega) (fun r e => by have := own_base hown4 r e; omega)
              (try simp only [Act.put, List.setIfInBounds_toArray, List.set_cons_zero, List.set_cons_succ, List.getElem_toArray, List.getElem_cons_zero, List.getElem_cons_succ])
              refine wpAnyH_ready (rs := [13]) (by kernel_rfl) (by simp) ?_
              refine AllReadyH.cons rfl (fun K hK => ?_) AllReadyH.nil
              (refine step_append_any _ rfl (.tmp 56) (.tmp 59) _ rfl wr.heap.size 128 i0 _ 2 32 Tryz.underlying62 hi0 hz0 hz1 hz2 rfl (by omega) _ (0 + p + 1) (([] ++ (rrowsC rs).take (p * 2)) ++ [.slice A nb c, .int .i64 x]) (by simp [Act.eval]) (hown9) (w.heap.size) (some (ad.add (p * 2))) (0) (cl - p) ((rrowsC rs).drop (p * 2)) (by first | simp [Act.eval, hcp] | (simp [Act.eval] <;> omega)) (reads_nil _ _ _ _ HDZ.out) (fun u hu => HONE.out u (List.mem_of_mem_drop hu)) (by simp only [maxLen]; omega) (by omega) (by (try simp only [World.size_alloc, World.size_drew]); omega) ?_; intro v13 w13 hown13 hg13 hat13)
              refine hK.out _ _ ?hSub13 (fun hHeldub13 => ?_)
              case hSub13 => trivial
              clear hK K
              have hb13 := hb9.grown hg13 (by omega) (fun r e => by have := own_base hown9 r e; omega)
              have HF := Lib.hid (And.intro hown13 hb13)
              clear hown13 hb13 hown9 hown4 hg4 hg9 hg13 hat4 hat9 hat13 hb4 hb9 hs4 hs9 hbE hrn hrn4
              (try simp only [Act.put, List.setIfInBounds_toArray, List.set_cons_zero, List.set_cons_succ, List.getElem_toArray, List.getElem_cons_zero, List.getElem_cons_succ])
              refine wpAnyH_take (i := 14) (v := ?vub14) rfl (by kernel_rfl) (by kernel_rfl) (by kernel_rfl) (fun _ _ _ h => h) (Or.inl ⟨by rfl, ?hyub14⟩) (by assumption) ?restub14
              case hyub14 => (intro w_ hSw; (try dsimp only at hSw); obtain _ := hSw; go_simp; (try with_reducible rfl))
              (try simp only [Act.put, List.setIfInBounds_toArray, List.set_cons_zero, List.set_cons_succ, List.getElem_toArray, List.getElem_cons_zero, List.getElem_cons_succ])
              refine wpAnyH_done (by kernel_rfl) ?_ _
              go_wp2_with fail
              go_ret
              exact ⟨p, by omega, HD.out, fun h => absurd h (by omega), .inr ⟨fun h => absurd h (by omega), _, ks, rfl, put_new (by rw [Nat.sub_self]; exact HF.out.1) hlk hw3s (Nat.le_refl _), HF.out.2⟩⟩
          · go_simp
            refine hK.out _ _ ?hSux8 (fun hHeldux8 => ?_)
            case hSux8 => trivial
            clear hK K
            (try simp only [Act.put, List.setIfInBounds_toArray, List.set_cons_zero, List.set_cons_succ, List.getElem_toArray, List.getElem_cons_zero, List.getElem_cons_succ])
            refine wpAnyH_ready (rs := [0]) (by kernel_rfl) (by simp) ?_
            refine AllReadyH.cons rfl (fun K hK => ?_) AllReadyH.nil
            go_simp
            refine hK.out _ _ ?hSuc0 (fun hHelduc0 => ?_)
            case hSuc0 => trivial
            clear hK K
            (try simp only [Act.put, List.setIfInBounds_toArray, List.set_cons_zero, List.set_cons_succ, List.getElem_toArray, List.getElem_cons_zero, List.getElem_cons_succ])
            refine wpAnyH_ready (rs := [4]) (by kernel_rfl) (by simp) ?_
            refine AllReadyH.cons rfl (fun K hK => ?_) AllReadyH.nil
            have hbE := (((HBW.out.alloc (by omega) (.cells (#[.slice A nb c, .int .i64 x] : Array Value) 128)).alloc (by rw [World.size_alloc]; omega) (.cells (#[] : Array Value) 128)).drew)
            (refine step_append_any _ rfl (.tmp 47) (.tmp 50) _ rfl wr.heap.size 128 i0 _ 2 32 Tryz.underlying62 hi0 hz0 hz1 hz2 rfl (by omega) _ (0) ([]) (by simp [Act.eval]) (own_below (own_mono (row_emptyU (wr.alloc (.cells (#[.slice A nb c, .int .i64 x] : Array Value) 128)) 128 2) (by rw [World.size_alloc]; omega)) (Below.refl _ _).drew) (w.heap.size) (some ad) (p) (cl) ((rrowsC rs).take (p * 2)) (by simp [Act.eval]) ((HRD.out.head2 (Nat.le_refl _)).below hbE) (fun u hu => HONE.out u (List.mem_of_mem_take hu)) (by simp only [maxLen]; omega) (by omega) (by (try simp only [World.size_alloc, World.size_drew]); omega) ?_; intro v4 w4 hown4 hg4 hat4)
            refine hK.out _ _ ?hSuc4 (fun hHelduc4 => ?_)
            case hSuc4 => trivial
            clear hK K
            have hs4 := hg4.size
            simp only [World.size_alloc, World.size_drew] at hs4
            have hb4 := hbE.grown hg4 (by simp only [World.size_alloc, World.size_drew]; omega) (fun r e => by (have h9 : wr.heap.size + 1 = r := (by simpa [Value.ownBlock] using e)); omega)
            have hrn : Reads (((wr.alloc (.cells (#[.slice A nb c, .int .i64 x] : Array Value) 128)).alloc (.cells (#[] : Array Value) 128)).drew) (wr.heap.size + 1) 2 (some ⟨wr.heap.size, 0, none⟩) 1 [.slice A nb c, .int .i64 x] := by have := ((reads_one wr (#[.slice A nb c, .int .i64 x] : Array Value) 128 2 rfl).alloc (by rw [World.size_alloc]; omega) (.cells (#[] : Array Value) 128)).drew; simpa only [World.size_alloc] using this
            have hrn4 := reads_past hrn hg4 (by simp [Value.ownBlock]) (by simp only [World.size_alloc, World.size_drew]; omega)
            (try simp only [Act.put, List.setIfInBounds_toArray, List.set_cons_zero, List.set_cons_succ, List.getElem_toArray, List.getElem_cons_zero, List.getElem_cons_succ])
            refine wpAnyH_ready (rs := [9]) (by kernel_rfl) (by simp) ?_
            refine AllReadyH.cons rfl (fun K hK => ?_) AllReadyH.nil
            (refine step_append_any _ rfl (.tmp 51) (.tmp 55) _ rfl wr.heap.size 128 i0 _ 2 32 Tryz.underlying62 hi0 hz0 hz1 hz2 rfl (by omega) _ (0 + p) ([] ++ (rrowsC rs).take (p * 2)) (by simp [Act.eval]) (hown4) (wr.heap.size + 1) (some ⟨wr.heap.size, 0, none⟩) (1) (1) ([.slice A nb c, .int .i64 x]) (by simp [Act.eval]) (hrn4) (two_one _ _ _ _) (by simp only [maxLen]; omega) (by omega) (by (try simp only [World.size_alloc, World.size_drew]); omega) ?_; intro v9 w9 hown9 hg9 hat9)
            refine hK.out _ _ ?hSuc9 (fun hHelduc9 => ?_)
            case hSuc9 => trivial
            clear hK K
            have hs9 := hg9.size
            (try simp only [World.size_alloc] at hs9)
            have hb9 := hb4.grown hg9 (by omega) (fun r e => by have := own_base hown4 r e; omega)
            (try simp only [Act.put, List.setIfInBounds_toArray, List.set_cons_zero, List.set_cons_succ, List.getElem_toArray, List.getElem_cons_zero, List.getElem_cons_succ])
            refine wpAnyH_ready (rs := [13]) (by kernel_rfl) (by simp) ?_
            refine AllReadyH.cons rfl (fun K hK => ?_) AllReadyH.nil
            (refine step_append_any _ rfl (.tmp 56) (.tmp 59) _ rfl wr.heap.size 128 i0 _ 2 32 Tryz.underlying62 hi0 hz0 hz1 hz2 rfl (by omega) _ (0 + p + 1) (([] ++ (rrowsC rs).take (p * 2)) ++ [.slice A nb c, .int .i64 x]) (by simp [Act.eval]) (hown9) (w.heap.size) (some (ad.add (p * 2))) (0) (cl - p) ((rrowsC rs).drop (p * 2)) (by first | simp [Act.eval, hcp] | (simp [Act.eval] <;> omega)) (reads_nil _ _ _ _ HDZ.out) (fun u hu => HONE.out u (List.mem_of_mem_drop hu)) (by simp only [maxLen]; omega) (by omega) (by (try simp only [World.size_alloc, World.size_drew]); omega) ?_; intro v13 w13 hown13 hg13 hat13)
            refine hK.out _ _ ?hSuc13 (fun hHelduc13 => ?_)
            case hSuc13 => trivial
            clear hK K
            have hb13 := hb9.grown hg13 (by omega) (fun r e => by have := own_base hown9 r e; omega)
            have HF := Lib.hid (And.intro hown13 hb13)
            clear hown13 hb13 hown9 hown4 hg4 hg9 hg13 hat4 hat9 hat13 hb4 hb9 hs4 hs9 hbE hrn hrn4
            (try simp only [Act.put, List.setIfInBounds_toArray, List.set_cons_zero, List.set_cons_succ, List.getElem_toArray, List.getElem_cons_zero, List.getElem_cons_succ])
            refine wpAnyH_take (i := 14) (v := ?vuc14) rfl (by kernel_rfl) (by kernel_rfl) (by kernel_rfl) (fun _ _ _ h => h) (Or.inl ⟨by rfl, ?hyuc14⟩) (by assumption) ?restuc14
            case hyuc14 => (intro w_ hSw; (try dsimp only at hSw); obtain _ := hSw; go_simp; (try with_reducible rfl))
            (try simp only [Act.put, List.setIfInBounds_toArray, List.set_cons_zero, List.set_cons_succ, List.getElem_toArray, List.getElem_cons_zero, List.getElem_cons_succ])
            refine wpAnyH_done (by kernel_rfl) ?_ _
            go_wp2_with fail
            go_ret
            exact ⟨p, by omega, HD.out, fun h => absurd h (by omega), .inr ⟨fun h => absurd h (by omega), _, ks, rfl, put_new (by rw [Nat.sub_self]; exact HF.out.1) hlk hw3s (Nat.le_refl _), HF.out.2⟩⟩
end Go.Proofs.YtfnlddloalineaaGreatDoor
