/-
  query.Print at valid queries: the walk.
-/
import Derived.Test.YtfnlddloalineaaGreatDoorQryPA
import Derived.Deep.Cut
import Derived.Deep.CutRange
import Derived.Deep.CutBlock
import Derived.Deep.AppendLies
import Derived.Deep.RegionHeldLaw
import Derived.Deep.MidRow
namespace Go.Proofs.YtfnlddloalineaaGreatDoor
open Go.RowKit
set_option linter.unusedVariables false
set_option linter.unusedSimpArgs false
set_option maxRecDepth 100000
theorem own_apart {v v' : Value} {M : Nat} (h : ∀ k, v.ownBlock = some k → k < M) (h' : ∀ k, v'.ownBlock = some k → M ≤ k) : v.ownBlock = none ∨ v.ownBlock ≠ v'.ownBlock := by
  cases h4 : v.ownBlock with
  | none => exact .inl rfl
  | some b => exact .inr (fun e => by have := h b h4; have := h' b e.symm; omega)
theorem wpAnyH_weak {P : Program} {md : Region.Mode} {ops : Array Oper} {Q : Exit → Act → World → Prop} {S S2 : World → Prop} (h : ∀ w, S2 w → S w) : ∀ (fuel : Nat) (listed : Array Bool) (a : Act) (w : World), wpAnyH P md ops Q S2 fuel listed a w → wpAnyH P md ops Q S fuel listed a w
  | 0, _, _, _, hh => hh
  | fuel + 1, _, _, _, hh => ⟨hh.1, fun i hi => wpOp_mono (fun a' w' h' => ⟨h _ h'.1, wpAnyH_weak h fuel _ a' w' h'.2⟩) (hh.2 i hi)⟩
theorem whP_len : ∀ (l : List SCond), (whP l).length = 4 * l.length := by
  intro l
  cases l with
  | nil => rfl
  | cons c r =>
    have h : ∀ (r : List SCond), (r.flatMap (cW andW)).length = 4 * r.length := by
      intro r
      induction r with
      | nil => rfl
      | cons x r ih => rw [List.flatMap_cons, List.length_append, ih]; simp only [cW, List.length_cons, List.length_nil]; omega
    show (cW whereW c ++ r.flatMap (cW andW)).length = _
    rw [List.length_append, h]; simp only [cW, List.length_cons, List.length_nil]; omega
set_option maxHeartbeats 8000000 in
theorem print_yes (q : SQry) (Ab Aw : Option Addr) (nb nw cb cw B : Nat) (w : World) (hE : Env w) (hq : OkQ q) (hb : RdBy w B Ab q.by_) (hnb : nb = q.by_.length) (hcb : nb ≤ cb) (hw : Reads w B 3 Aw nw (cndC q.wh)) (hB : B ≤ w.heap.size) (hn : nb ≤ 10000) (hl : (prT q).length ≤ 100000000) (hl2 : (Lib.join (q.by_.map fdW) [44]).length ≤ 100000000) :
    Calls Tryz.prog 17 #[.agg #[.int .i64 q.verb, .slice Ab nb cb, .slice Aw nw cw]] w fun e w' => e = .returned (.tuple #[.string ⟨(prT q).toArray⟩, .int .i64 0]) ∧ Below w.heap.size w w' := by
  have hnw : q.wh.length = nw := by have := hw.1; rw [cndC_len] at this; omega
  have hwl : nw ≤ 20 := by have := hq.wl; omega
  have hb0 := (Below.refl w.heap.size w).alloc (Nat.le_refl _) (.cells (#[.int .i64 q.verb, .slice Ab nb cb, .slice Aw nw cw] : Array Value) 26)
  have hk0 := Blk.new w 26 #[.int .i64 q.verb, .slice Ab nb cb, .slice Aw nw cw]
  obtain ⟨wz, hwz⟩ : ∃ wz, w.alloc (.cells (#[.int .i64 q.verb, .slice Ab nb cb, .slice Aw nw cw] : Array Value) 26) = wz := ⟨_, rfl⟩
  rw [hwz] at hb0 hk0
  have hs0 : PrS w q Ab Aw nb nw cb cw B [] (.slice none 0 0) wz := ⟨hk0, hb.low hB (Nat.le_refl _) hb0, hw.lowQ hB (Nat.le_refl _) hb0, World.ownsRow_nil _ _ _ _, hb0⟩
  obtain ⟨hlt0, c0, c1, c2⟩ := hs0.cells
  have HV := Lib.hid (valid_yes q Ab Aw nb nw cb cw B wz hq hs0.rby hnb hcb hs0.rwh (by omega) hn)
  have HS0 := Lib.hid hs0
  have HNB := Lib.hid hnb
  have HNW := Lib.hid hnw
  have HQ := Lib.hid hq
  have HE := Lib.hid hE
  have HLT : Hid ((prT q).length ≤ 100000000 ∧ (Lib.join (q.by_.map fdW) [44]).length ≤ 100000000) := ⟨hl, hl2⟩
  obtain ⟨vk, hvk⟩ : ∃ vk : Nat, q.verb = (vk : Int) := ⟨q.verb.toNat, by have := hq.v0; omega⟩
  have hvk2 : vk < 2 := by have := hq.v1; omega
  have HVK : Hid (vbL.getD q.verb.toNat [] = vbL.getD vk []) := by show _ = _; rw [hvk]; rfl
  rw [hvk] at HV c0 ⊢
  have HVE := Lib.hid hvk
  clear hb0 hk0 hs0 hb hw hnb hnw hq hE hvk hl hl2
  rw [HVE.out] at hwz
  go_enter Tryz.func17, Tryz.ntmps17
  go_wp2_with fail
  refine HV.out.mono ?_
  rintro e w1 ⟨rfl, hb1⟩
  have hs1 := HS0.out.same hB hb1
  obtain ⟨hlt1, d0, d1, d2⟩ := hs1.cells
  rw [HVE.out] at d0
  have HS1 := Lib.hid hs1
  clear hb1 HS0 HV c0 c1 c2 hwz hs1
  go_upto_region 3 with fail
  go_cut [4] from 11 (fun s4 x => PrS w q Ab Aw nb nw cb cw B [vbL.getD vk []] s4 x)
  case first =>
    have KC := word_cell (Blk.new w1 9 (vbL.map strV).toArray) (show vk < vbL.length from hvk2)
    have hvi : (vk : Int) < 2 := by omega
    generalize vbL.getD vk [] = tx at *
    have h1 := HS1.out.alloc hB (.cells (vbL.map strV).toArray 9)
    have h2 := h1.alloc hB (.cells #[.string ⟨tx.toArray⟩] 9)
    have hr := own_lit1 (w1.alloc (.cells (vbL.map strV).toArray 9)) (w.heap.size + 1) (by rw [World.size_alloc]; omega) tx
    have HREL : Hid (PrS w q Ab Aw nb nw cb cw B [tx] (.slice (some ⟨w1.heap.size + 1, 0, none⟩) 1 1) (((w1.alloc (.cells (vbL.map strV).toArray 9)).alloc (.cells #[.string ⟨tx.toArray⟩] 9)).drew)) := by
      show PrS _ _ _ _ _ _ _ _ _ _ _ _
      rw [World.size_alloc] at hr
      exact ((⟨h2.blk, h2.rby, h2.rwh, hr, h2.below⟩ : PrS w q Ab Aw nb nw cb cw B [tx] (.slice (some ⟨w1.heap.size + 1, 0, none⟩) 1 1) _)).drew hB
    clear h1 h2 hr
    go_region_with (go_at_call 43; refine (vb_any _).mono ?_; rintro e wx ⟨rfl, rfl⟩)
    all_goals
      go_wp2_with fail
      go_meet
      case rel => exact HREL.out
  case rest =>
    have hs2 := hcut
    obtain ⟨hlt2, e0, e1, e2⟩ := hs2.cells
    have HS2 := Lib.hid hs2
    clear hs2 hcut HS1 d0 d1 d2
    obtain ⟨qn, hqn⟩ : ∃ qn, decide (0 < nb) = qn := ⟨_, rfl⟩
    have HQN := Lib.hid hqn
    go_upto_if 23 with fail
    clear hqn
    go_cut [4] from 11 (fun s4 x => PrS w q Ab Aw nb nw cb cw B (vbL.getD vk [] :: byP q.by_) s4 x)
    case first =>
      cases qn with
      | false =>
        have HREL : Hid (PrS w q Ab Aw nb nw cb cw B (vbL.getD vk [] :: byP q.by_) u4 wc) := by
          have h0 : q.by_ = [] := by
            have := HQN.out
            rw [decide_eq_false_iff_not] at this
            have h2 := HNB.out
            exact List.eq_nil_of_length_eq_zero (by omega)
          show PrS _ _ _ _ _ _ _ _ _ _ _ _
          rw [show byP q.by_ = [] by unfold byP; exact if_pos h0]
          exact HS2.out
        go_wp2_with fail
        go_meet
        case rel => exact HREL.out
      | true =>
        have hn0 : 0 < nb := by
          have := HQN.out
          rw [decide_eq_true_eq] at this
          omega
        obtain ⟨A4, c4, rfl⟩ := own_slice (n := 1) HS2.out.row
        have H4 := Lib.hid (own_lt HS2.out.row)
        obtain ⟨M, hM⟩ : ∃ M, wc.heap.size = M := ⟨_, rfl⟩
        rw [hM] at H4
        have HMX := Lib.hid hM
        have hMw : w.heap.size < M := by omega
        clear hM
        obtain ⟨i0, hi0, hz0, hz1, hz2⟩ := info_parts info_strQ
        clear HQN
        go_wp2_with fail
        go_loopw [5, 27] (fun v5 i x => ∃ k : Nat, k ≤ nb ∧ i = .int .i64 k ∧ PrS w q Ab Aw nb nw cb cw B [vbL.getD vk []] (.slice A4 1 c4) x ∧ x.ownsRow M 9 1 v5 k (((q.by_.take k).map fdW).map strV) ∧ M ≤ x.heap.size) (fun _ i _ => nb - (intOf i).toNat)
        case atStart => exact ⟨0, by omega, rfl, HS2.out, World.ownsRow_nil _ _ _ _, by rw [HMX.out]; exact Nat.le_refl _⟩
        case round =>
          clear HS2 e0 e1 e2 hlt2
          obtain ⟨k, hk, rfl, hs, hown, hMr⟩ := hrel
          obtain ⟨A5, c5, rfl⟩ := own_slice hown
          obtain ⟨hltr, g0, g1, g2⟩ := hs.cells
          have HS := Lib.hid hs
          have HO := Lib.hid hown
          by_cases hlt : k < nb
          · have k3 : decide ((k : Int) < (nb : Int)) = true := by rw [decide_eq_true_eq]; omega
            have k4 : (k : Int) < (nb : Int) := by omega
            have hkl : k < q.by_.length := by have := HNB.out; omega
            obtain ⟨g, o, rfl, hg, hc⟩ := hs.rby (by omega)
            have y3 := hc k hkl
            obtain ⟨fk, hfk, hfk2⟩ : ∃ fk : Nat, q.by_.getD k 0 = (fk : Int) ∧ fk < 5 := by
              have := HQ.out.br k hkl
              exact ⟨(q.by_.getD k 0).toNat, by omega, by omega⟩
            rw [hfk] at y3
            have HST : Hid (((q.by_.take (k + 1)).map fdW).map strV = ((q.by_.take k).map fdW).map strV ++ [.string ⟨(fdL.getD fk []).toArray⟩]) := by
              show _ = _
              rw [List.take_succ_eq_append_getElem hkl, List.map_append, List.map_append]
              have e : q.by_[k] = (fk : Int) := by rw [← hfk]; simp [List.getD, hkl]
              rw [e]; rfl
            have KC := word_cell (Blk.new wr 9 (fdL.map strV).toArray) (show fk < fdL.length from hfk2)
            have hfi : (fk : Int) < 5 := by omega
            have hgr : g < wr.heap.size := by omega
            generalize fdL.getD fk [] = tx at *
            have HRO : Hid (Reads ((wr.alloc (.cells (fdL.map strV).toArray 9)).alloc (.cells #[.string ⟨tx.toArray⟩] 9)) (wr.heap.size + 1 + 1) 1 (some ⟨wr.heap.size + 1, 0, none⟩) 1 [.string ⟨tx.toArray⟩]) := by
              have := reads_one (wr.alloc (.cells (fdL.map strV).toArray 9)) #[.string ⟨tx.toArray⟩] 9 1 rfl
              rw [World.size_alloc] at this
              exact this
            have H5 := Lib.hid (own_base hown)
            have HNE : Hid ((Value.slice A4 1 c4).ownBlock = none ∨ (Value.slice A4 1 c4).ownBlock ≠ (Value.slice A5 k c5).ownBlock) := own_apart H4.out H5.out
            have H5w : Hid (∀ b, (Value.slice A5 k c5).ownBlock = some b → w.heap.size < b) := fun b hb => by have := H5.out b hb; omega
            clear hs hown hkl hc
            go_wp2_with fail
            refine (fd_any _).mono ?_
            rintro e wx ⟨rfl, rfl⟩
            go_wp2_with (at_builtin; refine wpList_append_any _ rfl (.tmp 31) (.tmp 36) _ rfl M 9 i0 _ 1 16 Tryz.underlying92 hi0 hz0 hz1 hz2 rfl (by omega) _ k (((q.by_.take k).map fdW).map strV) rfl ((HO.out.alloc _).alloc _) (wr.heap.size + 1 + 1) (some ⟨wr.heap.size + 1, 0, none⟩) 1 1 [.string ⟨tx.toArray⟩] rfl HRO.out (strs_oneQ [tx]) (by simp only [maxLen]; omega) (by omega) (by simp only [World.size_alloc]; omega) ?_; intro v6 w6 hown6 hg6 hat6)
            go_roundw
            case rel => exact ⟨k + 1, by omega, by go_num, ((HS.out.alloc hB _).alloc hB _).grown hB hg6 HNE.out H5w.out, by rw [HST.out]; exact hown6, by have := hg6.size; simp only [World.size_alloc] at this; omega⟩
            case measure => simp [intOf]; omega
          · have k3 : decide ((k : Int) < (nb : Int)) = false := by rw [decide_eq_false_iff_not]; omega
            have hk' : k = nb := by omega
            subst hk'
            have hrow : wr.ownsRow M 9 1 (.slice A5 k c5) (q.by_.map fdW).length ((q.by_.map fdW).map strV) := by
              have := HO.out
              rw [List.take_of_length_le (by have := HNB.out; omega)] at this
              rw [List.length_map, ← HNB.out]
              exact this
            have HJ := Lib.hid (join_own (q.by_.map fdW) [44] (.slice A5 k c5) M wr hrow (by rw [List.length_map, ← HNB.out]; omega) (by have := HLT.out.2; omega))
            have HBP : Hid (byP q.by_ = [byW, Lib.join (q.by_.map fdW) [44]]) := by
              show _ = _
              unfold byP
              exact if_neg (fun e => by have := HNB.out; rw [e] at this; simp at this; omega)
            generalize Lib.join (q.by_.map fdW) [44] = J at *
            clear hs hown hrow k3
            go_wp2_with fail
            refine HJ.out.mono ?_
            rintro e w5 ⟨rfl, hb5⟩
            have hs5 := HS.out.same hB hb5
            have hM5 : M ≤ w5.heap.size := by have := hb5.size; omega
            have HS5 := Lib.hid hs5
            have HRO : Hid (Reads (w5.alloc (.cells #[.string ⟨byW.toArray⟩, .string ⟨J.toArray⟩] 9)) (w5.heap.size + 1) 1 (some ⟨w5.heap.size, 0, none⟩) 2 [.string ⟨byW.toArray⟩, .string ⟨J.toArray⟩]) := reads_lit w5 #[.string ⟨byW.toArray⟩, .string ⟨J.toArray⟩] 9
            clear hb5 hs5
            go_wp2_with (at_builtin; refine wpList_append_any _ rfl (.tmp 39) (.tmp 42) _ rfl (w.heap.size + 1) 9 i0 _ 1 16 Tryz.underlying92 hi0 hz0 hz1 hz2 rfl (by omega) _ 1 ([vbL.getD vk []].map strV) rfl (HS5.out.row.alloc _) (w5.heap.size + 1) (some ⟨w5.heap.size, 0, none⟩) 2 2 [.string ⟨byW.toArray⟩, .string ⟨J.toArray⟩] rfl HRO.out (strs_oneQ [byW, J]) (by simp only [maxLen]; omega) (by omega) (by simp only [World.size_alloc]; omega) ?_; intro v6 w6 hown6 hg6 hat6)
            go_meet
            case rel =>
              rw [HBP.out]
              exact (HS5.out.alloc hB _).push (news := [byW, J]) hB hg6 hown6
    case rest =>
      have HS3 := Lib.hid hcut
      obtain ⟨A4, c4, rfl⟩ := own_slice hcut.row
      obtain ⟨hlt3, m0, m1, m2⟩ := hcut.cells
      clear hcut HS2 e0 e1 e2 hlt2 HQN
      obtain ⟨hd, hhd⟩ : ∃ hd, vbL.getD vk [] :: byP q.by_ = hd := ⟨_, rfl⟩
      have HHD : Hid (hdP q = hd) := by show _ = _; rw [← hhd]; unfold hdP; rw [HVK.out]
      have HHL : Hid (hd.length ≤ 3) := by
        show _ ≤ _
        rw [← hhd]
        unfold byP
        split <;> simp
      rw [hhd] at HS3 ⊢
      clear hhd
      obtain ⟨i0, hi0, hz0, hz1, hz2⟩ := info_parts info_strQ
      go_wp2_with fail
      go_loopw [4, 47] (fun v4 i x => ∃ k : Nat, k ≤ nw ∧ i = .int .i64 k ∧ PrS w q Ab Aw nb nw cb cw B (hd ++ whP (q.wh.take k)) v4 x) (fun _ i _ => nw - (intOf i).toNat)
      case atStart => exact ⟨0, by omega, rfl, by rw [List.take_zero]; show PrS _ _ _ _ _ _ _ _ _ (hd ++ []) _ _; rw [List.append_nil]; exact HS3.out⟩
      case round =>
        clear HS3 m0 m1 m2 hlt3
        obtain ⟨k, hk, rfl, hs⟩ := hrel
        have HWL : Hid ((hd ++ whP (q.wh.take k)).length ≤ 200) := by
          have h1 := HHL.out
          have h2 := whP_len (q.wh.take k)
          have h3 : (q.wh.take k).length ≤ nw := by rw [List.length_take]; omega
          show _ ≤ _
          rw [List.length_append]; omega
        obtain ⟨WS, hWS⟩ : ∃ WS, hd ++ whP (q.wh.take k) = WS := ⟨_, rfl⟩
        rw [hWS] at hs HWL
        have HWS := Lib.hid hWS
        clear hWS
        obtain ⟨A4, c4, rfl⟩ := own_slice hs.row
        obtain ⟨hltr, g0, g1, g2⟩ := hs.cells
        have HS := Lib.hid hs
        by_cases hlt : k < nw
        · have k3 : decide ((k : Int) < (nw : Int)) = true := by rw [decide_eq_true_eq]; omega
          obtain ⟨ad, rfl, had, b0, b1, b2⟩ := hs.rwh.cnd_at hlt
          have hkl : k < q.wh.length := by have := HNW.out; omega
          have HCN := Lib.hid (HQ.out.cn (q.wh.getD k default) (by rw [List.getD_eq_getElem?_getD, List.getElem?_eq_getElem hkl]; exact List.getElem_mem _))
          have HST := Lib.hid (whP_step hkl)
          generalize q.wh.getD k default = cc at *
          obtain ⟨f, o, v⟩ := cc
          simp only [] at b0 b1 b2
          obtain ⟨fk, rfl⟩ : ∃ fk : Nat, f = (fk : Int) := ⟨f.toNat, by have := HCN.out.1; simp only [] at this; omega⟩
          obtain ⟨ok, rfl⟩ : ∃ ok : Nat, o = (ok : Int) := ⟨o.toNat, by have := HCN.out.2.2.1; simp only [] at this; omega⟩
          have hf5 : fk < 5 := by have := HCN.out.2.1; simp only [] at this; omega
          have ho6 : ok < 6 := by have := HCN.out.2.2.2.1; simp only [] at this; omega
          have hadl : ad.block < wr.heap.size := by omega
          clear hs hkl
          obtain ⟨qk, hqk⟩ : ∃ qk, ((k : Int) == 0) = qk := ⟨_, rfl⟩
          have HQK := Lib.hid hqk
          go_upto_if 53 with fail
          clear hqk b0 b1 b2 g0 g1 g2
          have HP0 := Lib.hid (HS.out.alloc hB (.cells (#[.int .i64 (fk : Int), .int .i64 (ok : Int), .int .i64 v] : Array Value) 95))
          have HBX0 := Lib.hid (Blk.new wr 95 #[.int .i64 (fk : Int), .int .i64 (ok : Int), .int .i64 v])
          obtain ⟨x0, hx0⟩ : ∃ x0, wr.alloc (.cells (#[.int .i64 (fk : Int), .int .i64 (ok : Int), .int .i64 v] : Array Value) 95) = x0 := ⟨_, rfl⟩
          rw [hx0] at HP0 HBX0 ⊢
          clear hx0
          obtain ⟨J, hJ⟩ : ∃ J, (if k = 0 then whereW else andW) = J := ⟨_, rfl⟩
          rw [hJ] at HST
          have HJ := Lib.hid hJ
          clear hJ
          go_cut [10] from 54 to 69 (fun s10 x' => s10 = .string ⟨J.toArray⟩ ∧ x' = x0)
          case first =>
            cases qk with
            | true =>
              have HJ2 : Hid (whereW = J) := by
                have := HQK.out; rw [beq_iff_eq] at this; show _ = _; rw [← HJ.out, if_pos (by omega)]
              go_wp2_with fail
              go_meet
              case rel => exact ⟨by rw [← HJ2.out]; rfl, rfl⟩
            | false =>
              have HJ2 : Hid (andW = J) := by
                have := HQK.out; rw [beq_eq_false_iff_ne] at this; show _ = _; rw [← HJ.out, if_neg (by omega)]
              go_wp2_with fail
              go_meet
              case rel => exact ⟨by rw [← HJ2.out]; rfl, rfl⟩
          case rest =>
            obtain ⟨rfl, rfl⟩ := hcut
            go_upto_region 18 with fail
            obtain ⟨G, hG⟩ : ∃ G, wr.heap.size = G := ⟨_, rfl⟩
            rw [hG] at HBX0 ⊢
            have hGx : G < wc.heap.size := HBX0.out.lt
            obtain ⟨z0, z1, z2⟩ := rd_cells HBX0.out
            have hfi : (fk : Int) < 5 := by omega
            have hoi : (ok : Int) < 6 := by omega
            have HE2 : Hid (Env ((wc.alloc (.cells (fdL.map strV).toArray 9)).alloc (.cells (opL.map strV).toArray 9)).drew) := HE.out.after (((HP0.out.alloc hB _).alloc hB _).drew hB).below
            have HTX : Hid (Calls Tryz.prog 47 #[.agg #[.int .i64 (fk : Int), .int .i64 (ok : Int), .int .i64 v]] ((wc.alloc (.cells (fdL.map strV).toArray 9)).alloc (.cells (opL.map strV).toArray 9)).drew fun e w' => e = .returned (.string ⟨(valT ⟨fk, ok, v⟩).toArray⟩) ∧ Below ((wc.alloc (.cells (fdL.map strV).toArray 9)).alloc (.cells (opL.map strV).toArray 9)).drew.heap.size ((wc.alloc (.cells (fdL.map strV).toArray 9)).alloc (.cells (opL.map strV).toArray 9)).drew w') := text_yes ⟨fk, ok, v⟩ _ HCN.out HE2.out
            have HVT : Hid (cW J ⟨fk, ok, v⟩ = [J, fdL.getD fk [], opL.getD ok [], valT ⟨fk, ok, v⟩]) := rfl
            generalize valT ⟨fk, ok, v⟩ = VT at *
            have KF1 := word_cell (Blk.new wc 9 (fdL.map strV).toArray) (show fk < fdL.length from hf5)
            have KF2 := word_cell ((Blk.new wc 9 (fdL.map strV).toArray).alloc (.cells (opL.map strV).toArray 9)) (show fk < fdL.length from hf5)
            have KO2 : ((wc.alloc (.cells (fdL.map strV).toArray 9)).alloc (.cells (opL.map strV).toArray 9)).cell? ⟨wc.heap.size + 1, ok, none⟩ = some (.string ⟨(opL.getD ok []).toArray⟩) := by
              have h := Blk.new (wc.alloc (.cells (fdL.map strV).toArray 9)) 9 (opL.map strV).toArray
              rw [World.size_alloc] at h
              exact word_cell h (show ok < opL.length from ho6)
            generalize fdL.getD fk [] = FN at *
            generalize opL.getD ok [] = ON at *
            have HAF : Hid (∀ wy, Below ((wc.alloc (.cells (fdL.map strV).toArray 9)).alloc (.cells (opL.map strV).toArray 9)).drew.heap.size ((wc.alloc (.cells (fdL.map strV).toArray 9)).alloc (.cells (opL.map strV).toArray 9)).drew wy → PrS w q Ab (some ad) nb nw cb cw B WS (.slice A4 WS.length c4) wy ∧ Blk wy G 95 #[.int .i64 (fk : Int), .int .i64 (ok : Int), .int .i64 v] ∧ wc.heap.size + 2 ≤ wy.heap.size ∧ wy.cell? ⟨wc.heap.size, fk, none⟩ = some (.string ⟨FN.toArray⟩) ∧ wy.cell? ⟨wc.heap.size + 1, ok, none⟩ = some (.string ⟨ON.toArray⟩)) := fun wy hby =>
              ⟨(((HP0.out.alloc hB _).alloc hB _).drew hB).same hB hby, (((HBX0.out.alloc _).alloc _).drew).below hby (by simp only [World.size_drew, World.size_alloc]; omega), by have := hby.size; simp only [World.size_drew, World.size_alloc] at this; omega, (hby.cell (by simp only [World.size_drew, World.size_alloc]; omega)).trans KF2, (hby.cell (by simp only [World.size_drew, World.size_alloc]; omega)).trans KO2⟩
            have HWL2 : WS.length ≤ 200 := HWL.out
            -- by hand
            have HS1a : Hid ((fun w' : World => wc.heap.size ≤ w'.heap.size ∧ w'.cell? ⟨G, 0, none⟩ = some (.int .i64 (fk : Int)) ∧ w'.cell? ⟨G, 1, none⟩ = some (.int .i64 (ok : Int)) ∧ w'.cell? ⟨G, 2, none⟩ = some (.int .i64 v)) (wc.alloc (.cells (fdL.map strV).toArray 9)).drew) := ⟨by simp only [World.size_drew, World.size_alloc]; omega, (((HBX0.out.alloc _).drew).cell 0), (((HBX0.out.alloc _).drew).cell 1), (((HBX0.out.alloc _).drew).cell 2)⟩
            have HS2a : Hid ((fun w' : World => (wc.heap.size ≤ w'.heap.size ∧ w'.cell? ⟨G, 0, none⟩ = some (.int .i64 (fk : Int)) ∧ w'.cell? ⟨G, 1, none⟩ = some (.int .i64 (ok : Int)) ∧ w'.cell? ⟨G, 2, none⟩ = some (.int .i64 v)) ∧ w'.cell? ⟨wc.heap.size, fk, none⟩ = some (.string ⟨FN.toArray⟩)) ((wc.alloc (.cells (fdL.map strV).toArray 9)).alloc (.cells (opL.map strV).toArray 9)).drew) := ⟨⟨by simp only [World.size_drew, World.size_alloc]; omega, ((((HBX0.out.alloc _).alloc _).drew).cell 0), ((((HBX0.out.alloc _).alloc _).drew).cell 1), ((((HBX0.out.alloc _).alloc _).drew).cell 2)⟩, KF2⟩
            have HS3a : Hid (∀ wy, Blk wy G 95 #[.int .i64 (fk : Int), .int .i64 (ok : Int), .int .i64 v] → wc.heap.size ≤ wy.heap.size → wy.cell? ⟨wc.heap.size, fk, none⟩ = some (.string ⟨FN.toArray⟩) → wy.cell? ⟨wc.heap.size + 1, ok, none⟩ = some (.string ⟨ON.toArray⟩) → (fun w' : World => ((wc.heap.size ≤ w'.heap.size ∧ w'.cell? ⟨G, 0, none⟩ = some (.int .i64 (fk : Int)) ∧ w'.cell? ⟨G, 1, none⟩ = some (.int .i64 (ok : Int)) ∧ w'.cell? ⟨G, 2, none⟩ = some (.int .i64 v)) ∧ w'.cell? ⟨wc.heap.size, fk, none⟩ = some (.string ⟨FN.toArray⟩)) ∧ w'.cell? ⟨wc.heap.size + 1, ok, none⟩ = some (.string ⟨ON.toArray⟩)) wy) := fun wy hb h1 h2 h3 => ⟨⟨⟨h1, hb.cell 0, hb.cell 1, hb.cell 2⟩, h2⟩, h3⟩
            have H4 := Lib.hid (own_lt HP0.out.row)
            refine wp_region_held_drew (S := fun w' => wc.heap.size ≤ w'.heap.size ∧ w'.cell? ⟨G, 0, none⟩ = some (.int .i64 (fk : Int)) ∧ w'.cell? ⟨G, 1, none⟩ = some (.int .i64 (ok : Int)) ∧ w'.cell? ⟨G, 2, none⟩ = some (.int .i64 v)) (by kernel_rfl) ⟨Nat.le_refl _, z0, z1, z2⟩ (fun hHeld => ?_)
            refine wpAnyH_take (i := 0) (v := ?v0) rfl (by kernel_rfl) (by kernel_rfl) (by kernel_rfl) (fun _ _ _ h => h) (Or.inl ⟨by rfl, ?hy0⟩) (by assumption) ?rest0
            case hy0 => (intro w hSw; (try dsimp only at hSw); go_simp; (try with_reducible rfl))
            (try simp only [Act.put, List.setIfInBounds_toArray, List.set_cons_zero, List.set_cons_succ, List.getElem_toArray, List.getElem_cons_zero, List.getElem_cons_succ])
            refine wpAnyH_take (i := 1) (v := ?v1) rfl (by kernel_rfl) (by kernel_rfl) (by kernel_rfl) (fun _ _ _ h => h) (Or.inl ⟨by rfl, ?hy1⟩) (by assumption) ?rest1
            case hy1 => (intro w hSw; (try dsimp only at hSw); go_simp; (try with_reducible rfl))
            (try simp only [Act.put, List.setIfInBounds_toArray, List.set_cons_zero, List.set_cons_succ, List.getElem_toArray, List.getElem_cons_zero, List.getElem_cons_succ])
            refine wpAnyH_take (i := 3) (v := ?v3) rfl (by kernel_rfl) (by kernel_rfl) (by kernel_rfl) (fun _ _ _ h => h) (Or.inl ⟨by rfl, ?hy3⟩) (by assumption) ?rest3
            case hy3 => (intro w hSw; (try dsimp only at hSw); go_simp; (try with_reducible rfl))
            (try simp only [Act.put, List.setIfInBounds_toArray, List.set_cons_zero, List.set_cons_succ, List.getElem_toArray, List.getElem_cons_zero, List.getElem_cons_succ])
            refine wpAnyH_take (i := 4) (v := ?v4) rfl (by kernel_rfl) (by kernel_rfl) (by kernel_rfl) (fun _ _ _ h => h) (Or.inl ⟨by rfl, ?hy4⟩) (by assumption) ?rest4
            case hy4 => (intro w hSw; (try dsimp only at hSw); go_simp; (try with_reducible rfl))
            (try simp only [Act.put, List.setIfInBounds_toArray, List.set_cons_zero, List.set_cons_succ, List.getElem_toArray, List.getElem_cons_zero, List.getElem_cons_succ])
            refine wpAnyH_take (i := 8) (v := ?v8) rfl (by kernel_rfl) (by kernel_rfl) (by kernel_rfl) (fun _ _ _ h => h) (Or.inl ⟨by rfl, ?hy8⟩) (by assumption) ?rest8
            case hy8 => (intro w hSw; (try dsimp only at hSw); go_simp; (try with_reducible rfl))
            (try simp only [Act.put, List.setIfInBounds_toArray, List.set_cons_zero, List.set_cons_succ, List.getElem_toArray, List.getElem_cons_zero, List.getElem_cons_succ])
            refine wpAnyH_take (i := 9) (v := ?v9) rfl (by kernel_rfl) (by kernel_rfl) (by kernel_rfl) (fun _ _ _ h => h) (Or.inl ⟨by rfl, ?hy9⟩) (by assumption) ?rest9
            case hy9 => (intro w hSw; (try dsimp only at hSw); go_simp; (try with_reducible rfl))
            (try simp only [Act.put, List.setIfInBounds_toArray, List.set_cons_zero, List.set_cons_succ, List.getElem_toArray, List.getElem_cons_zero, List.getElem_cons_succ])
            refine wpAnyH_take (i := 12) (v := ?v12) rfl (by kernel_rfl) (by kernel_rfl) (by kernel_rfl) (fun _ _ _ h => h) (Or.inl ⟨by rfl, ?hy12⟩) (by assumption) ?rest12
            case hy12 => (intro w hSw; (try dsimp only at hSw); go_simp; (try with_reducible rfl))
            (try simp only [Act.put, List.setIfInBounds_toArray, List.set_cons_zero, List.set_cons_succ, List.getElem_toArray, List.getElem_cons_zero, List.getElem_cons_succ])
            refine wpAnyH_ready (rs := [2]) (by kernel_rfl) (by simp) ?_
            refine AllReadyH.cons rfl (fun K hK => ?_) AllReadyH.nil
            go_simp
            go_wp2_with (go_at_call 44; refine (fd_any _).mono ?_; rintro e wx ⟨rfl, rfl⟩)
            refine hK.out _ _ ?hS2 (fun hHeld => ?_)
            case hS2 => exact HS1a.out
            clear hK K
            refine wpAnyH_weak (S2 := fun w' => (wc.heap.size ≤ w'.heap.size ∧ w'.cell? ⟨G, 0, none⟩ = some (.int .i64 (fk : Int)) ∧ w'.cell? ⟨G, 1, none⟩ = some (.int .i64 (ok : Int)) ∧ w'.cell? ⟨G, 2, none⟩ = some (.int .i64 v)) ∧ w'.cell? ⟨wc.heap.size, fk, none⟩ = some (.string ⟨FN.toArray⟩)) (fun w h => h.1) _ _ _ _ ?_
            have hHeld2 : (fun w' : World => (wc.heap.size ≤ w'.heap.size ∧ w'.cell? ⟨G, 0, none⟩ = some (.int .i64 (fk : Int)) ∧ w'.cell? ⟨G, 1, none⟩ = some (.int .i64 (ok : Int)) ∧ w'.cell? ⟨G, 2, none⟩ = some (.int .i64 v)) ∧ w'.cell? ⟨wc.heap.size, fk, none⟩ = some (.string ⟨FN.toArray⟩)) (wc.alloc (.cells (fdL.map strV).toArray 9)).drew := ⟨hHeld, KF1⟩
            clear hHeld
            refine wpAnyH_take (i := 5) (v := ?v5) rfl (by kernel_rfl) (by kernel_rfl) (by kernel_rfl) (fun _ _ _ h => h) (Or.inl ⟨by rfl, ?hy5⟩) (by assumption) ?rest5
            case hy5 => (intro w hSw; (try dsimp only at hSw); go_simp; (try with_reducible rfl))
            (try simp only [Act.put, List.setIfInBounds_toArray, List.set_cons_zero, List.set_cons_succ, List.getElem_toArray, List.getElem_cons_zero, List.getElem_cons_succ])
            refine wpAnyH_take (i := 6) (v := ?v6) rfl (by kernel_rfl) (by kernel_rfl) (by kernel_rfl) (fun _ _ _ h => h) (Or.inl ⟨by rfl, ?hy6⟩) (by assumption) ?rest6
            case hy6 => (intro w hSw; (try dsimp only at hSw); go_simp; (try with_reducible rfl))
            (try simp only [Act.put, List.setIfInBounds_toArray, List.set_cons_zero, List.set_cons_succ, List.getElem_toArray, List.getElem_cons_zero, List.getElem_cons_succ])
            refine wpAnyH_ready (rs := [7]) (by kernel_rfl) (by simp) ?_
            refine AllReadyH.cons rfl (fun K hK => ?_) AllReadyH.nil
            go_simp
            go_wp2_with (go_at_call 46; refine (op_any _).mono ?_; rintro e wx ⟨rfl, rfl⟩)
            refine hK.out _ _ ?hS7 (fun hHeld => ?_)
            case hS7 => exact HS2a.out
            clear hK K hHeld2
            refine wpAnyH_weak (S2 := fun w' => ((wc.heap.size ≤ w'.heap.size ∧ w'.cell? ⟨G, 0, none⟩ = some (.int .i64 (fk : Int)) ∧ w'.cell? ⟨G, 1, none⟩ = some (.int .i64 (ok : Int)) ∧ w'.cell? ⟨G, 2, none⟩ = some (.int .i64 v)) ∧ w'.cell? ⟨wc.heap.size, fk, none⟩ = some (.string ⟨FN.toArray⟩)) ∧ w'.cell? ⟨wc.heap.size + 1, ok, none⟩ = some (.string ⟨ON.toArray⟩)) (fun w h => h.1) _ _ _ _ ?_
            have hHeld3 : (fun w' : World => ((wc.heap.size ≤ w'.heap.size ∧ w'.cell? ⟨G, 0, none⟩ = some (.int .i64 (fk : Int)) ∧ w'.cell? ⟨G, 1, none⟩ = some (.int .i64 (ok : Int)) ∧ w'.cell? ⟨G, 2, none⟩ = some (.int .i64 v)) ∧ w'.cell? ⟨wc.heap.size, fk, none⟩ = some (.string ⟨FN.toArray⟩)) ∧ w'.cell? ⟨wc.heap.size + 1, ok, none⟩ = some (.string ⟨ON.toArray⟩)) ((wc.alloc (.cells (fdL.map strV).toArray 9)).alloc (.cells (opL.map strV).toArray 9)).drew := ⟨hHeld, KO2⟩
            clear hHeld
            refine wpAnyH_take (i := 10) (v := ?v10) rfl (by kernel_rfl) (by kernel_rfl) (by kernel_rfl) (fun _ _ _ h => h) (Or.inl ⟨by rfl, ?hy10⟩) (by assumption) ?rest10
            case hy10 => (intro w hSw; (try dsimp only at hSw); go_simp; (try with_reducible rfl))
            (try simp only [Act.put, List.setIfInBounds_toArray, List.set_cons_zero, List.set_cons_succ, List.getElem_toArray, List.getElem_cons_zero, List.getElem_cons_succ])
            refine wpAnyH_take (i := 11) (v := ?v11) rfl (by kernel_rfl) (by kernel_rfl) (by kernel_rfl) (fun _ _ _ h => h) (Or.inl ⟨by rfl, ?hy11⟩) (by assumption) ?rest11
            case hy11 => (intro w hSw; (try dsimp only at hSw); go_simp; (try with_reducible rfl))
            (try simp only [Act.put, List.setIfInBounds_toArray, List.set_cons_zero, List.set_cons_succ, List.getElem_toArray, List.getElem_cons_zero, List.getElem_cons_succ])
            refine wpAnyH_ready (rs := [13]) (by kernel_rfl) (by simp) ?_
            refine AllReadyH.cons rfl (fun K hK => ?_) AllReadyH.nil
            go_simp
            go_wp2_with (go_at_call 47; refine HTX.out.mono ?_; rintro e wy ⟨rfl, hby⟩)
            refine hK.out _ _ ?hS13 (fun hHeld => ?_)
            case hS13 => (obtain ⟨_, hBy, hNy, kf, ko⟩ := HAF.out wy hby; exact HS3a.out wy hBy (by omega) kf ko)
            clear hK K hHeld3 hHeld
            obtain ⟨hPy, hBy, hNy, kf, ko⟩ := HAF.out wy hby
            have HPY := Lib.hid hPy
            have HBY := Lib.hid hBy
            clear hPy
            refine wpAnyH_ready (rs := [14]) (by kernel_rfl) (by simp) ?_
            refine AllReadyH.cons rfl (fun K hK => ?_) AllReadyH.nil
            go_simp
            refine hK.out _ _ ?hS14 (fun hHeld => ?_)
            case hS14 => exact HS3a.out _ (HBY.out.alloc _) (by simp only [World.size_alloc]; omega) ((World.cell?_alloc_lt _ _ _ (by simp only []; omega)).trans kf) ((World.cell?_alloc_lt _ _ _ (by simp only []; omega)).trans ko)
            clear hK K hHeld
            refine wpAnyH_ready (rs := [15]) (by kernel_rfl) (by simp) ?_
            refine AllReadyH.cons rfl (fun K hK => ?_) AllReadyH.nil
            (refine step_append_any _ rfl (.tmp 54) (.tmp 68) _ rfl (w.heap.size + 1) 9 i0 _ 1 16 Tryz.underlying92 hi0 hz0 hz1 hz2 rfl (by omega) _ WS.length (WS.map strV) (by simp [Act.eval]) (HPY.out.row.alloc _) (wy.heap.size + 1) (some ⟨wy.heap.size, 0, none⟩) 4 4 [.string ⟨J.toArray⟩, .string ⟨FN.toArray⟩, .string ⟨ON.toArray⟩, .string ⟨VT.toArray⟩] (by simp [Act.eval]) (reads_lit wy #[.string ⟨J.toArray⟩, .string ⟨FN.toArray⟩, .string ⟨ON.toArray⟩, .string ⟨VT.toArray⟩] 9) (strs_oneQ [J, FN, ON, VT]) (by simp only [maxLen]; omega) (by omega) (by simp only [World.size_alloc]; have := HPY.out.below.size; omega) ?_; intro v6 w6 hown6 hg6 hat6)
            refine hK.out _ _ ?hS15 (fun hHeld => ?_)
            case hS15 =>
              have hpos : ∀ j b u, b < wy.heap.size → some b ≠ (Value.slice A4 WS.length c4).ownBlock → wy.cell? ⟨b, j, none⟩ = some u → w6.cell? ⟨b, j, none⟩ = some u := fun j b u hb hne hc => (World.cell?_of_block (hg6.block b (by rw [World.size_alloc]; omega) hne)).trans ((World.cell?_alloc_lt _ _ _ hb).trans hc)
              exact HS3a.out w6 ((HBY.out.alloc (.cells #[.string ⟨J.toArray⟩, .string ⟨FN.toArray⟩, .string ⟨ON.toArray⟩, .string ⟨VT.toArray⟩] 9)).grown hg6 (fun e => own_blk_ne HPY.out.row HBY.out (by decide) e.symm)) (by have := hg6.size; simp only [World.size_alloc] at this; omega) (hpos _ _ _ (by omega) (fun e => by have := H4.out _ e.symm; omega) kf) (hpos _ _ _ (by omega) (fun e => by have := H4.out _ e.symm; omega) ko)
            have HH6 := Lib.hid hHeld
            clear hK K hHeld
            have hF := PrS.push (news := [J, FN, ON, VT]) (HPY.out.alloc hB (.cells #[.string ⟨J.toArray⟩, .string ⟨FN.toArray⟩, .string ⟨ON.toArray⟩, .string ⟨VT.toArray⟩] 9)) hB hg6 hown6
            have HF := Lib.hid hF
            clear hF hown6 hg6 hat6 hBy
            refine wpAnyH_ready (rs := [16]) (by kernel_rfl) (by simp) ?_
            refine AllReadyH.cons rfl (fun K hK => ?_) AllReadyH.nil
            go_simp
            refine hK.out _ _ ?hS16 (fun hHeld => ?_)
            case hS16 => exact HH6.out
            clear hK K
            refine wpAnyH_done (by kernel_rfl) ?_ _
            go_wp2_with fail
            go_roundw
            case rel => exact ⟨k + 1, by omega, by go_num, by rw [HST.out, ← List.append_assoc, HWS.out, HVT.out]; exact HF.out⟩
            case measure => simp [intOf]; omega
        · have k3 : decide ((k : Int) < (nw : Int)) = false := by rw [decide_eq_false_iff_not]; omega
          have hrow : wr.ownsRow (w.heap.size + 1) 9 1 (.slice A4 WS.length c4) WS.length (WS.map strV) := hs.row
          have hWq : Lib.join WS [32] = prT q := by
            unfold prT
            rw [HHD.out, ← HWS.out, List.take_of_length_le (by have := HNW.out; omega)]
          have HJ := Lib.hid (join_own WS [32] (.slice A4 WS.length c4) (w.heap.size + 1) wr hrow (by have := HWL.out; omega) (by rw [hWq]; have := HLT.out.1; omega))
          rw [hWq] at HJ
          have HBW := Lib.hid hs.below
          clear hs hrow hWq
          go_wp2_with fail
          refine HJ.out.mono ?_
          rintro e w5 ⟨rfl, hb5⟩
          have HB5 := Lib.hid (below_two HBW.out hb5)
          clear hb5
          go_wp2_with fail
          refine bodyPost_ret (v := .tuple #[.string ⟨(prT q).toArray⟩, .int .i64 0]) ?_ rfl ⟨rfl, HB5.out⟩
          simp [results, Tryz.results17, go_sem]
end Go.Proofs.YtfnlddloalineaaGreatDoor
