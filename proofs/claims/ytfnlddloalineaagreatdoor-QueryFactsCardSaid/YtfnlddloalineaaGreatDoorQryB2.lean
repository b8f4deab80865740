/-
  The reference's Print at any query. (printed by wip/tools/gen_qryv6.py)
  The law QueryPrint. (printed by wip/tools/gen_qryv7.py)
-/
import Derived.Test.YtfnlddloalineaaGreatDoorQryB1
import Derived.Test.YtfnlddloalineaaGreatDoorQryA9
namespace Go.Proofs.YtfnlddloalineaaGreatDoor
open Go.RowKit
set_option linter.unusedVariables false
set_option linter.unusedSimpArgs false
set_option maxRecDepth 100000
/-- the texts that are laid behind the verb -/
def byTx (l : List Int) : Wd := if l = [] then [] else [32, 98, 121, 32] ++ Lib.join (l.map fdW) [44]
def cTx (c : SCond) : Wd := fdW c.f ++ [32] ++ opL.getD c.o.toNat [] ++ [32] ++ valT c
def whTx : List SCond → Wd
  | [] => []
  | c :: r => [32, 119, 104, 101, 114, 101, 32] ++ cTx c ++ r.flatMap fun c => [32, 97, 110, 100, 32] ++ cTx c
theorem joinTail_app (sep : Wd) (a b : List Wd) : Lib.joinTail sep (a ++ b) = Lib.joinTail sep a ++ Lib.joinTail sep b := by
  induction a with
  | nil => simp [Lib.joinTail]
  | cons x r ih => rw [List.cons_append, joinTail_cons, joinTail_cons, ih]; simp
theorem joinTail_cW (j : Wd) (c : SCond) : Lib.joinTail [32] (cW j c) = [32] ++ j ++ [32] ++ cTx c := by
  unfold cW cTx
  simp only [joinTail_cons]
  simp [Lib.joinTail]
theorem joinTail_wh : ∀ l : List SCond, Lib.joinTail [32] (whP l) = whTx l := by
  intro l
  cases l with
  | nil => rfl
  | cons c r =>
    have e : whP (c :: r) = cW whereW c ++ r.flatMap (cW andW) := rfl
    rw [e, joinTail_app, joinTail_cW]
    have h : ∀ r : List SCond, Lib.joinTail [32] (r.flatMap (cW andW)) = r.flatMap fun c => [32, 97, 110, 100, 32] ++ cTx c := by
      intro r
      induction r with
      | nil => rfl
      | cons y s ih => rw [List.flatMap_cons, List.flatMap_cons, joinTail_app, joinTail_cW, ih]; rfl
    rw [h]; rfl
theorem joinTail_by (l : List Int) : Lib.joinTail [32] (byP l) = byTx l := by
  unfold byP byTx
  split
  · rfl
  · simp only [joinTail_cons]
    simp [Lib.joinTail, byW]
theorem prT_eq (q : SQry) : prT q = vbL.getD q.verb.toNat [] ++ byTx q.by_ ++ whTx q.wh := by
  unfold prT hdP
  rw [List.cons_append, Lib.join_cons, joinTail_app, joinTail_by, joinTail_wh, List.append_assoc]
theorem join_snoc (l : List Wd) (x : Wd) (sep : Wd) (h : l ≠ []) : Lib.join (l ++ [x]) sep = Lib.join l sep ++ sep ++ x := by
  cases l with
  | nil => exact absurd rfl h
  | cons y r => rw [List.cons_append, Lib.join_cons, Lib.join_cons, joinTail_app, joinTail_cons]; simp [Lib.joinTail]
theorem byTx_step {l : List Int} {k : Nat} (hk : k < l.length) : byTx (l.take (k + 1)) = byTx (l.take k) ++ (if k = 0 then [32, 98, 121, 32] else [44]) ++ fdW (l.getD k 0) := by
  have e : l.take (k + 1) = l.take k ++ [l.getD k 0] := by
    rw [List.take_succ_eq_append_getElem hk]; simp [List.getD, hk]
  rw [e]
  unfold byTx
  rw [if_neg (by simp)]
  by_cases h0 : k = 0
  · subst h0
    simp [Lib.join_one]
  · have hne : l.take k ≠ [] := by
      intro e
      have := congrArg List.length e
      rw [List.length_take, List.length_nil] at this
      omega
    rw [if_neg hne, if_neg h0, List.map_append, List.map_cons, List.map_nil, join_snoc _ _ _ (by simpa using hne)]
    simp
theorem whTx_step {l : List SCond} {k : Nat} (hk : k < l.length) : whTx (l.take (k + 1)) = whTx (l.take k) ++ (if k = 0 then [32, 119, 104, 101, 114, 101, 32] else [32, 97, 110, 100, 32]) ++ cTx (l.getD k default) := by
  cases l with
  | nil => simp at hk
  | cons c r =>
    cases k with
    | zero => simp [whTx]
    | succ k =>
      have hk' : k < r.length := by simpa using hk
      rw [List.take_succ_cons, List.take_succ_cons, if_neg (by omega)]
      show [32, 119, 104, 101, 114, 101, 32] ++ cTx c ++ ((r.take (k + 1)).flatMap fun c => [32, 97, 110, 100, 32] ++ cTx c) = [32, 119, 104, 101, 114, 101, 32] ++ cTx c ++ ((r.take k).flatMap fun c => [32, 97, 110, 100, 32] ++ cTx c) ++ [32, 97, 110, 100, 32] ++ cTx (r.getD k default)
      rw [List.take_succ_eq_append_getElem hk', List.flatMap_append]
      simp [List.getD, hk']
theorem byTx_mono (l : List Int) (k : Nat) : (byTx (l.take k)).length ≤ (byTx l).length := by
  by_cases hk : k < l.length
  · have h : ∀ d j, j + d = l.length → (byTx (l.take j)).length ≤ (byTx l).length := by
      intro d
      induction d with
      | zero => intro j hj; rw [List.take_of_length_le (by omega)]; omega
      | succ d ih =>
        intro j hj
        have h1 := ih (j + 1) (by omega)
        have h2 := byTx_step (l := l) (k := j) (by omega)
        rw [h2, List.length_append, List.length_append] at h1
        omega
    exact h (l.length - k) k (by omega)
  · rw [List.take_of_length_le (by omega)]; omega
theorem whTx_mono (l : List SCond) (k : Nat) : (whTx (l.take k)).length ≤ (whTx l).length := by
  by_cases hk : k < l.length
  · have h : ∀ d j, j + d = l.length → (whTx (l.take j)).length ≤ (whTx l).length := by
      intro d
      induction d with
      | zero => intro j hj; rw [List.take_of_length_le (by omega)]; omega
      | succ d ih =>
        intro j hj
        have h1 := ih (j + 1) (by omega)
        have h2 := whTx_step (l := l) (k := j) (by omega)
        rw [h2, List.length_append, List.length_append] at h1
        omega
    exact h (l.length - k) k (by omega)
  · rw [List.take_of_length_le (by omega)]; omega
theorem ref_fd_w (w : World) : Calls Tryz.prog 48 #[] w fun e w' => ∃ g, e = .returned (.slice (some ⟨g, 0, none⟩) 5 5) ∧ Below w.heap.size w w' ∧ ∀ k, k < 5 → w'.cell? ⟨g, k, none⟩ = some (.string ⟨(fdL.getD k []).toArray⟩) :=
  (ref_fd_any w).mono fun e w' ⟨h1, h2⟩ => ⟨w.heap.size, h1, by rw [h2]; exact (Below.refl _ _).alloc (Nat.le_refl _) _, fun k hk => by rw [h2]; exact word_cell (Blk.new w _ (fdL.map strV).toArray) hk⟩
theorem ref_op_w (w : World) : Calls Tryz.prog 49 #[] w fun e w' => ∃ g, e = .returned (.slice (some ⟨g, 0, none⟩) 6 6) ∧ Below w.heap.size w w' ∧ ∀ k, k < 6 → w'.cell? ⟨g, k, none⟩ = some (.string ⟨(opL.getD k []).toArray⟩) :=
  (ref_op_any w).mono fun e w' ⟨h1, h2⟩ => ⟨w.heap.size, h1, by rw [h2]; exact (Below.refl _ _).alloc (Nat.le_refl _) _, fun k hk => by rw [h2]; exact word_cell (Blk.new w _ (opL.map strV).toArray) hk⟩
theorem ref_vb_w (w : World) : Calls Tryz.prog 38 #[] w fun e w' => ∃ g, e = .returned (.slice (some ⟨g, 0, none⟩) 2 2) ∧ Below w.heap.size w w' ∧ ∀ k, k < 2 → w'.cell? ⟨g, k, none⟩ = some (.string ⟨(vbL.getD k []).toArray⟩) :=
  (ref_vb_any w).mono fun e w' ⟨h1, h2⟩ => ⟨w.heap.size, h1, by rw [h2]; exact (Below.refl _ _).alloc (Nat.le_refl _) _, fun k hk => by rw [h2]; exact word_cell (Blk.new w _ (vbL.map strV).toArray) hk⟩
set_option maxHeartbeats 4000000 in
theorem rprint_no (q : SQry) (Ab Aw : Option Addr) (nb nw cb cw B : Nat) (w : World) (hq : ¬ OkQ q) (hb : RdBy w B Ab q.by_) (hnb : nb = q.by_.length) (hcb : nb ≤ cb) (hw : Reads w B 3 Aw nw (cndC q.wh)) (hB : B ≤ w.heap.size) (hn : nb ≤ 10000) (hnn : nw ≤ 10000) :
    Calls Tryz.prog 19 #[.agg #[.int .i64 q.verb, .slice Ab nb cb, .slice Aw nw cw]] w fun e w' => e = .returned (.tuple #[.string ⟨#[]⟩, .int .i64 1]) ∧ Below w.heap.size w w' := by
  have hb0 := (Below.refl w.heap.size w).alloc (Nat.le_refl _) (.cells (#[.int .i64 q.verb, .slice Ab nb cb, .slice Aw nw cw] : Array Value) 32)
  have hk0 := Blk.new w 32 #[.int .i64 q.verb, .slice Ab nb cb, .slice Aw nw cw]
  obtain ⟨wz, hwz⟩ : ∃ wz, w.alloc (.cells (#[.int .i64 q.verb, .slice Ab nb cb, .slice Aw nw cw] : Array Value) 32) = wz := ⟨_, rfl⟩
  rw [hwz] at hb0 hk0
  have hlt0 : w.heap.size < wz.heap.size := hk0.lt
  obtain ⟨c0, c1, c2⟩ := rd_cells hk0
  have HV := Lib.hid (rvalid_any q Ab Aw nb nw cb cw B wz (hb.low hB (Nat.le_refl _) hb0) hnb hcb (hw.lowQ hB (Nat.le_refl _) hb0) (by omega) hn hnn)
  have HB0 := Lib.hid hb0
  have HNQ := Lib.hid hq
  generalize OkQ q = OQ at *
  generalize q.verb = verb at *
  clear hb0 hk0 hb hw hq hnb
  go_enter Tryz.func19, Tryz.ntmps19
  go_wp2_with fail
  refine HV.out.mono ?_
  rintro e w1 ⟨⟨b, rfl, hbq⟩, hb1⟩
  have hbf : b = false := by cases b with
    | false => rfl
    | true => exact absurd (hbq.1 rfl) HNQ.out
  subst hbf
  have HB1 := Lib.hid (below_two HB0.out hb1)
  clear hb1 c0 c1 c2 hwz hlt0 hbq
  go_wp2_with fail
  refine bodyPost_ret (v := .tuple #[.string ⟨#[]⟩, .int .i64 1]) ?_ rfl ⟨rfl, HB1.out⟩
  simp [results, Tryz.results19, go_sem]
theorem cat5 (S J FN ON VT : Wd) : (⟨(S ++ J).toArray⟩ ++ (⟨FN.toArray⟩ ++ ⟨#[32]⟩ ++ ⟨ON.toArray⟩ ++ ⟨#[32]⟩ ++ ⟨VT.toArray⟩) : ByteArray) = ⟨(S ++ J ++ (FN ++ [32] ++ ON ++ [32] ++ VT)).toArray⟩ := by apply ByteArray.ext; simp
set_option maxHeartbeats 16000000 in
theorem rprint_yes (q : SQry) (Ab Aw : Option Addr) (nb nw cb cw B : Nat) (w : World) (hq : OkQ q) (hb : RdBy w B Ab q.by_) (hnb : nb = q.by_.length) (hcb : nb ≤ cb) (hw : Reads w B 3 Aw nw (cndC q.wh)) (hB : B ≤ w.heap.size) (hn : nb ≤ 10000) (hl : (prT q).length ≤ 1000) :
    Calls Tryz.prog 19 #[.agg #[.int .i64 q.verb, .slice Ab nb cb, .slice Aw nw cw]] w fun e w' => e = .returned (.tuple #[.string ⟨(prT q).toArray⟩, .int .i64 0]) ∧ Below w.heap.size w w' := by
  have HPT := Lib.hid (prT_eq q)
  have HIFF := Lib.hid ((okQ_iff q).1 hq)
  obtain ⟨verb, byl, wh⟩ := q
  have HQ := Lib.hid hq
  simp only [] at hb hnb hw HIFF HPT ⊢
  have hnw : wh.length = nw := by have := hw.1; rw [cndC_len] at this; omega
  have hnn : nw ≤ 20 := by have := HIFF.out.1.2.2; omega
  have HLEN : Hid ((vbL.getD verb.toNat []).length + (byTx byl).length + (whTx wh).length ≤ 1000) := by
    show _ ≤ _
    have e := HPT.out
    rw [e, List.length_append, List.length_append] at hl
    exact hl
  generalize prT ⟨verb, byl, wh⟩ = PT at *
  obtain ⟨vk, hvk⟩ : ∃ vk : Nat, verb = (vk : Int) := ⟨verb.toNat, by have := HIFF.out.1.1; omega⟩
  subst hvk
  have hvk2 : vk < 2 := by have := HIFF.out.1.2.1; omega
  have hvi : (vk : Int) < 2 := by omega
  have HVT : Hid (vbL.getD vk [] = vbL.getD ((vk : Int)).toNat []) := rfl
  generalize vbL.getD ((vk : Int)).toNat [] = VBT at *
  have hb0 := (Below.refl w.heap.size w).alloc (Nat.le_refl _) (.cells (#[.int .i64 (vk : Int), .slice Ab nb cb, .slice Aw nw cw] : Array Value) 32)
  have hk0 := Blk.new w 32 #[.int .i64 (vk : Int), .slice Ab nb cb, .slice Aw nw cw]
  obtain ⟨wz, hwz⟩ : ∃ wz, w.alloc (.cells (#[.int .i64 (vk : Int), .slice Ab nb cb, .slice Aw nw cw] : Array Value) 32) = wz := ⟨_, rfl⟩
  rw [hwz] at hb0 hk0
  have hlt0 : w.heap.size < wz.heap.size := hk0.lt
  have HS0 : Hid (RvI w (vk : Int) Ab Aw nb nw cb cw wz) := ⟨hb0, hk0.lt, hk0.cell 0, hk0.cell 1, hk0.cell 2⟩
  obtain ⟨c0, c1, c2⟩ := rd_cells hk0
  have HV := Lib.hid (rvalid_any ⟨(vk : Int), byl, wh⟩ Ab Aw nb nw cb cw B wz (hb.low hB (Nat.le_refl _) hb0) hnb hcb (hw.lowQ hB (Nat.le_refl _) hb0) (by omega) hn (by omega))
  have HBY := Lib.hid hb
  have HWH := Lib.hid hw
  have HNB := Lib.hid hnb
  have HNW := Lib.hid hnw
  clear hb0 hk0 hb hw hq hnb hnw hl
  go_enter Tryz.func19, Tryz.ntmps19
  go_wp2_with fail
  refine HV.out.mono ?_
  rintro e w1 ⟨⟨b, rfl, hbq⟩, hb1⟩
  obtain rfl : b = true := hbq.2 HQ.out
  have HS1 := Lib.hid (HS0.out.same hb1)
  clear hb1 c0 c1 c2 hwz hlt0 hbq HV
  go_upto_region 3 with fail
  refine wp_region_held_drew (S := fun w' => RvI w (vk : Int) Ab Aw nb nw cb cw w') (by kernel_rfl) (HS1.out.same (Below.refl _ _).drew) (fun hHeld => ?_)
  refine wpAnyH_take (i := 1) (v := ?vv1) rfl (by kernel_rfl) (by kernel_rfl) (by kernel_rfl) (fun _ _ _ h => h) (Or.inl ⟨by rfl, ?hyv1⟩) (by assumption) ?restv1
  case hyv1 => (intro w_ hSw; (try dsimp only at hSw); obtain ⟨_, h1_, d0_, d1_, d2_⟩ := hSw; go_simp; (try with_reducible rfl))
  (try simp only [Act.put, List.setIfInBounds_toArray, List.set_cons_zero, List.set_cons_succ, List.getElem_toArray, List.getElem_cons_zero, List.getElem_cons_succ])
  refine wpAnyH_take (i := 2) (v := ?vv2) rfl (by kernel_rfl) (by kernel_rfl) (by kernel_rfl) (fun _ _ _ h => h) (Or.inl ⟨by rfl, ?hyv2⟩) (by assumption) ?restv2
  case hyv2 => (intro w_ hSw; (try dsimp only at hSw); obtain ⟨_, h1_, d0_, d1_, d2_⟩ := hSw; go_simp; (try with_reducible rfl))
  (try simp only [Act.put, List.setIfInBounds_toArray, List.set_cons_zero, List.set_cons_succ, List.getElem_toArray, List.getElem_cons_zero, List.getElem_cons_succ])
  refine wpAnyH_ready (rs := [0]) (by kernel_rfl) (by simp) ?_
  refine AllReadyH.cons rfl (fun K hK => ?_) AllReadyH.nil
  go_simp
  go_wp2_with (go_at_call 38; refine (ref_vb_w _).mono ?_; rintro e w3 ⟨g1, rfl, hbx, hcx⟩)
  refine hK.out _ _ ?hSv0 (fun hHeldv0 => ?_)
  case hSv0 => exact hHeld.same hbx
  clear hK K
  (try simp only [Act.put, List.setIfInBounds_toArray, List.set_cons_zero, List.set_cons_succ, List.getElem_toArray, List.getElem_cons_zero, List.getElem_cons_succ])
  refine wpAnyH_weak (S2 := fun w' => (RvI w (vk : Int) Ab Aw nb nw cb cw w') ∧ w'.cell? ⟨g1, vk, none⟩ = some (.string ⟨VBT.toArray⟩)) (fun w h => h.1) _ _ _ _ ?_
  have hHv : (fun w' : World => (RvI w (vk : Int) Ab Aw nb nw cb cw w') ∧ w'.cell? ⟨g1, vk, none⟩ = some (.string ⟨VBT.toArray⟩)) w3 := ⟨hHeldv0, (by rw [← HVT.out]; exact hcx vk hvk2)⟩
  refine wpAnyH_take (i := 3) (v := ?vv3) rfl (by kernel_rfl) (by kernel_rfl) (by kernel_rfl) (fun _ _ _ h => h) (Or.inl ⟨by rfl, ?hyv3⟩) (by assumption) ?restv3
  case hyv3 => (intro w_ hSw; (try dsimp only at hSw); obtain ⟨⟨_, h1_, d0_, d1_, d2_⟩, d3_⟩ := hSw; go_simp; (try with_reducible rfl))
  (try simp only [Act.put, List.setIfInBounds_toArray, List.set_cons_zero, List.set_cons_succ, List.getElem_toArray, List.getElem_cons_zero, List.getElem_cons_succ])
  refine wpAnyH_take (i := 4) (v := ?vv4) rfl (by kernel_rfl) (by kernel_rfl) (by kernel_rfl) (fun _ _ _ h => h) (Or.inl ⟨by rfl, ?hyv4⟩) (by assumption) ?restv4
  case hyv4 => (intro w_ hSw; (try dsimp only at hSw); obtain ⟨⟨_, h1_, d0_, d1_, d2_⟩, d3_⟩ := hSw; go_simp; (try with_reducible rfl))
  (try simp only [Act.put, List.setIfInBounds_toArray, List.set_cons_zero, List.set_cons_succ, List.getElem_toArray, List.getElem_cons_zero, List.getElem_cons_succ])
  refine wpAnyH_take (i := 5) (v := ?vv5) rfl (by kernel_rfl) (by kernel_rfl) (by kernel_rfl) (fun _ _ _ h => h) (Or.inl ⟨by rfl, ?hyv5⟩) (by assumption) ?restv5
  case hyv5 => (intro w_ hSw; (try dsimp only at hSw); obtain ⟨⟨_, h1_, d0_, d1_, d2_⟩, d3_⟩ := hSw; go_simp; (try with_reducible rfl))
  (try simp only [Act.put, List.setIfInBounds_toArray, List.set_cons_zero, List.set_cons_succ, List.getElem_toArray, List.getElem_cons_zero, List.getElem_cons_succ])
  refine wpAnyH_done (by kernel_rfl) ?_ _
  have HS2 := Lib.hid hHv.1
  clear hHv hHeld hHeldv0 hbx hcx
  go_wp2_with fail
  go_loopw [4, 5] (fun s i x => ∃ k : Nat, k ≤ nb ∧ i = .int .i64 k ∧ s = .string ⟨(VBT ++ byTx (byl.take k)).toArray⟩ ∧ RvI w (vk : Int) Ab Aw nb nw cb cw x) (fun s i _ => nb - (intOf i).toNat)
  case atStart => exact ⟨0, by omega, rfl, by simp [byTx], HS2.out⟩
  case round =>
    obtain ⟨k, hk, rfl, rfl, hs⟩ := hrel
    have HS := Lib.hid hs
    obtain ⟨s1, s2, c0, c1, c2⟩ := hs
    clear HS0 HS1 HS2
    by_cases hlt : k < nb
    · have k3 : decide ((k : Int) < (nb : Int)) = true := by rw [decide_eq_true_eq]; omega
      have k4 : (k : Int) < (nb : Int) := by omega
      have hkl : k < byl.length := by have := HNB.out; omega
      obtain ⟨g, o, rfl, hg, hc⟩ := HBY.out (by omega)
      have y3 := (s1.cell (p := ⟨g, o + k, none⟩) (by simp only []; omega)).trans (hc k hkl)
      obtain ⟨xr, _⟩ := HIFF.out.2.1 k hkl
      have HBT := Lib.hid (byTx_step hkl)
      have HLS : Hid ((VBT ++ byTx (byl.take k)).length + (byTx (byl.take (k + 1))).length ≤ 2000) := by
        have h1 := byTx_mono byl k
        have h2 := byTx_mono byl (k + 1)
        have h3 := HLEN.out
        show _ ≤ _
        rw [List.length_append]; omega
      have HFL : Hid ((fdW (byl.getD k 0)).length ≤ 7) := getD_len fd_len _
      unfold fdW at HBT HFL
      generalize byl.getD k 0 = x at *
      obtain ⟨xk, rfl⟩ : ∃ xk : Nat, x = (xk : Int) := ⟨x.toNat, by omega⟩
      have hxk : xk < 5 := by omega
      have hxi : (xk : Int) < 5 := by omega
      have HFN : Hid (fdL.getD xk [] = fdL.getD ((xk : Int)).toNat []) := rfl
      generalize fdL.getD ((xk : Int)).toNat [] = FN at *
      have hfl := HFL.out
      have hls : (VBT ++ byTx (byl.take k)).length ≤ 2000 := by have := HLS.out; omega
      have HST : Hid (VBT ++ byTx (byl.take k) = VBT ++ byTx (byl.take k)) := rfl
      obtain ⟨SS, hSS⟩ : ∃ SS, VBT ++ byTx (byl.take k) = SS := ⟨_, rfl⟩
      rw [hSS] at hls ⊢
      have HSS := Lib.hid hSS
      clear hc hkl hSS HST
      have hn1 : ¬ 9223372036854775807 < SS.length + 4 := by omega
      have hn2 : ¬ 9223372036854775807 < SS.length + 1 := by omega
      have hn3 : ¬ 9223372036854775807 < SS.length + 4 + FN.length := by omega
      have hn4 : ¬ 9223372036854775807 < SS.length + 1 + FN.length := by omega
      by_cases hk0 : k = 0
      · have e0 : ((k : Int) == 0) = true := by rw [beq_iff_eq]; omega
        have E5 : (⟨SS.toArray⟩ ++ ⟨#[32, 98, 121, 32]⟩ ++ ⟨FN.toArray⟩ : ByteArray) = ⟨(VBT ++ byTx (byl.take (k + 1))).toArray⟩ := by
          rw [HBT.out, if_pos hk0, ← HSS.out]; apply ByteArray.ext; simp
        have HE5 := Lib.hid E5
        clear E5 hk0
        go_upto_region 10 with fail
        refine wp_region_held_drew (S := fun w' => RvI w (vk : Int) (some ⟨g, o, none⟩) Aw nb nw cb cw w' ∧ w'.cell? ⟨g, o + k, none⟩ = some (.int .i64 (xk : Int))) (by kernel_rfl) ⟨HS.out.same (Below.refl _ _).drew, y3⟩ (fun hHeld => ?_)
        refine wpAnyH_take (i := 0) (v := ?vbz0) rfl (by kernel_rfl) (by kernel_rfl) (by kernel_rfl) (fun _ _ _ h => h) (Or.inl ⟨by rfl, ?hybz0⟩) (by assumption) ?restbz0
        case hybz0 => (intro w_ hSw; (try dsimp only at hSw); obtain ⟨⟨_, h1_, d0_, d1_, d2_⟩, d3_⟩ := hSw; go_simp; (try with_reducible rfl))
        (try simp only [Act.put, List.setIfInBounds_toArray, List.set_cons_zero, List.set_cons_succ, List.getElem_toArray, List.getElem_cons_zero, List.getElem_cons_succ])
        refine wpAnyH_take (i := 2) (v := ?vbz2) rfl (by kernel_rfl) (by kernel_rfl) (by kernel_rfl) (fun _ _ _ h => h) (Or.inl ⟨by rfl, ?hybz2⟩) (by assumption) ?restbz2
        case hybz2 => (intro w_ hSw; (try dsimp only at hSw); obtain ⟨⟨_, h1_, d0_, d1_, d2_⟩, d3_⟩ := hSw; go_simp; (try with_reducible rfl))
        (try simp only [Act.put, List.setIfInBounds_toArray, List.set_cons_zero, List.set_cons_succ, List.getElem_toArray, List.getElem_cons_zero, List.getElem_cons_succ])
        refine wpAnyH_take (i := 3) (v := ?vbz3) rfl (by kernel_rfl) (by kernel_rfl) (by kernel_rfl) (fun _ _ _ h => h) (Or.inl ⟨by rfl, ?hybz3⟩) (by assumption) ?restbz3
        case hybz3 => (intro w_ hSw; (try dsimp only at hSw); obtain ⟨⟨_, h1_, d0_, d1_, d2_⟩, d3_⟩ := hSw; go_simp; (try with_reducible rfl))
        (try simp only [Act.put, List.setIfInBounds_toArray, List.set_cons_zero, List.set_cons_succ, List.getElem_toArray, List.getElem_cons_zero, List.getElem_cons_succ])
        refine wpAnyH_take (i := 4) (v := ?vbz4) rfl (by kernel_rfl) (by kernel_rfl) (by kernel_rfl) (fun _ _ _ h => h) (Or.inl ⟨by rfl, ?hybz4⟩) (by assumption) ?restbz4
        case hybz4 => (intro w_ hSw; (try dsimp only at hSw); obtain ⟨⟨_, h1_, d0_, d1_, d2_⟩, d3_⟩ := hSw; go_simp; (try with_reducible rfl))
        (try simp only [Act.put, List.setIfInBounds_toArray, List.set_cons_zero, List.set_cons_succ, List.getElem_toArray, List.getElem_cons_zero, List.getElem_cons_succ])
        refine wpAnyH_take (i := 5) (v := ?vbz5) rfl (by kernel_rfl) (by kernel_rfl) (by kernel_rfl) (fun _ _ _ h => h) (Or.inl ⟨by rfl, ?hybz5⟩) (by assumption) ?restbz5
        case hybz5 => (intro w_ hSw; (try dsimp only at hSw); obtain ⟨⟨_, h1_, d0_, d1_, d2_⟩, d3_⟩ := hSw; go_simp; (try with_reducible rfl))
        (try simp only [Act.put, List.setIfInBounds_toArray, List.set_cons_zero, List.set_cons_succ, List.getElem_toArray, List.getElem_cons_zero, List.getElem_cons_succ])
        refine wpAnyH_take (i := 6) (v := ?vbz6) rfl (by kernel_rfl) (by kernel_rfl) (by kernel_rfl) (fun _ _ _ h => h) (Or.inl ⟨by rfl, ?hybz6⟩) (by assumption) ?restbz6
        case hybz6 => (intro w_ hSw; (try dsimp only at hSw); obtain ⟨⟨_, h1_, d0_, d1_, d2_⟩, d3_⟩ := hSw; go_simp; (try with_reducible rfl))
        (try simp only [Act.put, List.setIfInBounds_toArray, List.set_cons_zero, List.set_cons_succ, List.getElem_toArray, List.getElem_cons_zero, List.getElem_cons_succ])
        refine wpAnyH_ready (rs := [1]) (by kernel_rfl) (by simp) ?_
        refine AllReadyH.cons rfl (fun K hK => ?_) AllReadyH.nil
        go_simp
        go_wp2_with (go_at_call 48; refine (ref_fd_w _).mono ?_; rintro e w3 ⟨g1, rfl, hbx, hcx⟩)
        refine hK.out _ _ ?hSbz1 (fun hHeldbz1 => ?_)
        case hSbz1 => exact ⟨hHeld.1.same hbx, (hbx.cell (World.block_lt_of_cell? _ _ hHeld.2)).trans hHeld.2⟩
        clear hK K
        (try simp only [Act.put, List.setIfInBounds_toArray, List.set_cons_zero, List.set_cons_succ, List.getElem_toArray, List.getElem_cons_zero, List.getElem_cons_succ])
        refine wpAnyH_weak (S2 := fun w' => (RvI w (vk : Int) (some ⟨g, o, none⟩) Aw nb nw cb cw w' ∧ w'.cell? ⟨g, o + k, none⟩ = some (.int .i64 (xk : Int))) ∧ w'.cell? ⟨g1, xk, none⟩ = some (.string ⟨FN.toArray⟩)) (fun w h => h.1) _ _ _ _ ?_
        have hHbz : (fun w' : World => (RvI w (vk : Int) (some ⟨g, o, none⟩) Aw nb nw cb cw w' ∧ w'.cell? ⟨g, o + k, none⟩ = some (.int .i64 (xk : Int))) ∧ w'.cell? ⟨g1, xk, none⟩ = some (.string ⟨FN.toArray⟩)) w3 := ⟨hHeldbz1, (by rw [← HFN.out]; exact hcx xk hxk)⟩
        refine wpAnyH_take (i := 7) (v := ?vbz7) rfl (by kernel_rfl) (by kernel_rfl) (by kernel_rfl) (fun _ _ _ h => h) (Or.inl ⟨by rfl, ?hybz7⟩) (by assumption) ?restbz7
        case hybz7 => (intro w_ hSw; (try dsimp only at hSw); obtain ⟨⟨⟨_, h1_, d0_, d1_, d2_⟩, d3_⟩, d4_⟩ := hSw; go_simp; (try with_reducible rfl))
        (try simp only [Act.put, List.setIfInBounds_toArray, List.set_cons_zero, List.set_cons_succ, List.getElem_toArray, List.getElem_cons_zero, List.getElem_cons_succ])
        refine wpAnyH_take (i := 8) (v := ?vbz8) rfl (by kernel_rfl) (by kernel_rfl) (by kernel_rfl) (fun _ _ _ h => h) (Or.inl ⟨by rfl, ?hybz8⟩) (by assumption) ?restbz8
        case hybz8 => (intro w_ hSw; (try dsimp only at hSw); obtain ⟨⟨⟨_, h1_, d0_, d1_, d2_⟩, d3_⟩, d4_⟩ := hSw; go_simp; (try with_reducible rfl))
        (try simp only [Act.put, List.setIfInBounds_toArray, List.set_cons_zero, List.set_cons_succ, List.getElem_toArray, List.getElem_cons_zero, List.getElem_cons_succ])
        refine wpAnyH_take (i := 9) (v := ?vbz9) rfl (by kernel_rfl) (by kernel_rfl) (by kernel_rfl) (fun _ _ _ h => h) (Or.inl ⟨by rfl, ?hybz9⟩) (by assumption) ?restbz9
        case hybz9 => (intro w_ hSw; (try dsimp only at hSw); obtain ⟨⟨⟨_, h1_, d0_, d1_, d2_⟩, d3_⟩, d4_⟩ := hSw; go_simp; (try with_reducible rfl))
        (try simp only [Act.put, List.setIfInBounds_toArray, List.set_cons_zero, List.set_cons_succ, List.getElem_toArray, List.getElem_cons_zero, List.getElem_cons_succ])
        refine wpAnyH_take (i := 10) (v := ?vbz10) rfl (by kernel_rfl) (by kernel_rfl) (by kernel_rfl) (fun _ _ _ h => h) (Or.inl ⟨by rfl, ?hybz10⟩) (by assumption) ?restbz10
        case hybz10 => (intro w_ hSw; (try dsimp only at hSw); obtain ⟨⟨⟨_, h1_, d0_, d1_, d2_⟩, d3_⟩, d4_⟩ := hSw; go_simp; (try with_reducible rfl))
        (try simp only [Act.put, List.setIfInBounds_toArray, List.set_cons_zero, List.set_cons_succ, List.getElem_toArray, List.getElem_cons_zero, List.getElem_cons_succ])
        refine wpAnyH_done (by kernel_rfl) ?_ _
        have HSN := Lib.hid hHeldbz1.1
        clear hHbz hHeldbz1 hHeld hbx hcx y3
        go_wp2_with fail
        go_roundw
        case rel => exact ⟨k + 1, by omega, by go_num, by rw [← HE5.out], HSN.out⟩
        case measure => simp [intOf]; omega
      · have e0 : ((k : Int) == 0) = false := by rw [beq_eq_false_iff_ne]; omega
        have E5 : (⟨SS.toArray⟩ ++ ⟨#[44]⟩ ++ ⟨FN.toArray⟩ : ByteArray) = ⟨(VBT ++ byTx (byl.take (k + 1))).toArray⟩ := by
          rw [HBT.out, if_neg hk0, ← HSS.out]; apply ByteArray.ext; simp
        have HE5 := Lib.hid E5
        clear E5
        go_upto_region 10 with fail
        refine wp_region_held_drew (S := fun w' => RvI w (vk : Int) (some ⟨g, o, none⟩) Aw nb nw cb cw w' ∧ w'.cell? ⟨g, o + k, none⟩ = some (.int .i64 (xk : Int))) (by kernel_rfl) ⟨HS.out.same (Below.refl _ _).drew, y3⟩ (fun hHeld => ?_)
        refine wpAnyH_take (i := 0) (v := ?vby0) rfl (by kernel_rfl) (by kernel_rfl) (by kernel_rfl) (fun _ _ _ h => h) (Or.inl ⟨by rfl, ?hyby0⟩) (by assumption) ?restby0
        case hyby0 => (intro w_ hSw; (try dsimp only at hSw); obtain ⟨⟨_, h1_, d0_, d1_, d2_⟩, d3_⟩ := hSw; go_simp; (try with_reducible rfl))
        (try simp only [Act.put, List.setIfInBounds_toArray, List.set_cons_zero, List.set_cons_succ, List.getElem_toArray, List.getElem_cons_zero, List.getElem_cons_succ])
        refine wpAnyH_take (i := 2) (v := ?vby2) rfl (by kernel_rfl) (by kernel_rfl) (by kernel_rfl) (fun _ _ _ h => h) (Or.inl ⟨by rfl, ?hyby2⟩) (by assumption) ?restby2
        case hyby2 => (intro w_ hSw; (try dsimp only at hSw); obtain ⟨⟨_, h1_, d0_, d1_, d2_⟩, d3_⟩ := hSw; go_simp; (try with_reducible rfl))
        (try simp only [Act.put, List.setIfInBounds_toArray, List.set_cons_zero, List.set_cons_succ, List.getElem_toArray, List.getElem_cons_zero, List.getElem_cons_succ])
        refine wpAnyH_take (i := 3) (v := ?vby3) rfl (by kernel_rfl) (by kernel_rfl) (by kernel_rfl) (fun _ _ _ h => h) (Or.inl ⟨by rfl, ?hyby3⟩) (by assumption) ?restby3
        case hyby3 => (intro w_ hSw; (try dsimp only at hSw); obtain ⟨⟨_, h1_, d0_, d1_, d2_⟩, d3_⟩ := hSw; go_simp; (try with_reducible rfl))
        (try simp only [Act.put, List.setIfInBounds_toArray, List.set_cons_zero, List.set_cons_succ, List.getElem_toArray, List.getElem_cons_zero, List.getElem_cons_succ])
        refine wpAnyH_take (i := 4) (v := ?vby4) rfl (by kernel_rfl) (by kernel_rfl) (by kernel_rfl) (fun _ _ _ h => h) (Or.inl ⟨by rfl, ?hyby4⟩) (by assumption) ?restby4
        case hyby4 => (intro w_ hSw; (try dsimp only at hSw); obtain ⟨⟨_, h1_, d0_, d1_, d2_⟩, d3_⟩ := hSw; go_simp; (try with_reducible rfl))
        (try simp only [Act.put, List.setIfInBounds_toArray, List.set_cons_zero, List.set_cons_succ, List.getElem_toArray, List.getElem_cons_zero, List.getElem_cons_succ])
        refine wpAnyH_take (i := 5) (v := ?vby5) rfl (by kernel_rfl) (by kernel_rfl) (by kernel_rfl) (fun _ _ _ h => h) (Or.inl ⟨by rfl, ?hyby5⟩) (by assumption) ?restby5
        case hyby5 => (intro w_ hSw; (try dsimp only at hSw); obtain ⟨⟨_, h1_, d0_, d1_, d2_⟩, d3_⟩ := hSw; go_simp; (try with_reducible rfl))
        (try simp only [Act.put, List.setIfInBounds_toArray, List.set_cons_zero, List.set_cons_succ, List.getElem_toArray, List.getElem_cons_zero, List.getElem_cons_succ])
        refine wpAnyH_take (i := 6) (v := ?vby6) rfl (by kernel_rfl) (by kernel_rfl) (by kernel_rfl) (fun _ _ _ h => h) (Or.inl ⟨by rfl, ?hyby6⟩) (by assumption) ?restby6
        case hyby6 => (intro w_ hSw; (try dsimp only at hSw); obtain ⟨⟨_, h1_, d0_, d1_, d2_⟩, d3_⟩ := hSw; go_simp; (try with_reducible rfl))
        (try simp only [Act.put, List.setIfInBounds_toArray, List.set_cons_zero, List.set_cons_succ, List.getElem_toArray, List.getElem_cons_zero, List.getElem_cons_succ])
        refine wpAnyH_ready (rs := [1]) (by kernel_rfl) (by simp) ?_
        refine AllReadyH.cons rfl (fun K hK => ?_) AllReadyH.nil
        go_simp
        go_wp2_with (go_at_call 48; refine (ref_fd_w _).mono ?_; rintro e w3 ⟨g1, rfl, hbx, hcx⟩)
        refine hK.out _ _ ?hSby1 (fun hHeldby1 => ?_)
        case hSby1 => exact ⟨hHeld.1.same hbx, (hbx.cell (World.block_lt_of_cell? _ _ hHeld.2)).trans hHeld.2⟩
        clear hK K
        (try simp only [Act.put, List.setIfInBounds_toArray, List.set_cons_zero, List.set_cons_succ, List.getElem_toArray, List.getElem_cons_zero, List.getElem_cons_succ])
        refine wpAnyH_weak (S2 := fun w' => (RvI w (vk : Int) (some ⟨g, o, none⟩) Aw nb nw cb cw w' ∧ w'.cell? ⟨g, o + k, none⟩ = some (.int .i64 (xk : Int))) ∧ w'.cell? ⟨g1, xk, none⟩ = some (.string ⟨FN.toArray⟩)) (fun w h => h.1) _ _ _ _ ?_
        have hHby : (fun w' : World => (RvI w (vk : Int) (some ⟨g, o, none⟩) Aw nb nw cb cw w' ∧ w'.cell? ⟨g, o + k, none⟩ = some (.int .i64 (xk : Int))) ∧ w'.cell? ⟨g1, xk, none⟩ = some (.string ⟨FN.toArray⟩)) w3 := ⟨hHeldby1, (by rw [← HFN.out]; exact hcx xk hxk)⟩
        refine wpAnyH_take (i := 7) (v := ?vby7) rfl (by kernel_rfl) (by kernel_rfl) (by kernel_rfl) (fun _ _ _ h => h) (Or.inl ⟨by rfl, ?hyby7⟩) (by assumption) ?restby7
        case hyby7 => (intro w_ hSw; (try dsimp only at hSw); obtain ⟨⟨⟨_, h1_, d0_, d1_, d2_⟩, d3_⟩, d4_⟩ := hSw; go_simp; (try with_reducible rfl))
        (try simp only [Act.put, List.setIfInBounds_toArray, List.set_cons_zero, List.set_cons_succ, List.getElem_toArray, List.getElem_cons_zero, List.getElem_cons_succ])
        refine wpAnyH_take (i := 8) (v := ?vby8) rfl (by kernel_rfl) (by kernel_rfl) (by kernel_rfl) (fun _ _ _ h => h) (Or.inl ⟨by rfl, ?hyby8⟩) (by assumption) ?restby8
        case hyby8 => (intro w_ hSw; (try dsimp only at hSw); obtain ⟨⟨⟨_, h1_, d0_, d1_, d2_⟩, d3_⟩, d4_⟩ := hSw; go_simp; (try with_reducible rfl))
        (try simp only [Act.put, List.setIfInBounds_toArray, List.set_cons_zero, List.set_cons_succ, List.getElem_toArray, List.getElem_cons_zero, List.getElem_cons_succ])
        refine wpAnyH_take (i := 9) (v := ?vby9) rfl (by kernel_rfl) (by kernel_rfl) (by kernel_rfl) (fun _ _ _ h => h) (Or.inl ⟨by rfl, ?hyby9⟩) (by assumption) ?restby9
        case hyby9 => (intro w_ hSw; (try dsimp only at hSw); obtain ⟨⟨⟨_, h1_, d0_, d1_, d2_⟩, d3_⟩, d4_⟩ := hSw; go_simp; (try with_reducible rfl))
        (try simp only [Act.put, List.setIfInBounds_toArray, List.set_cons_zero, List.set_cons_succ, List.getElem_toArray, List.getElem_cons_zero, List.getElem_cons_succ])
        refine wpAnyH_take (i := 10) (v := ?vby10) rfl (by kernel_rfl) (by kernel_rfl) (by kernel_rfl) (fun _ _ _ h => h) (Or.inl ⟨by rfl, ?hyby10⟩) (by assumption) ?restby10
        case hyby10 => (intro w_ hSw; (try dsimp only at hSw); obtain ⟨⟨⟨_, h1_, d0_, d1_, d2_⟩, d3_⟩, d4_⟩ := hSw; go_simp; (try with_reducible rfl))
        (try simp only [Act.put, List.setIfInBounds_toArray, List.set_cons_zero, List.set_cons_succ, List.getElem_toArray, List.getElem_cons_zero, List.getElem_cons_succ])
        refine wpAnyH_done (by kernel_rfl) ?_ _
        have HSN := Lib.hid hHeldby1.1
        clear hHby hHeldby1 hHeld hbx hcx y3
        go_wp2_with fail
        go_roundw
        case rel => exact ⟨k + 1, by omega, by go_num, by rw [← HE5.out], HSN.out⟩
        case measure => simp [intOf]; omega
    · have k3 : decide ((k : Int) < (nb : Int)) = false := by rw [decide_eq_false_iff_not]; omega
      have HBE : Hid (byl.take k = byl) := List.take_of_length_le (by have := HNB.out; omega)
      rw [HBE.out]
      go_wp2_with fail
      go_loopw [4, 6] (fun s i x => ∃ m : Nat, m ≤ nw ∧ i = .int .i64 m ∧ s = .string ⟨(VBT ++ byTx byl ++ whTx (wh.take m)).toArray⟩ ∧ RvI w (vk : Int) Ab Aw nb nw cb cw x) (fun s i _ => nw - (intOf i).toNat)
      case atStart => exact ⟨0, by omega, rfl, by simp [whTx], HS.out⟩
      case round =>
        clear HS c0 c1 c2 s1 s2
        obtain ⟨m, hm, rfl, rfl, hs⟩ := hrel
        have HS := Lib.hid hs
        obtain ⟨s1, s2, c0, c1, c2⟩ := hs
        by_cases hlm : m < nw
        · have k5 : decide ((m : Int) < (nw : Int)) = true := by rw [decide_eq_true_eq]; omega
          have k6 : (m : Int) < (nw : Int) := by omega
          obtain ⟨ad, rfl, had, b0, b1, b2⟩ := (HWH.out.lowQ hB (Nat.le_refl _) s1).cnd_at hlm
          have hml : m < wh.length := by have := HNW.out; omega
          have hokc := HIFF.out.2.2 m hml
          have HVA := Lib.hid (fun w => rvalue_yes (wh.getD m default) w hokc)
          have HWT := Lib.hid (whTx_step hml)
          have hls : (VBT ++ byTx byl ++ whTx (wh.take m)).length ≤ 1000 := by
            have h1 := whTx_mono wh m
            have h3 := HLEN.out
            rw [List.length_append, List.length_append]; omega
          have hvl := (valT_fact hokc).2
          have hfl : (fdW (wh.getD m default).f).length ≤ 7 := getD_len fd_len _
          have hol : (opL.getD (wh.getD m default).o.toNat []).length ≤ 2 := getD_len op_len _
          unfold cTx at HWT
          unfold fdW at HWT hfl
          generalize valT (wh.getD m default) = VT at *
          generalize wh.getD m default = cc at *
          obtain ⟨f, o, v⟩ := cc
          obtain ⟨f0, f4, o0, o5, _⟩ := hokc
          simp only [] at b0 b1 b2 hfl hol HWT f0 f4 o0 o5
          obtain ⟨fk, rfl⟩ : ∃ fk : Nat, f = (fk : Int) := ⟨f.toNat, by omega⟩
          obtain ⟨ok, rfl⟩ : ∃ ok : Nat, o = (ok : Int) := ⟨o.toNat, by omega⟩
          have hfk : fk < 5 := by omega
          have hfi : (fk : Int) < 5 := by omega
          have hok2 : ok < 6 := by omega
          have hoi : (ok : Int) < 6 := by omega
          have HFN : Hid (fdL.getD fk [] = fdL.getD ((fk : Int)).toNat []) := rfl
          have HON : Hid (opL.getD ok [] = opL.getD ((ok : Int)).toNat []) := rfl
          have HVA2 : Hid (∀ w, Calls Tryz.prog 50 #[.agg #[.int .i64 (fk : Int), .int .i64 (ok : Int), .int .i64 v]] w fun e w' => e = .returned (.string ⟨VT.toArray⟩) ∧ Below w.heap.size w w') := HVA.out
          clear HVA
          have HVA := HVA2
          clear HVA2
          generalize fdL.getD ((fk : Int)).toNat [] = FN at *
          generalize opL.getD ((ok : Int)).toNat [] = ON at *
          obtain ⟨SS, hSS⟩ : ∃ SS, VBT ++ byTx byl ++ whTx (wh.take m) = SS := ⟨_, rfl⟩
          rw [hSS] at hls ⊢
          have HSS := Lib.hid hSS
          clear hSS hml
          have hn1 : ¬ 9223372036854775807 < SS.length + 7 := by omega
          have hn2 : ¬ 9223372036854775807 < SS.length + 5 := by omega
          have hn3 : ¬ 9223372036854775807 < FN.length + 1 := by omega
          have hn4 : ¬ 9223372036854775807 < FN.length + 1 + ON.length := by omega
          have hn5 : ¬ 9223372036854775807 < FN.length + 1 + ON.length + 1 := by omega
          have hn6 : ¬ 9223372036854775807 < FN.length + 1 + ON.length + 1 + VT.length := by omega
          have hn7 : ¬ 9223372036854775807 < SS.length + 7 + (FN.length + 1 + ON.length + 1 + VT.length) := by omega
          have hn8 : ¬ 9223372036854775807 < SS.length + 5 + (FN.length + 1 + ON.length + 1 + VT.length) := by omega
          by_cases hk0 : m = 0
          · have e0 : ((m : Int) == 0) = true := by rw [beq_iff_eq]; omega
            have E5 : (⟨SS.toArray⟩ ++ ⟨#[32, 119, 104, 101, 114, 101, 32]⟩ ++ (⟨FN.toArray⟩ ++ ⟨#[32]⟩ ++ ⟨ON.toArray⟩ ++ ⟨#[32]⟩ ++ ⟨VT.toArray⟩) : ByteArray) = ⟨(VBT ++ byTx byl ++ whTx (wh.take (m + 1))).toArray⟩ := by
              rw [HWT.out, if_pos hk0, ← HSS.out]; apply ByteArray.ext; simp
            have HE5 := Lib.hid E5
            clear E5 hk0
            go_upto_region 17 with fail
            refine wp_region_held_drew (S := fun w' => RvI w (vk : Int) Ab (some ad) nb nw cb cw w' ∧ w'.cell? (ad.add (m * 3)) = some (.int .i64 (fk : Int)) ∧ w'.cell? ⟨(ad.add (m * 3)).block, (ad.add (m * 3)).off + 1, none⟩ = some (.int .i64 (ok : Int)) ∧ w'.cell? ⟨(ad.add (m * 3)).block, (ad.add (m * 3)).off + 2, none⟩ = some (.int .i64 v)) (by kernel_rfl) ⟨HS.out.same (Below.refl _ _).drew, b0, b1, b2⟩ (fun hHeld => ?_)
            refine wpAnyH_take (i := 0) (v := ?vcz0) rfl (by kernel_rfl) (by kernel_rfl) (by kernel_rfl) (fun _ _ _ h => h) (Or.inl ⟨by rfl, ?hycz0⟩) (by assumption) ?restcz0
            case hycz0 => (intro w_ hSw; (try dsimp only at hSw); obtain ⟨⟨_, h1_, d0_, d1_, d2_⟩, d3_, d4_, d5_⟩ := hSw; go_simp; (try with_reducible rfl))
            (try simp only [Act.put, List.setIfInBounds_toArray, List.set_cons_zero, List.set_cons_succ, List.getElem_toArray, List.getElem_cons_zero, List.getElem_cons_succ])
            refine wpAnyH_take (i := 2) (v := ?vcz2) rfl (by kernel_rfl) (by kernel_rfl) (by kernel_rfl) (fun _ _ _ h => h) (Or.inl ⟨by rfl, ?hycz2⟩) (by assumption) ?restcz2
            case hycz2 => (intro w_ hSw; (try dsimp only at hSw); obtain ⟨⟨_, h1_, d0_, d1_, d2_⟩, d3_, d4_, d5_⟩ := hSw; go_simp; (try with_reducible rfl))
            (try simp only [Act.put, List.setIfInBounds_toArray, List.set_cons_zero, List.set_cons_succ, List.getElem_toArray, List.getElem_cons_zero, List.getElem_cons_succ])
            refine wpAnyH_take (i := 3) (v := ?vcz3) rfl (by kernel_rfl) (by kernel_rfl) (by kernel_rfl) (fun _ _ _ h => h) (Or.inl ⟨by rfl, ?hycz3⟩) (by assumption) ?restcz3
            case hycz3 => (intro w_ hSw; (try dsimp only at hSw); obtain ⟨⟨_, h1_, d0_, d1_, d2_⟩, d3_, d4_, d5_⟩ := hSw; go_simp; (try with_reducible rfl))
            (try simp only [Act.put, List.setIfInBounds_toArray, List.set_cons_zero, List.set_cons_succ, List.getElem_toArray, List.getElem_cons_zero, List.getElem_cons_succ])
            refine wpAnyH_take (i := 4) (v := ?vcz4) rfl (by kernel_rfl) (by kernel_rfl) (by kernel_rfl) (fun _ _ _ h => h) (Or.inl ⟨by rfl, ?hycz4⟩) (by assumption) ?restcz4
            case hycz4 => (intro w_ hSw; (try dsimp only at hSw); obtain ⟨⟨_, h1_, d0_, d1_, d2_⟩, d3_, d4_, d5_⟩ := hSw; go_simp; (try with_reducible rfl))
            (try simp only [Act.put, List.setIfInBounds_toArray, List.set_cons_zero, List.set_cons_succ, List.getElem_toArray, List.getElem_cons_zero, List.getElem_cons_succ])
            refine wpAnyH_take (i := 5) (v := ?vcz5) rfl (by kernel_rfl) (by kernel_rfl) (by kernel_rfl) (fun _ _ _ h => h) (Or.inl ⟨by rfl, ?hycz5⟩) (by assumption) ?restcz5
            case hycz5 => (intro w_ hSw; (try dsimp only at hSw); obtain ⟨⟨_, h1_, d0_, d1_, d2_⟩, d3_, d4_, d5_⟩ := hSw; go_simp; (try with_reducible rfl))
            (try simp only [Act.put, List.setIfInBounds_toArray, List.set_cons_zero, List.set_cons_succ, List.getElem_toArray, List.getElem_cons_zero, List.getElem_cons_succ])
            refine wpAnyH_take (i := 6) (v := ?vcz6) rfl (by kernel_rfl) (by kernel_rfl) (by kernel_rfl) (fun _ _ _ h => h) (Or.inl ⟨by rfl, ?hycz6⟩) (by assumption) ?restcz6
            case hycz6 => (intro w_ hSw; (try dsimp only at hSw); obtain ⟨⟨_, h1_, d0_, d1_, d2_⟩, d3_, d4_, d5_⟩ := hSw; go_simp; (try with_reducible rfl))
            (try simp only [Act.put, List.setIfInBounds_toArray, List.set_cons_zero, List.set_cons_succ, List.getElem_toArray, List.getElem_cons_zero, List.getElem_cons_succ])
            refine wpAnyH_take (i := 7) (v := ?vcz7) rfl (by kernel_rfl) (by kernel_rfl) (by kernel_rfl) (fun _ _ _ h => h) (Or.inl ⟨by rfl, ?hycz7⟩) (by assumption) ?restcz7
            case hycz7 => (intro w_ hSw; (try dsimp only at hSw); obtain ⟨⟨_, h1_, d0_, d1_, d2_⟩, d3_, d4_, d5_⟩ := hSw; go_simp; (try with_reducible rfl))
            (try simp only [Act.put, List.setIfInBounds_toArray, List.set_cons_zero, List.set_cons_succ, List.getElem_toArray, List.getElem_cons_zero, List.getElem_cons_succ])
            refine wpAnyH_take (i := 12) (v := ?vcz12) rfl (by kernel_rfl) (by kernel_rfl) (by kernel_rfl) (fun _ _ _ h => h) (Or.inl ⟨by rfl, ?hycz12⟩) (by assumption) ?restcz12
            case hycz12 => (intro w_ hSw; (try dsimp only at hSw); obtain ⟨⟨_, h1_, d0_, d1_, d2_⟩, d3_, d4_, d5_⟩ := hSw; go_simp; (try with_reducible rfl))
            (try simp only [Act.put, List.setIfInBounds_toArray, List.set_cons_zero, List.set_cons_succ, List.getElem_toArray, List.getElem_cons_zero, List.getElem_cons_succ])
            refine wpAnyH_take (i := 13) (v := ?vcz13) rfl (by kernel_rfl) (by kernel_rfl) (by kernel_rfl) (fun _ _ _ h => h) (Or.inl ⟨by rfl, ?hycz13⟩) (by assumption) ?restcz13
            case hycz13 => (intro w_ hSw; (try dsimp only at hSw); obtain ⟨⟨_, h1_, d0_, d1_, d2_⟩, d3_, d4_, d5_⟩ := hSw; go_simp; (try with_reducible rfl))
            (try simp only [Act.put, List.setIfInBounds_toArray, List.set_cons_zero, List.set_cons_succ, List.getElem_toArray, List.getElem_cons_zero, List.getElem_cons_succ])
            refine wpAnyH_take (i := 14) (v := ?vcz14) rfl (by kernel_rfl) (by kernel_rfl) (by kernel_rfl) (fun _ _ _ h => h) (Or.inl ⟨by rfl, ?hycz14⟩) (by assumption) ?restcz14
            case hycz14 => (intro w_ hSw; (try dsimp only at hSw); obtain ⟨⟨_, h1_, d0_, d1_, d2_⟩, d3_, d4_, d5_⟩ := hSw; go_simp; (try with_reducible rfl))
            (try simp only [Act.put, List.setIfInBounds_toArray, List.set_cons_zero, List.set_cons_succ, List.getElem_toArray, List.getElem_cons_zero, List.getElem_cons_succ])
            refine wpAnyH_take (i := 15) (v := ?vcz15) rfl (by kernel_rfl) (by kernel_rfl) (by kernel_rfl) (fun _ _ _ h => h) (Or.inl ⟨by rfl, ?hycz15⟩) (by assumption) ?restcz15
            case hycz15 => (intro w_ hSw; (try dsimp only at hSw); obtain ⟨⟨_, h1_, d0_, d1_, d2_⟩, d3_, d4_, d5_⟩ := hSw; go_simp; (try with_reducible rfl))
            (try simp only [Act.put, List.setIfInBounds_toArray, List.set_cons_zero, List.set_cons_succ, List.getElem_toArray, List.getElem_cons_zero, List.getElem_cons_succ])
            refine wpAnyH_take (i := 16) (v := ?vcz16) rfl (by kernel_rfl) (by kernel_rfl) (by kernel_rfl) (fun _ _ _ h => h) (Or.inl ⟨by rfl, ?hycz16⟩) (by assumption) ?restcz16
            case hycz16 => (intro w_ hSw; (try dsimp only at hSw); obtain ⟨⟨_, h1_, d0_, d1_, d2_⟩, d3_, d4_, d5_⟩ := hSw; go_simp; (try with_reducible rfl))
            (try simp only [Act.put, List.setIfInBounds_toArray, List.set_cons_zero, List.set_cons_succ, List.getElem_toArray, List.getElem_cons_zero, List.getElem_cons_succ])
            refine wpAnyH_take (i := 17) (v := ?vcz17) rfl (by kernel_rfl) (by kernel_rfl) (by kernel_rfl) (fun _ _ _ h => h) (Or.inl ⟨by rfl, ?hycz17⟩) (by assumption) ?restcz17
            case hycz17 => (intro w_ hSw; (try dsimp only at hSw); obtain ⟨⟨_, h1_, d0_, d1_, d2_⟩, d3_, d4_, d5_⟩ := hSw; go_simp; (try with_reducible rfl))
            (try simp only [Act.put, List.setIfInBounds_toArray, List.set_cons_zero, List.set_cons_succ, List.getElem_toArray, List.getElem_cons_zero, List.getElem_cons_succ])
            refine wpAnyH_take (i := 22) (v := ?vcz22) rfl (by kernel_rfl) (by kernel_rfl) (by kernel_rfl) (fun _ _ _ h => h) (Or.inl ⟨by rfl, ?hycz22⟩) (by assumption) ?restcz22
            case hycz22 => (intro w_ hSw; (try dsimp only at hSw); obtain ⟨⟨_, h1_, d0_, d1_, d2_⟩, d3_, d4_, d5_⟩ := hSw; go_simp; (try with_reducible rfl))
            (try simp only [Act.put, List.setIfInBounds_toArray, List.set_cons_zero, List.set_cons_succ, List.getElem_toArray, List.getElem_cons_zero, List.getElem_cons_succ])
            refine wpAnyH_take (i := 23) (v := ?vcz23) rfl (by kernel_rfl) (by kernel_rfl) (by kernel_rfl) (fun _ _ _ h => h) (Or.inl ⟨by rfl, ?hycz23⟩) (by assumption) ?restcz23
            case hycz23 => (intro w_ hSw; (try dsimp only at hSw); obtain ⟨⟨_, h1_, d0_, d1_, d2_⟩, d3_, d4_, d5_⟩ := hSw; go_simp; (try with_reducible rfl))
            (try simp only [Act.put, List.setIfInBounds_toArray, List.set_cons_zero, List.set_cons_succ, List.getElem_toArray, List.getElem_cons_zero, List.getElem_cons_succ])
            refine wpAnyH_take (i := 24) (v := ?vcz24) rfl (by kernel_rfl) (by kernel_rfl) (by kernel_rfl) (fun _ _ _ h => h) (Or.inl ⟨by rfl, ?hycz24⟩) (by assumption) ?restcz24
            case hycz24 => (intro w_ hSw; (try dsimp only at hSw); obtain ⟨⟨_, h1_, d0_, d1_, d2_⟩, d3_, d4_, d5_⟩ := hSw; go_simp; (try with_reducible rfl))
            (try simp only [Act.put, List.setIfInBounds_toArray, List.set_cons_zero, List.set_cons_succ, List.getElem_toArray, List.getElem_cons_zero, List.getElem_cons_succ])
            refine wpAnyH_take (i := 25) (v := ?vcz25) rfl (by kernel_rfl) (by kernel_rfl) (by kernel_rfl) (fun _ _ _ h => h) (Or.inl ⟨by rfl, ?hycz25⟩) (by assumption) ?restcz25
            case hycz25 => (intro w_ hSw; (try dsimp only at hSw); obtain ⟨⟨_, h1_, d0_, d1_, d2_⟩, d3_, d4_, d5_⟩ := hSw; go_simp; (try with_reducible rfl))
            (try simp only [Act.put, List.setIfInBounds_toArray, List.set_cons_zero, List.set_cons_succ, List.getElem_toArray, List.getElem_cons_zero, List.getElem_cons_succ])
            refine wpAnyH_take (i := 26) (v := ?vcz26) rfl (by kernel_rfl) (by kernel_rfl) (by kernel_rfl) (fun _ _ _ h => h) (Or.inl ⟨by rfl, ?hycz26⟩) (by assumption) ?restcz26
            case hycz26 => (intro w_ hSw; (try dsimp only at hSw); obtain ⟨⟨_, h1_, d0_, d1_, d2_⟩, d3_, d4_, d5_⟩ := hSw; go_simp; (try with_reducible rfl))
            (try simp only [Act.put, List.setIfInBounds_toArray, List.set_cons_zero, List.set_cons_succ, List.getElem_toArray, List.getElem_cons_zero, List.getElem_cons_succ])
            refine wpAnyH_ready (rs := [1]) (by kernel_rfl) (by simp) ?_
            refine AllReadyH.cons rfl (fun K hK => ?_) AllReadyH.nil
            go_simp
            go_wp2_with (go_at_call 48; refine (ref_fd_w _).mono ?_; rintro e w3 ⟨g1, rfl, hbx, hcx⟩)
            refine hK.out _ _ ?hScz1 (fun hHeldcz1 => ?_)
            case hScz1 => exact ⟨hHeld.1.same hbx, (hbx.cell (World.block_lt_of_cell? _ _ hHeld.2.1)).trans hHeld.2.1, (hbx.cell (World.block_lt_of_cell? _ _ hHeld.2.2.1)).trans hHeld.2.2.1, (hbx.cell (World.block_lt_of_cell? _ _ hHeld.2.2.2)).trans hHeld.2.2.2⟩
            clear hK K
            (try simp only [Act.put, List.setIfInBounds_toArray, List.set_cons_zero, List.set_cons_succ, List.getElem_toArray, List.getElem_cons_zero, List.getElem_cons_succ])
            refine wpAnyH_weak (S2 := fun w' => (RvI w (vk : Int) Ab (some ad) nb nw cb cw w' ∧ w'.cell? (ad.add (m * 3)) = some (.int .i64 (fk : Int)) ∧ w'.cell? ⟨(ad.add (m * 3)).block, (ad.add (m * 3)).off + 1, none⟩ = some (.int .i64 (ok : Int)) ∧ w'.cell? ⟨(ad.add (m * 3)).block, (ad.add (m * 3)).off + 2, none⟩ = some (.int .i64 v)) ∧ w'.cell? ⟨g1, fk, none⟩ = some (.string ⟨FN.toArray⟩)) (fun w h => h.1) _ _ _ _ ?_
            have hHcza : (fun w' : World => (RvI w (vk : Int) Ab (some ad) nb nw cb cw w' ∧ w'.cell? (ad.add (m * 3)) = some (.int .i64 (fk : Int)) ∧ w'.cell? ⟨(ad.add (m * 3)).block, (ad.add (m * 3)).off + 1, none⟩ = some (.int .i64 (ok : Int)) ∧ w'.cell? ⟨(ad.add (m * 3)).block, (ad.add (m * 3)).off + 2, none⟩ = some (.int .i64 v)) ∧ w'.cell? ⟨g1, fk, none⟩ = some (.string ⟨FN.toArray⟩)) w3 := ⟨hHeldcz1, (by rw [← HFN.out]; exact hcx fk hfk)⟩
            refine wpAnyH_take (i := 8) (v := ?vcz8) rfl (by kernel_rfl) (by kernel_rfl) (by kernel_rfl) (fun _ _ _ h => h) (Or.inl ⟨by rfl, ?hycz8⟩) (by assumption) ?restcz8
            case hycz8 => (intro w_ hSw; (try dsimp only at hSw); obtain ⟨⟨⟨_, h1_, d0_, d1_, d2_⟩, d3_, d4_, d5_⟩, d6_⟩ := hSw; go_simp; (try with_reducible rfl))
            (try simp only [Act.put, List.setIfInBounds_toArray, List.set_cons_zero, List.set_cons_succ, List.getElem_toArray, List.getElem_cons_zero, List.getElem_cons_succ])
            refine wpAnyH_take (i := 9) (v := ?vcz9) rfl (by kernel_rfl) (by kernel_rfl) (by kernel_rfl) (fun _ _ _ h => h) (Or.inl ⟨by rfl, ?hycz9⟩) (by assumption) ?restcz9
            case hycz9 => (intro w_ hSw; (try dsimp only at hSw); obtain ⟨⟨⟨_, h1_, d0_, d1_, d2_⟩, d3_, d4_, d5_⟩, d6_⟩ := hSw; go_simp; (try with_reducible rfl))
            (try simp only [Act.put, List.setIfInBounds_toArray, List.set_cons_zero, List.set_cons_succ, List.getElem_toArray, List.getElem_cons_zero, List.getElem_cons_succ])
            refine wpAnyH_take (i := 10) (v := ?vcz10) rfl (by kernel_rfl) (by kernel_rfl) (by kernel_rfl) (fun _ _ _ h => h) (Or.inl ⟨by rfl, ?hycz10⟩) (by assumption) ?restcz10
            case hycz10 => (intro w_ hSw; (try dsimp only at hSw); obtain ⟨⟨⟨_, h1_, d0_, d1_, d2_⟩, d3_, d4_, d5_⟩, d6_⟩ := hSw; go_simp; (try with_reducible rfl))
            (try simp only [Act.put, List.setIfInBounds_toArray, List.set_cons_zero, List.set_cons_succ, List.getElem_toArray, List.getElem_cons_zero, List.getElem_cons_succ])
            refine wpAnyH_ready (rs := [11]) (by kernel_rfl) (by simp) ?_
            refine AllReadyH.cons rfl (fun K hK => ?_) AllReadyH.nil
            go_simp
            go_wp2_with (go_at_call 49; refine (ref_op_w _).mono ?_; rintro e w4 ⟨g2, rfl, hby, hcy⟩)
            refine hK.out _ _ ?hScz11 (fun hHeldcz11 => ?_)
            case hScz11 => exact ⟨⟨hHcza.1.1.same hby, (hby.cell (World.block_lt_of_cell? _ _ hHcza.1.2.1)).trans hHcza.1.2.1, (hby.cell (World.block_lt_of_cell? _ _ hHcza.1.2.2.1)).trans hHcza.1.2.2.1, (hby.cell (World.block_lt_of_cell? _ _ hHcza.1.2.2.2)).trans hHcza.1.2.2.2⟩, (hby.cell (World.block_lt_of_cell? _ _ hHcza.2)).trans hHcza.2⟩
            clear hK K
            (try simp only [Act.put, List.setIfInBounds_toArray, List.set_cons_zero, List.set_cons_succ, List.getElem_toArray, List.getElem_cons_zero, List.getElem_cons_succ])
            refine wpAnyH_weak (S2 := fun w' => ((RvI w (vk : Int) Ab (some ad) nb nw cb cw w' ∧ w'.cell? (ad.add (m * 3)) = some (.int .i64 (fk : Int)) ∧ w'.cell? ⟨(ad.add (m * 3)).block, (ad.add (m * 3)).off + 1, none⟩ = some (.int .i64 (ok : Int)) ∧ w'.cell? ⟨(ad.add (m * 3)).block, (ad.add (m * 3)).off + 2, none⟩ = some (.int .i64 v)) ∧ w'.cell? ⟨g1, fk, none⟩ = some (.string ⟨FN.toArray⟩)) ∧ w'.cell? ⟨g2, ok, none⟩ = some (.string ⟨ON.toArray⟩)) (fun w h => h.1) _ _ _ _ ?_
            have hHczb : (fun w' : World => ((RvI w (vk : Int) Ab (some ad) nb nw cb cw w' ∧ w'.cell? (ad.add (m * 3)) = some (.int .i64 (fk : Int)) ∧ w'.cell? ⟨(ad.add (m * 3)).block, (ad.add (m * 3)).off + 1, none⟩ = some (.int .i64 (ok : Int)) ∧ w'.cell? ⟨(ad.add (m * 3)).block, (ad.add (m * 3)).off + 2, none⟩ = some (.int .i64 v)) ∧ w'.cell? ⟨g1, fk, none⟩ = some (.string ⟨FN.toArray⟩)) ∧ w'.cell? ⟨g2, ok, none⟩ = some (.string ⟨ON.toArray⟩)) w4 := ⟨hHeldcz11, (by rw [← HON.out]; exact hcy ok hok2)⟩
            refine wpAnyH_take (i := 18) (v := ?vcz18) rfl (by kernel_rfl) (by kernel_rfl) (by kernel_rfl) (fun _ _ _ h => h) (Or.inl ⟨by rfl, ?hycz18⟩) (by assumption) ?restcz18
            case hycz18 => (intro w_ hSw; (try dsimp only at hSw); obtain ⟨⟨⟨⟨_, h1_, d0_, d1_, d2_⟩, d3_, d4_, d5_⟩, d6_⟩, d7_⟩ := hSw; go_simp; (try with_reducible rfl))
            (try simp only [Act.put, List.setIfInBounds_toArray, List.set_cons_zero, List.set_cons_succ, List.getElem_toArray, List.getElem_cons_zero, List.getElem_cons_succ])
            refine wpAnyH_take (i := 19) (v := ?vcz19) rfl (by kernel_rfl) (by kernel_rfl) (by kernel_rfl) (fun _ _ _ h => h) (Or.inl ⟨by rfl, ?hycz19⟩) (by assumption) ?restcz19
            case hycz19 => (intro w_ hSw; (try dsimp only at hSw); obtain ⟨⟨⟨⟨_, h1_, d0_, d1_, d2_⟩, d3_, d4_, d5_⟩, d6_⟩, d7_⟩ := hSw; go_simp; (try with_reducible rfl))
            (try simp only [Act.put, List.setIfInBounds_toArray, List.set_cons_zero, List.set_cons_succ, List.getElem_toArray, List.getElem_cons_zero, List.getElem_cons_succ])
            refine wpAnyH_take (i := 20) (v := ?vcz20) rfl (by kernel_rfl) (by kernel_rfl) (by kernel_rfl) (fun _ _ _ h => h) (Or.inl ⟨by rfl, ?hycz20⟩) (by assumption) ?restcz20
            case hycz20 => (intro w_ hSw; (try dsimp only at hSw); obtain ⟨⟨⟨⟨_, h1_, d0_, d1_, d2_⟩, d3_, d4_, d5_⟩, d6_⟩, d7_⟩ := hSw; go_simp; (try with_reducible rfl))
            (try simp only [Act.put, List.setIfInBounds_toArray, List.set_cons_zero, List.set_cons_succ, List.getElem_toArray, List.getElem_cons_zero, List.getElem_cons_succ])
            refine wpAnyH_take (i := 21) (v := ?vcz21) rfl (by kernel_rfl) (by kernel_rfl) (by kernel_rfl) (fun _ _ _ h => h) (Or.inl ⟨by rfl, ?hycz21⟩) (by assumption) ?restcz21
            case hycz21 => (intro w_ hSw; (try dsimp only at hSw); obtain ⟨⟨⟨⟨_, h1_, d0_, d1_, d2_⟩, d3_, d4_, d5_⟩, d6_⟩, d7_⟩ := hSw; go_simp; (try with_reducible rfl))
            (try simp only [Act.put, List.setIfInBounds_toArray, List.set_cons_zero, List.set_cons_succ, List.getElem_toArray, List.getElem_cons_zero, List.getElem_cons_succ])
            refine wpAnyH_ready (rs := [27]) (by kernel_rfl) (by simp) ?_
            refine AllReadyH.cons rfl (fun K hK => ?_) AllReadyH.nil
            go_simp
            go_wp2_with (go_at_call 50; refine (HVA.out _).mono ?_; rintro e w5 ⟨rfl, hbz⟩)
            refine hK.out _ _ ?hScz27 (fun hHeldcz27 => ?_)
            case hScz27 => exact ⟨⟨⟨hHczb.1.1.1.same hbz, (hbz.cell (World.block_lt_of_cell? _ _ hHczb.1.1.2.1)).trans hHczb.1.1.2.1, (hbz.cell (World.block_lt_of_cell? _ _ hHczb.1.1.2.2.1)).trans hHczb.1.1.2.2.1, (hbz.cell (World.block_lt_of_cell? _ _ hHczb.1.1.2.2.2)).trans hHczb.1.1.2.2.2⟩, (hbz.cell (World.block_lt_of_cell? _ _ hHczb.1.2)).trans hHczb.1.2⟩, (hbz.cell (World.block_lt_of_cell? _ _ hHczb.2)).trans hHczb.2⟩
            clear hK K
            (try simp only [Act.put, List.setIfInBounds_toArray, List.set_cons_zero, List.set_cons_succ, List.getElem_toArray, List.getElem_cons_zero, List.getElem_cons_succ])
            refine wpAnyH_take (i := 28) (v := ?vcz28) rfl (by kernel_rfl) (by kernel_rfl) (by kernel_rfl) (fun _ _ _ h => h) (Or.inl ⟨by rfl, ?hycz28⟩) (by assumption) ?restcz28
            case hycz28 => (intro w_ hSw; (try dsimp only at hSw); obtain ⟨⟨⟨⟨_, h1_, d0_, d1_, d2_⟩, d3_, d4_, d5_⟩, d6_⟩, d7_⟩ := hSw; go_simp; (try with_reducible rfl))
            (try simp only [Act.put, List.setIfInBounds_toArray, List.set_cons_zero, List.set_cons_succ, List.getElem_toArray, List.getElem_cons_zero, List.getElem_cons_succ])
            refine wpAnyH_take (i := 29) (v := ?vcz29) rfl (by kernel_rfl) (by kernel_rfl) (by kernel_rfl) (fun _ _ _ h => h) (Or.inl ⟨by rfl, ?hycz29⟩) (by assumption) ?restcz29
            case hycz29 => (intro w_ hSw; (try dsimp only at hSw); obtain ⟨⟨⟨⟨_, h1_, d0_, d1_, d2_⟩, d3_, d4_, d5_⟩, d6_⟩, d7_⟩ := hSw; go_simp; (try with_reducible rfl))
            (try simp only [Act.put, List.setIfInBounds_toArray, List.set_cons_zero, List.set_cons_succ, List.getElem_toArray, List.getElem_cons_zero, List.getElem_cons_succ])
            refine wpAnyH_take (i := 30) (v := ?vcz30) rfl (by kernel_rfl) (by kernel_rfl) (by kernel_rfl) (fun _ _ _ h => h) (Or.inl ⟨by rfl, ?hycz30⟩) (by assumption) ?restcz30
            case hycz30 => (intro w_ hSw; (try dsimp only at hSw); obtain ⟨⟨⟨⟨_, h1_, d0_, d1_, d2_⟩, d3_, d4_, d5_⟩, d6_⟩, d7_⟩ := hSw; go_simp; (try with_reducible rfl))
            (try simp only [Act.put, List.setIfInBounds_toArray, List.set_cons_zero, List.set_cons_succ, List.getElem_toArray, List.getElem_cons_zero, List.getElem_cons_succ])
            refine wpAnyH_done (by kernel_rfl) ?_ _
            have HSN := Lib.hid hHeldcz27.1.1.1
            clear hHeldcz27 hHcza hHczb hHeldcz1 hHeldcz11 hHeld hbx hcx hby hcy hbz b0 b1 b2
            go_wp2_with fail
            go_roundw
            case rel => exact ⟨m + 1, by omega, by go_num, by rw [← HE5.out], HSN.out⟩
            case measure => simp [intOf]; omega
          · have e0 : ((m : Int) == 0) = false := by rw [beq_eq_false_iff_ne]; omega
            have E5 : (⟨SS.toArray⟩ ++ ⟨#[32, 97, 110, 100, 32]⟩ ++ (⟨FN.toArray⟩ ++ ⟨#[32]⟩ ++ ⟨ON.toArray⟩ ++ ⟨#[32]⟩ ++ ⟨VT.toArray⟩) : ByteArray) = ⟨(VBT ++ byTx byl ++ whTx (wh.take (m + 1))).toArray⟩ := by
              rw [HWT.out, if_neg hk0, ← HSS.out]; apply ByteArray.ext; simp
            have HE5 := Lib.hid E5
            clear E5
            go_upto_region 17 with fail
            refine wp_region_held_drew (S := fun w' => RvI w (vk : Int) Ab (some ad) nb nw cb cw w' ∧ w'.cell? (ad.add (m * 3)) = some (.int .i64 (fk : Int)) ∧ w'.cell? ⟨(ad.add (m * 3)).block, (ad.add (m * 3)).off + 1, none⟩ = some (.int .i64 (ok : Int)) ∧ w'.cell? ⟨(ad.add (m * 3)).block, (ad.add (m * 3)).off + 2, none⟩ = some (.int .i64 v)) (by kernel_rfl) ⟨HS.out.same (Below.refl _ _).drew, b0, b1, b2⟩ (fun hHeld => ?_)
            refine wpAnyH_take (i := 0) (v := ?vcy0) rfl (by kernel_rfl) (by kernel_rfl) (by kernel_rfl) (fun _ _ _ h => h) (Or.inl ⟨by rfl, ?hycy0⟩) (by assumption) ?restcy0
            case hycy0 => (intro w_ hSw; (try dsimp only at hSw); obtain ⟨⟨_, h1_, d0_, d1_, d2_⟩, d3_, d4_, d5_⟩ := hSw; go_simp; (try with_reducible rfl))
            (try simp only [Act.put, List.setIfInBounds_toArray, List.set_cons_zero, List.set_cons_succ, List.getElem_toArray, List.getElem_cons_zero, List.getElem_cons_succ])
            refine wpAnyH_take (i := 2) (v := ?vcy2) rfl (by kernel_rfl) (by kernel_rfl) (by kernel_rfl) (fun _ _ _ h => h) (Or.inl ⟨by rfl, ?hycy2⟩) (by assumption) ?restcy2
            case hycy2 => (intro w_ hSw; (try dsimp only at hSw); obtain ⟨⟨_, h1_, d0_, d1_, d2_⟩, d3_, d4_, d5_⟩ := hSw; go_simp; (try with_reducible rfl))
            (try simp only [Act.put, List.setIfInBounds_toArray, List.set_cons_zero, List.set_cons_succ, List.getElem_toArray, List.getElem_cons_zero, List.getElem_cons_succ])
            refine wpAnyH_take (i := 3) (v := ?vcy3) rfl (by kernel_rfl) (by kernel_rfl) (by kernel_rfl) (fun _ _ _ h => h) (Or.inl ⟨by rfl, ?hycy3⟩) (by assumption) ?restcy3
            case hycy3 => (intro w_ hSw; (try dsimp only at hSw); obtain ⟨⟨_, h1_, d0_, d1_, d2_⟩, d3_, d4_, d5_⟩ := hSw; go_simp; (try with_reducible rfl))
            (try simp only [Act.put, List.setIfInBounds_toArray, List.set_cons_zero, List.set_cons_succ, List.getElem_toArray, List.getElem_cons_zero, List.getElem_cons_succ])
            refine wpAnyH_take (i := 4) (v := ?vcy4) rfl (by kernel_rfl) (by kernel_rfl) (by kernel_rfl) (fun _ _ _ h => h) (Or.inl ⟨by rfl, ?hycy4⟩) (by assumption) ?restcy4
            case hycy4 => (intro w_ hSw; (try dsimp only at hSw); obtain ⟨⟨_, h1_, d0_, d1_, d2_⟩, d3_, d4_, d5_⟩ := hSw; go_simp; (try with_reducible rfl))
            (try simp only [Act.put, List.setIfInBounds_toArray, List.set_cons_zero, List.set_cons_succ, List.getElem_toArray, List.getElem_cons_zero, List.getElem_cons_succ])
            refine wpAnyH_take (i := 5) (v := ?vcy5) rfl (by kernel_rfl) (by kernel_rfl) (by kernel_rfl) (fun _ _ _ h => h) (Or.inl ⟨by rfl, ?hycy5⟩) (by assumption) ?restcy5
            case hycy5 => (intro w_ hSw; (try dsimp only at hSw); obtain ⟨⟨_, h1_, d0_, d1_, d2_⟩, d3_, d4_, d5_⟩ := hSw; go_simp; (try with_reducible rfl))
            (try simp only [Act.put, List.setIfInBounds_toArray, List.set_cons_zero, List.set_cons_succ, List.getElem_toArray, List.getElem_cons_zero, List.getElem_cons_succ])
            refine wpAnyH_take (i := 6) (v := ?vcy6) rfl (by kernel_rfl) (by kernel_rfl) (by kernel_rfl) (fun _ _ _ h => h) (Or.inl ⟨by rfl, ?hycy6⟩) (by assumption) ?restcy6
            case hycy6 => (intro w_ hSw; (try dsimp only at hSw); obtain ⟨⟨_, h1_, d0_, d1_, d2_⟩, d3_, d4_, d5_⟩ := hSw; go_simp; (try with_reducible rfl))
            (try simp only [Act.put, List.setIfInBounds_toArray, List.set_cons_zero, List.set_cons_succ, List.getElem_toArray, List.getElem_cons_zero, List.getElem_cons_succ])
            refine wpAnyH_take (i := 7) (v := ?vcy7) rfl (by kernel_rfl) (by kernel_rfl) (by kernel_rfl) (fun _ _ _ h => h) (Or.inl ⟨by rfl, ?hycy7⟩) (by assumption) ?restcy7
            case hycy7 => (intro w_ hSw; (try dsimp only at hSw); obtain ⟨⟨_, h1_, d0_, d1_, d2_⟩, d3_, d4_, d5_⟩ := hSw; go_simp; (try with_reducible rfl))
            (try simp only [Act.put, List.setIfInBounds_toArray, List.set_cons_zero, List.set_cons_succ, List.getElem_toArray, List.getElem_cons_zero, List.getElem_cons_succ])
            refine wpAnyH_take (i := 12) (v := ?vcy12) rfl (by kernel_rfl) (by kernel_rfl) (by kernel_rfl) (fun _ _ _ h => h) (Or.inl ⟨by rfl, ?hycy12⟩) (by assumption) ?restcy12
            case hycy12 => (intro w_ hSw; (try dsimp only at hSw); obtain ⟨⟨_, h1_, d0_, d1_, d2_⟩, d3_, d4_, d5_⟩ := hSw; go_simp; (try with_reducible rfl))
            (try simp only [Act.put, List.setIfInBounds_toArray, List.set_cons_zero, List.set_cons_succ, List.getElem_toArray, List.getElem_cons_zero, List.getElem_cons_succ])
            refine wpAnyH_take (i := 13) (v := ?vcy13) rfl (by kernel_rfl) (by kernel_rfl) (by kernel_rfl) (fun _ _ _ h => h) (Or.inl ⟨by rfl, ?hycy13⟩) (by assumption) ?restcy13
            case hycy13 => (intro w_ hSw; (try dsimp only at hSw); obtain ⟨⟨_, h1_, d0_, d1_, d2_⟩, d3_, d4_, d5_⟩ := hSw; go_simp; (try with_reducible rfl))
            (try simp only [Act.put, List.setIfInBounds_toArray, List.set_cons_zero, List.set_cons_succ, List.getElem_toArray, List.getElem_cons_zero, List.getElem_cons_succ])
            refine wpAnyH_take (i := 14) (v := ?vcy14) rfl (by kernel_rfl) (by kernel_rfl) (by kernel_rfl) (fun _ _ _ h => h) (Or.inl ⟨by rfl, ?hycy14⟩) (by assumption) ?restcy14
            case hycy14 => (intro w_ hSw; (try dsimp only at hSw); obtain ⟨⟨_, h1_, d0_, d1_, d2_⟩, d3_, d4_, d5_⟩ := hSw; go_simp; (try with_reducible rfl))
            (try simp only [Act.put, List.setIfInBounds_toArray, List.set_cons_zero, List.set_cons_succ, List.getElem_toArray, List.getElem_cons_zero, List.getElem_cons_succ])
            refine wpAnyH_take (i := 15) (v := ?vcy15) rfl (by kernel_rfl) (by kernel_rfl) (by kernel_rfl) (fun _ _ _ h => h) (Or.inl ⟨by rfl, ?hycy15⟩) (by assumption) ?restcy15
            case hycy15 => (intro w_ hSw; (try dsimp only at hSw); obtain ⟨⟨_, h1_, d0_, d1_, d2_⟩, d3_, d4_, d5_⟩ := hSw; go_simp; (try with_reducible rfl))
            (try simp only [Act.put, List.setIfInBounds_toArray, List.set_cons_zero, List.set_cons_succ, List.getElem_toArray, List.getElem_cons_zero, List.getElem_cons_succ])
            refine wpAnyH_take (i := 16) (v := ?vcy16) rfl (by kernel_rfl) (by kernel_rfl) (by kernel_rfl) (fun _ _ _ h => h) (Or.inl ⟨by rfl, ?hycy16⟩) (by assumption) ?restcy16
            case hycy16 => (intro w_ hSw; (try dsimp only at hSw); obtain ⟨⟨_, h1_, d0_, d1_, d2_⟩, d3_, d4_, d5_⟩ := hSw; go_simp; (try with_reducible rfl))
            (try simp only [Act.put, List.setIfInBounds_toArray, List.set_cons_zero, List.set_cons_succ, List.getElem_toArray, List.getElem_cons_zero, List.getElem_cons_succ])
            refine wpAnyH_take (i := 17) (v := ?vcy17) rfl (by kernel_rfl) (by kernel_rfl) (by kernel_rfl) (fun _ _ _ h => h) (Or.inl ⟨by rfl, ?hycy17⟩) (by assumption) ?restcy17
            case hycy17 => (intro w_ hSw; (try dsimp only at hSw); obtain ⟨⟨_, h1_, d0_, d1_, d2_⟩, d3_, d4_, d5_⟩ := hSw; go_simp; (try with_reducible rfl))
            (try simp only [Act.put, List.setIfInBounds_toArray, List.set_cons_zero, List.set_cons_succ, List.getElem_toArray, List.getElem_cons_zero, List.getElem_cons_succ])
            refine wpAnyH_take (i := 22) (v := ?vcy22) rfl (by kernel_rfl) (by kernel_rfl) (by kernel_rfl) (fun _ _ _ h => h) (Or.inl ⟨by rfl, ?hycy22⟩) (by assumption) ?restcy22
            case hycy22 => (intro w_ hSw; (try dsimp only at hSw); obtain ⟨⟨_, h1_, d0_, d1_, d2_⟩, d3_, d4_, d5_⟩ := hSw; go_simp; (try with_reducible rfl))
            (try simp only [Act.put, List.setIfInBounds_toArray, List.set_cons_zero, List.set_cons_succ, List.getElem_toArray, List.getElem_cons_zero, List.getElem_cons_succ])
            refine wpAnyH_take (i := 23) (v := ?vcy23) rfl (by kernel_rfl) (by kernel_rfl) (by kernel_rfl) (fun _ _ _ h => h) (Or.inl ⟨by rfl, ?hycy23⟩) (by assumption) ?restcy23
            case hycy23 => (intro w_ hSw; (try dsimp only at hSw); obtain ⟨⟨_, h1_, d0_, d1_, d2_⟩, d3_, d4_, d5_⟩ := hSw; go_simp; (try with_reducible rfl))
            (try simp only [Act.put, List.setIfInBounds_toArray, List.set_cons_zero, List.set_cons_succ, List.getElem_toArray, List.getElem_cons_zero, List.getElem_cons_succ])
            refine wpAnyH_take (i := 24) (v := ?vcy24) rfl (by kernel_rfl) (by kernel_rfl) (by kernel_rfl) (fun _ _ _ h => h) (Or.inl ⟨by rfl, ?hycy24⟩) (by assumption) ?restcy24
            case hycy24 => (intro w_ hSw; (try dsimp only at hSw); obtain ⟨⟨_, h1_, d0_, d1_, d2_⟩, d3_, d4_, d5_⟩ := hSw; go_simp; (try with_reducible rfl))
            (try simp only [Act.put, List.setIfInBounds_toArray, List.set_cons_zero, List.set_cons_succ, List.getElem_toArray, List.getElem_cons_zero, List.getElem_cons_succ])
            refine wpAnyH_take (i := 25) (v := ?vcy25) rfl (by kernel_rfl) (by kernel_rfl) (by kernel_rfl) (fun _ _ _ h => h) (Or.inl ⟨by rfl, ?hycy25⟩) (by assumption) ?restcy25
            case hycy25 => (intro w_ hSw; (try dsimp only at hSw); obtain ⟨⟨_, h1_, d0_, d1_, d2_⟩, d3_, d4_, d5_⟩ := hSw; go_simp; (try with_reducible rfl))
            (try simp only [Act.put, List.setIfInBounds_toArray, List.set_cons_zero, List.set_cons_succ, List.getElem_toArray, List.getElem_cons_zero, List.getElem_cons_succ])
            refine wpAnyH_take (i := 26) (v := ?vcy26) rfl (by kernel_rfl) (by kernel_rfl) (by kernel_rfl) (fun _ _ _ h => h) (Or.inl ⟨by rfl, ?hycy26⟩) (by assumption) ?restcy26
            case hycy26 => (intro w_ hSw; (try dsimp only at hSw); obtain ⟨⟨_, h1_, d0_, d1_, d2_⟩, d3_, d4_, d5_⟩ := hSw; go_simp; (try with_reducible rfl))
            (try simp only [Act.put, List.setIfInBounds_toArray, List.set_cons_zero, List.set_cons_succ, List.getElem_toArray, List.getElem_cons_zero, List.getElem_cons_succ])
            refine wpAnyH_ready (rs := [1]) (by kernel_rfl) (by simp) ?_
            refine AllReadyH.cons rfl (fun K hK => ?_) AllReadyH.nil
            go_simp
            go_wp2_with (go_at_call 48; refine (ref_fd_w _).mono ?_; rintro e w3 ⟨g1, rfl, hbx, hcx⟩)
            refine hK.out _ _ ?hScy1 (fun hHeldcy1 => ?_)
            case hScy1 => exact ⟨hHeld.1.same hbx, (hbx.cell (World.block_lt_of_cell? _ _ hHeld.2.1)).trans hHeld.2.1, (hbx.cell (World.block_lt_of_cell? _ _ hHeld.2.2.1)).trans hHeld.2.2.1, (hbx.cell (World.block_lt_of_cell? _ _ hHeld.2.2.2)).trans hHeld.2.2.2⟩
            clear hK K
            (try simp only [Act.put, List.setIfInBounds_toArray, List.set_cons_zero, List.set_cons_succ, List.getElem_toArray, List.getElem_cons_zero, List.getElem_cons_succ])
            refine wpAnyH_weak (S2 := fun w' => (RvI w (vk : Int) Ab (some ad) nb nw cb cw w' ∧ w'.cell? (ad.add (m * 3)) = some (.int .i64 (fk : Int)) ∧ w'.cell? ⟨(ad.add (m * 3)).block, (ad.add (m * 3)).off + 1, none⟩ = some (.int .i64 (ok : Int)) ∧ w'.cell? ⟨(ad.add (m * 3)).block, (ad.add (m * 3)).off + 2, none⟩ = some (.int .i64 v)) ∧ w'.cell? ⟨g1, fk, none⟩ = some (.string ⟨FN.toArray⟩)) (fun w h => h.1) _ _ _ _ ?_
            have hHcya : (fun w' : World => (RvI w (vk : Int) Ab (some ad) nb nw cb cw w' ∧ w'.cell? (ad.add (m * 3)) = some (.int .i64 (fk : Int)) ∧ w'.cell? ⟨(ad.add (m * 3)).block, (ad.add (m * 3)).off + 1, none⟩ = some (.int .i64 (ok : Int)) ∧ w'.cell? ⟨(ad.add (m * 3)).block, (ad.add (m * 3)).off + 2, none⟩ = some (.int .i64 v)) ∧ w'.cell? ⟨g1, fk, none⟩ = some (.string ⟨FN.toArray⟩)) w3 := ⟨hHeldcy1, (by rw [← HFN.out]; exact hcx fk hfk)⟩
            refine wpAnyH_take (i := 8) (v := ?vcy8) rfl (by kernel_rfl) (by kernel_rfl) (by kernel_rfl) (fun _ _ _ h => h) (Or.inl ⟨by rfl, ?hycy8⟩) (by assumption) ?restcy8
            case hycy8 => (intro w_ hSw; (try dsimp only at hSw); obtain ⟨⟨⟨_, h1_, d0_, d1_, d2_⟩, d3_, d4_, d5_⟩, d6_⟩ := hSw; go_simp; (try with_reducible rfl))
            (try simp only [Act.put, List.setIfInBounds_toArray, List.set_cons_zero, List.set_cons_succ, List.getElem_toArray, List.getElem_cons_zero, List.getElem_cons_succ])
            refine wpAnyH_take (i := 9) (v := ?vcy9) rfl (by kernel_rfl) (by kernel_rfl) (by kernel_rfl) (fun _ _ _ h => h) (Or.inl ⟨by rfl, ?hycy9⟩) (by assumption) ?restcy9
            case hycy9 => (intro w_ hSw; (try dsimp only at hSw); obtain ⟨⟨⟨_, h1_, d0_, d1_, d2_⟩, d3_, d4_, d5_⟩, d6_⟩ := hSw; go_simp; (try with_reducible rfl))
            (try simp only [Act.put, List.setIfInBounds_toArray, List.set_cons_zero, List.set_cons_succ, List.getElem_toArray, List.getElem_cons_zero, List.getElem_cons_succ])
            refine wpAnyH_take (i := 10) (v := ?vcy10) rfl (by kernel_rfl) (by kernel_rfl) (by kernel_rfl) (fun _ _ _ h => h) (Or.inl ⟨by rfl, ?hycy10⟩) (by assumption) ?restcy10
            case hycy10 => (intro w_ hSw; (try dsimp only at hSw); obtain ⟨⟨⟨_, h1_, d0_, d1_, d2_⟩, d3_, d4_, d5_⟩, d6_⟩ := hSw; go_simp; (try with_reducible rfl))
            (try simp only [Act.put, List.setIfInBounds_toArray, List.set_cons_zero, List.set_cons_succ, List.getElem_toArray, List.getElem_cons_zero, List.getElem_cons_succ])
            refine wpAnyH_ready (rs := [11]) (by kernel_rfl) (by simp) ?_
            refine AllReadyH.cons rfl (fun K hK => ?_) AllReadyH.nil
            go_simp
            go_wp2_with (go_at_call 49; refine (ref_op_w _).mono ?_; rintro e w4 ⟨g2, rfl, hby, hcy⟩)
            refine hK.out _ _ ?hScy11 (fun hHeldcy11 => ?_)
            case hScy11 => exact ⟨⟨hHcya.1.1.same hby, (hby.cell (World.block_lt_of_cell? _ _ hHcya.1.2.1)).trans hHcya.1.2.1, (hby.cell (World.block_lt_of_cell? _ _ hHcya.1.2.2.1)).trans hHcya.1.2.2.1, (hby.cell (World.block_lt_of_cell? _ _ hHcya.1.2.2.2)).trans hHcya.1.2.2.2⟩, (hby.cell (World.block_lt_of_cell? _ _ hHcya.2)).trans hHcya.2⟩
            clear hK K
            (try simp only [Act.put, List.setIfInBounds_toArray, List.set_cons_zero, List.set_cons_succ, List.getElem_toArray, List.getElem_cons_zero, List.getElem_cons_succ])
            refine wpAnyH_weak (S2 := fun w' => ((RvI w (vk : Int) Ab (some ad) nb nw cb cw w' ∧ w'.cell? (ad.add (m * 3)) = some (.int .i64 (fk : Int)) ∧ w'.cell? ⟨(ad.add (m * 3)).block, (ad.add (m * 3)).off + 1, none⟩ = some (.int .i64 (ok : Int)) ∧ w'.cell? ⟨(ad.add (m * 3)).block, (ad.add (m * 3)).off + 2, none⟩ = some (.int .i64 v)) ∧ w'.cell? ⟨g1, fk, none⟩ = some (.string ⟨FN.toArray⟩)) ∧ w'.cell? ⟨g2, ok, none⟩ = some (.string ⟨ON.toArray⟩)) (fun w h => h.1) _ _ _ _ ?_
            have hHcyb : (fun w' : World => ((RvI w (vk : Int) Ab (some ad) nb nw cb cw w' ∧ w'.cell? (ad.add (m * 3)) = some (.int .i64 (fk : Int)) ∧ w'.cell? ⟨(ad.add (m * 3)).block, (ad.add (m * 3)).off + 1, none⟩ = some (.int .i64 (ok : Int)) ∧ w'.cell? ⟨(ad.add (m * 3)).block, (ad.add (m * 3)).off + 2, none⟩ = some (.int .i64 v)) ∧ w'.cell? ⟨g1, fk, none⟩ = some (.string ⟨FN.toArray⟩)) ∧ w'.cell? ⟨g2, ok, none⟩ = some (.string ⟨ON.toArray⟩)) w4 := ⟨hHeldcy11, (by rw [← HON.out]; exact hcy ok hok2)⟩
            refine wpAnyH_take (i := 18) (v := ?vcy18) rfl (by kernel_rfl) (by kernel_rfl) (by kernel_rfl) (fun _ _ _ h => h) (Or.inl ⟨by rfl, ?hycy18⟩) (by assumption) ?restcy18
            case hycy18 => (intro w_ hSw; (try dsimp only at hSw); obtain ⟨⟨⟨⟨_, h1_, d0_, d1_, d2_⟩, d3_, d4_, d5_⟩, d6_⟩, d7_⟩ := hSw; go_simp; (try with_reducible rfl))
            (try simp only [Act.put, List.setIfInBounds_toArray, List.set_cons_zero, List.set_cons_succ, List.getElem_toArray, List.getElem_cons_zero, List.getElem_cons_succ])
            refine wpAnyH_take (i := 19) (v := ?vcy19) rfl (by kernel_rfl) (by kernel_rfl) (by kernel_rfl) (fun _ _ _ h => h) (Or.inl ⟨by rfl, ?hycy19⟩) (by assumption) ?restcy19
            case hycy19 => (intro w_ hSw; (try dsimp only at hSw); obtain ⟨⟨⟨⟨_, h1_, d0_, d1_, d2_⟩, d3_, d4_, d5_⟩, d6_⟩, d7_⟩ := hSw; go_simp; (try with_reducible rfl))
            (try simp only [Act.put, List.setIfInBounds_toArray, List.set_cons_zero, List.set_cons_succ, List.getElem_toArray, List.getElem_cons_zero, List.getElem_cons_succ])
            refine wpAnyH_take (i := 20) (v := ?vcy20) rfl (by kernel_rfl) (by kernel_rfl) (by kernel_rfl) (fun _ _ _ h => h) (Or.inl ⟨by rfl, ?hycy20⟩) (by assumption) ?restcy20
            case hycy20 => (intro w_ hSw; (try dsimp only at hSw); obtain ⟨⟨⟨⟨_, h1_, d0_, d1_, d2_⟩, d3_, d4_, d5_⟩, d6_⟩, d7_⟩ := hSw; go_simp; (try with_reducible rfl))
            (try simp only [Act.put, List.setIfInBounds_toArray, List.set_cons_zero, List.set_cons_succ, List.getElem_toArray, List.getElem_cons_zero, List.getElem_cons_succ])
            refine wpAnyH_take (i := 21) (v := ?vcy21) rfl (by kernel_rfl) (by kernel_rfl) (by kernel_rfl) (fun _ _ _ h => h) (Or.inl ⟨by rfl, ?hycy21⟩) (by assumption) ?restcy21
            case hycy21 => (intro w_ hSw; (try dsimp only at hSw); obtain ⟨⟨⟨⟨_, h1_, d0_, d1_, d2_⟩, d3_, d4_, d5_⟩, d6_⟩, d7_⟩ := hSw; go_simp; (try with_reducible rfl))
            (try simp only [Act.put, List.setIfInBounds_toArray, List.set_cons_zero, List.set_cons_succ, List.getElem_toArray, List.getElem_cons_zero, List.getElem_cons_succ])
            refine wpAnyH_ready (rs := [27]) (by kernel_rfl) (by simp) ?_
            refine AllReadyH.cons rfl (fun K hK => ?_) AllReadyH.nil
            go_simp
            go_wp2_with (go_at_call 50; refine (HVA.out _).mono ?_; rintro e w5 ⟨rfl, hbz⟩)
            refine hK.out _ _ ?hScy27 (fun hHeldcy27 => ?_)
            case hScy27 => exact ⟨⟨⟨hHcyb.1.1.1.same hbz, (hbz.cell (World.block_lt_of_cell? _ _ hHcyb.1.1.2.1)).trans hHcyb.1.1.2.1, (hbz.cell (World.block_lt_of_cell? _ _ hHcyb.1.1.2.2.1)).trans hHcyb.1.1.2.2.1, (hbz.cell (World.block_lt_of_cell? _ _ hHcyb.1.1.2.2.2)).trans hHcyb.1.1.2.2.2⟩, (hbz.cell (World.block_lt_of_cell? _ _ hHcyb.1.2)).trans hHcyb.1.2⟩, (hbz.cell (World.block_lt_of_cell? _ _ hHcyb.2)).trans hHcyb.2⟩
            clear hK K
            (try simp only [Act.put, List.setIfInBounds_toArray, List.set_cons_zero, List.set_cons_succ, List.getElem_toArray, List.getElem_cons_zero, List.getElem_cons_succ])
            refine wpAnyH_take (i := 28) (v := ?vcy28) rfl (by kernel_rfl) (by kernel_rfl) (by kernel_rfl) (fun _ _ _ h => h) (Or.inl ⟨by rfl, ?hycy28⟩) (by assumption) ?restcy28
            case hycy28 => (intro w_ hSw; (try dsimp only at hSw); obtain ⟨⟨⟨⟨_, h1_, d0_, d1_, d2_⟩, d3_, d4_, d5_⟩, d6_⟩, d7_⟩ := hSw; go_simp; (try with_reducible rfl))
            (try simp only [Act.put, List.setIfInBounds_toArray, List.set_cons_zero, List.set_cons_succ, List.getElem_toArray, List.getElem_cons_zero, List.getElem_cons_succ])
            refine wpAnyH_take (i := 29) (v := ?vcy29) rfl (by kernel_rfl) (by kernel_rfl) (by kernel_rfl) (fun _ _ _ h => h) (Or.inl ⟨by rfl, ?hycy29⟩) (by assumption) ?restcy29
            case hycy29 => (intro w_ hSw; (try dsimp only at hSw); obtain ⟨⟨⟨⟨_, h1_, d0_, d1_, d2_⟩, d3_, d4_, d5_⟩, d6_⟩, d7_⟩ := hSw; go_simp; (try with_reducible rfl))
            (try simp only [Act.put, List.setIfInBounds_toArray, List.set_cons_zero, List.set_cons_succ, List.getElem_toArray, List.getElem_cons_zero, List.getElem_cons_succ])
            refine wpAnyH_take (i := 30) (v := ?vcy30) rfl (by kernel_rfl) (by kernel_rfl) (by kernel_rfl) (fun _ _ _ h => h) (Or.inl ⟨by rfl, ?hycy30⟩) (by assumption) ?restcy30
            case hycy30 => (intro w_ hSw; (try dsimp only at hSw); obtain ⟨⟨⟨⟨_, h1_, d0_, d1_, d2_⟩, d3_, d4_, d5_⟩, d6_⟩, d7_⟩ := hSw; go_simp; (try with_reducible rfl))
            (try simp only [Act.put, List.setIfInBounds_toArray, List.set_cons_zero, List.set_cons_succ, List.getElem_toArray, List.getElem_cons_zero, List.getElem_cons_succ])
            refine wpAnyH_done (by kernel_rfl) ?_ _
            have HSN := Lib.hid hHeldcy27.1.1.1
            clear hHeldcy27 hHcya hHcyb hHeldcy1 hHeldcy11 hHeld hbx hcx hby hcy hbz b0 b1 b2
            go_wp2_with fail
            go_roundw
            case rel => exact ⟨m + 1, by omega, by go_num, by rw [← HE5.out], HSN.out⟩
            case measure => simp [intOf]; omega
        · have k5 : decide ((m : Int) < (nw : Int)) = false := by rw [decide_eq_false_iff_not]; omega
          have HWE : Hid (VBT ++ byTx byl ++ whTx (wh.take m) = PT) := by
            show _ = _
            rw [HPT.out, List.take_of_length_le (by have := HNW.out; omega)]
          rw [HWE.out]
          go_wp2_with fail
          refine bodyPost_ret (v := .tuple #[.string ⟨PT.toArray⟩, .int .i64 0]) ?_ rfl ⟨rfl, HS.out.below⟩
          simp [results, Tryz.results19, go_sem]
end Go.Proofs.YtfnlddloalineaaGreatDoor
namespace Go.Proofs.YtfnlddloalineaaGreatDoor
open Go.RowKit
set_option linter.unusedVariables false
set_option linter.unusedSimpArgs false
set_option maxRecDepth 100000
theorem bfalse {b : Bool} {P : Prop} (h : b = true ↔ P) (hn : ¬ P) : b = false := by
  cases b with
  | false => rfl
  | true => exact absurd (h.1 rfl) hn
theorem RdBy.more {w : World} {B B' : Nat} {A : Option Addr} {l : List Int} (h : RdBy w B A l) (hB : B ≤ B') : RdBy w B' A l := fun hn => by
  obtain ⟨g, o, e, hg, hc⟩ := h hn
  exact ⟨g, o, e, by omega, hc⟩
set_option maxHeartbeats 4000000 in
/-- Few at the empty result -/
theorem few0_any (verb : Int) (Ab Aw : Option Addr) (nb nw cb cw : Nat) (w : World) :
    Calls Tryz.prog 16 #[.agg #[.int .i64 0, .slice none 0 0, .slice none 0 0, .slice none 0 0], .agg #[.int .i64 verb, .slice Ab nb cb, .slice Aw nw cw]] w fun e w' => e = .returned (.bool (decide (nb ≤ 10) && decide (nw ≤ 30))) ∧ Below w.heap.size w w' := by
  have h1 := (Below.refl w.heap.size w).alloc (Nat.le_refl _) (.cells (#[.int .i64 0, .slice none 0 0, .slice none 0 0, .slice none 0 0] : Array Value) 43)
  have h2 := h1.alloc h1.size (.cells (#[.int .i64 verb, .slice Ab nb cb, .slice Aw nw cw] : Array Value) 32)
  have HB := Lib.hid h2
  have m1 : Hid (nb ≤ 10 → decide ((nb : Int) ≤ 10) = true) := fun h => by rw [decide_eq_true_eq]; omega
  have m2 : Hid (¬ nb ≤ 10 → decide ((nb : Int) ≤ 10) = false) := fun h => by rw [decide_eq_false_iff_not]; omega
  have m3 : Hid (nw ≤ 30 → decide ((nw : Int) ≤ 30) = true) := fun h => by rw [decide_eq_true_eq]; omega
  have m4 : Hid (¬ nw ≤ 30 → decide ((nw : Int) ≤ 30) = false) := fun h => by rw [decide_eq_false_iff_not]; omega
  clear h1 h2
  by_cases e1 : nb ≤ 10
  · have q1 := m1.out e1
    rw [decide_eq_true e1]
    by_cases e2 : nw ≤ 30
    · have q2 := m3.out e2
      rw [decide_eq_true e2]
      go_enter Tryz.func16, Tryz.ntmps16
      go_wp2_with fail
      go_loop [5] (fun i => i = .int .i64 0) (fun _ => 0)
      case atStart => rfl
      case round =>
        obtain rfl := hrel
        go_wp2_with fail
        go_loop [6] (fun i => i = .int .i64 0) (fun _ => 0)
        case atStart => rfl
        case round =>
          obtain rfl := hrel
          go_wp2_with fail
          go_ret
          exact ⟨rfl, HB.out⟩
    · have q2 := m4.out e2
      rw [decide_eq_false e2]
      go_enter Tryz.func16, Tryz.ntmps16
      go_wp2_with fail
      go_loop [5] (fun i => i = .int .i64 0) (fun _ => 0)
      case atStart => rfl
      case round =>
        obtain rfl := hrel
        go_wp2_with fail
        go_loop [6] (fun i => i = .int .i64 0) (fun _ => 0)
        case atStart => rfl
        case round =>
          obtain rfl := hrel
          go_wp2_with fail
          go_ret
          exact ⟨rfl, HB.out⟩
  · have q1 := m2.out e1
    rw [decide_eq_false e1]
    go_enter Tryz.func16, Tryz.ntmps16
    go_wp2_with fail
    go_loop [5] (fun i => i = .int .i64 0) (fun _ => 0)
    case atStart => rfl
    case round =>
      obtain rfl := hrel
      go_wp2_with fail
      go_loop [6] (fun i => i = .int .i64 0) (fun _ => 0)
      case atStart => rfl
      case round =>
        obtain rfl := hrel
        go_wp2_with fail
        go_ret
        exact ⟨rfl, HB.out⟩
set_option maxHeartbeats 16000000 in
theorem lawPrint (q : SQry) (Ab Aw : Option Addr) (nb cb nw cw : Nat) (w : World) (hE : Env w) (hEE : EnvE w) (hb : RdBy w w.heap.size Ab q.by_) (hnb : q.by_.length = nb) (hcb : nb ≤ cb) (hw : Reads w w.heap.size 3 Aw nw (cndC q.wh)) (hn1 : nb ≤ 9223372036854775807) (hn2 : nw ≤ 9223372036854775807) (hn3 : nw ≤ cw) :
    Calls Tryz.prog 4 #[.agg #[.int .i64 q.verb, .slice Ab nb cb, .slice Aw nw cw]] w fun e w' => e = .returned (.bool true) ∧ Below w.heap.size w w' := by
  have HEB : Hid (∀ w_, Below w.heap.size w w_ → Env w_) := fun w_ h => hE.after h
  have HEEB : Hid (∀ w_, Below w.heap.size w w_ → EnvE w_) := fun w_ h => hEE.below h hE.size
  have hnw : q.wh.length = nw := by have := hw.1; rw [cndC_len] at this; omega
  have HNW := Lib.hid hnw
  have HNB := Lib.hid hnb
  have HBY : Hid (∀ x, Below w.heap.size w x → RdBy x w.heap.size Ab q.by_) := fun x h => hb.low (Nat.le_refl _) (Nat.le_refl _) h
  have HWH : Hid (∀ x, Below w.heap.size w x → Reads x w.heap.size 3 Aw nw (cndC q.wh)) := fun x h => hw.lowQ (Nat.le_refl _) (Nat.le_refl _) h
  have hb0 := (Below.refl w.heap.size w).alloc (Nat.le_refl _) (.cells (#[.int .i64 q.verb, .slice Ab nb cb, .slice Aw nw cw] : Array Value) 32)
  have hk0 := Blk.new w 32 #[.int .i64 q.verb, .slice Ab nb cb, .slice Aw nw cw]
  obtain ⟨wz, hwz⟩ : ∃ wz, w.alloc (.cells (#[.int .i64 q.verb, .slice Ab nb cb, .slice Aw nw cw] : Array Value) 32) = wz := ⟨_, rfl⟩
  rw [hwz] at hb0 hk0
  have HS0 : Hid (RvI w q.verb Ab Aw nb nw cb cw wz) := ⟨hb0, hk0.lt, hk0.cell 0, hk0.cell 1, hk0.cell 2⟩
  obtain ⟨c0, c1, c2⟩ := rd_cells hk0
  have hlt0 : w.heap.size < wz.heap.size := hk0.lt
  have HFW := Lib.hid (fun w => few0_any q.verb Ab Aw nb nw cb cw w)
  clear hb0 hk0 hb hw hE hEE hnb hnw
  obtain ⟨okb, hokb⟩ : ∃ b : Bool, (b = true ↔ OkQ q) := by
    by_cases h : OkQ q
    · exact ⟨true, b_yes h⟩
    · exact ⟨false, b_no h⟩
  by_cases hfew : nb ≤ 10 ∧ nw ≤ 30
  · have hfb : (decide (nb ≤ 10) && decide (nw ≤ 30)) = true := by rw [decide_eq_true hfew.1, decide_eq_true hfew.2]; rfl
    rw [hfb] at HFW
    have HF1 := Lib.hid hfew
    have HTO : Hid (∀ x, Below w.heap.size w x → Calls Tryz.prog 18 #[.agg #[.int .i64 q.verb, .slice Ab nb cb, .slice Aw nw cw]] x fun e w' => ∃ A' c', e = .returned (.agg #[.int .i64 q.verb, .slice Ab nb cb, .slice A' nw c']) ∧ w'.ownsRow x.heap.size 95 3 (.slice A' nw c') nw (cndC q.wh) ∧ Below x.heap.size x w') := fun x h =>
      to_any q.verb q.wh Ab Aw nb nw cb cw w.heap.size x (HWH.out x h) h.size (by have := HF1.out; omega)
    have HVA : Hid (∀ A2 c2 x b, Below w.heap.size w x → x.ownsRow b 95 3 (.slice A2 nw c2) nw (cndC q.wh) → Calls Tryz.prog 20 #[.agg #[.int .i64 q.verb, .slice Ab nb cb, .slice A2 nw c2]] x fun e w' => e = .returned (.bool okb) ∧ Below x.heap.size x w') := fun A2 c2 x b h ho => by
      by_cases hok : OkQ q
      · rw [hokb.2 hok]
        exact valid_yes q Ab A2 nb nw cb c2 x.heap.size x hok ((HBY.out x h).more h.size) HNB.out.symm hcb (Reads.of_own ho) (Nat.le_refl _) (by have := HF1.out; omega)
      · rw [bfalse hokb hok]
        exact valid_no q Ab A2 nb nw cb c2 x.heap.size x hok ((HBY.out x h).more h.size) HNB.out.symm hcb (Reads.of_own ho) (Nat.le_refl _) (by have := HF1.out; omega)
    have HRV : Hid (∀ x, Below w.heap.size w x → Calls Tryz.prog 21 #[.agg #[.int .i64 q.verb, .slice Ab nb cb, .slice Aw nw cw]] x fun e w' => e = .returned (.bool okb) ∧ Below x.heap.size x w') := fun x h => by
      refine (rvalid_any q Ab Aw nb nw cb cw w.heap.size x (HBY.out x h) HNB.out.symm hcb (HWH.out x h) h.size (by have := HF1.out; omega) (by have := HF1.out; omega)).mono ?_
      rintro e w' ⟨⟨b, rfl, hbq⟩, hb⟩
      refine ⟨?_, hb⟩
      by_cases hok : OkQ q
      · rw [hokb.2 hok, hbq.2 hok]
      · rw [bfalse hokb hok]
        cases b with
        | false => rfl
        | true => exact absurd (hbq.1 rfl) hok
    by_cases hok : OkQ q
    · have hpl := prT_short hok (by have := HNB.out; omega)
      obtain ⟨hj1, _⟩ := prT_by q
      have HPR : Hid (∀ A2 c2 x b, Below w.heap.size w x → x.ownsRow b 95 3 (.slice A2 nw c2) nw (cndC q.wh) → Calls Tryz.prog 17 #[.agg #[.int .i64 q.verb, .slice Ab nb cb, .slice A2 nw c2]] x fun e w' => e = .returned (.tuple #[.string ⟨(prT q).toArray⟩, .int .i64 0]) ∧ Below x.heap.size x w') := fun A2 c2 x b h ho =>
        print_yes q Ab A2 nb nw cb c2 x.heap.size x (HEB.out x h) hok ((HBY.out x h).more h.size) HNB.out.symm hcb (Reads.of_own ho) (Nat.le_refl _) (by have := HF1.out; omega) (by omega) (by omega)
      have HRP : Hid (∀ x, Below w.heap.size w x → Calls Tryz.prog 19 #[.agg #[.int .i64 q.verb, .slice Ab nb cb, .slice Aw nw cw]] x fun e w' => e = .returned (.tuple #[.string ⟨(prT q).toArray⟩, .int .i64 0]) ∧ Below x.heap.size x w') := fun x h =>
        rprint_yes q Ab Aw nb nw cb cw w.heap.size x hok (HBY.out x h) HNB.out.symm hcb (HWH.out x h) h.size (by have := HF1.out; omega) hpl
      have HPA : Hid (∀ x, Below w.heap.size w x → Calls Tryz.prog 12 #[.string ⟨(prT q).toArray⟩] x fun e w' => ∃ A3 c3 A4 c4, e = .returned (.tuple #[.agg #[.int .i64 q.verb, .slice A3 nb c3, .slice A4 nw c4], .int .i64 0, .int .i64 0]) ∧ w'.ownsRow x.heap.size 3 1 (.slice A3 nb c3) nb (q.by_.map intV) ∧ w'.ownsRow x.heap.size 95 3 (.slice A4 nw c4) nw (cndC q.wh) ∧ Below x.heap.size x w') := fun x h => by
        refine (parse_any (prT q) x (HEB.out x h) (HEEB.out x h) (by omega)).mono fun e w' hs => ?_
        unfold ParSays at hs
        rw [prT_read hok] at hs
        obtain ⟨vb, vw, he, h1, h2, h3⟩ := hs
        rw [HNB.out] at h1
        rw [HNW.out] at h2
        obtain ⟨A3, c3, rfl⟩ := own_slice h1
        obtain ⟨A4, c4, rfl⟩ := own_slice h2
        exact ⟨A3, c3, A4, c4, he, h1, h2, h3⟩
      have HFR : Hid (∀ A3 A4 c3 c4 x b, x.ownsRow b 95 3 (.slice A4 nw c4) nw (cndC q.wh) → Calls Tryz.prog 15 #[.agg #[.int .i64 q.verb, .slice A3 nb c3, .slice A4 nw c4]] x fun e w' => ∃ A' c', e = .returned (.agg #[.int .i64 q.verb, .slice A3 nb c3, .slice A' nw c']) ∧ w'.ownsRow x.heap.size 72 3 (.slice A' nw c') nw (cndC q.wh) ∧ Below x.heap.size x w') := fun A3 A4 c3 c4 x b ho =>
        from_any q.verb q.wh A3 A4 nb nw c3 c4 x.heap.size x (Reads.of_own ho) (Nat.le_refl _) (by have := HF1.out; omega)
      have HSM : Hid (∀ A3 A5 c3 c5 x b b', Below w.heap.size w x → x.ownsRow b 3 1 (.slice A3 nb c3) nb (q.by_.map intV) → x.ownsRow b' 72 3 (.slice A5 nw c5) nw (cndC q.wh) → Calls Tryz.prog 14 #[.agg #[.int .i64 q.verb, .slice A3 nb c3, .slice A5 nw c5], .agg #[.int .i64 q.verb, .slice Ab nb cb, .slice Aw nw cw]] x fun e w' => e = .returned (.bool true) ∧ Below x.heap.size x w') := fun A3 A5 c3 c5 x b b' h h1 h2 =>
        same_yes q.verb q.by_ q.wh A3 A5 Ab Aw nb nw c3 c5 cb cw x.heap.size x (Nat.le_refl _) (RdBy.of_own (by rw [HNB.out]; exact h1)) ((HBY.out x h).more h.size) (Reads.of_own h2) ((HWH.out x h).more h.size) HNB.out.symm (by have := HF1.out; omega) (by have := HF1.out; omega)
      rw [hokb.2 hok] at HVA HRV
      generalize prT q = PT at *
      generalize q.by_.map intV = LB at *
      generalize cndC q.wh = LW at *
      generalize q.verb = verb at *
      clear hok hpl hj1 HBY HWH HNB HNW hfew
      have q1 : (PT == PT) = true := by simp
      have q2 : (PT != PT) = false := by simp
      go_enter Tryz.func4, Tryz.ntmps4
      go_wp2_with fail
      refine (awake_true _ (HEB.out _ HS0.out.below) (HEEB.out _ HS0.out.below)).mono ?_
      rintro e w1 ⟨rfl, hb⟩
      have hs := HS0.out.same hb
      have HS := Lib.hid hs
      obtain ⟨_, l1, c0, c1, c2⟩ := hs
      clear hb hwz hlt0 HS0
      go_wp2_with fail
      refine (HFW.out _).mono ?_
      rintro e w2 ⟨rfl, hb⟩
      have hs := HS.out.same hb
      clear HS hb c0 c1 c2 l1
      have HS := Lib.hid hs
      obtain ⟨_, l1, c0, c1, c2⟩ := hs
      go_wp2_with fail
      refine (HTO.out _ HS.out.below).mono ?_
      rintro e w3 ⟨A1, c1', rfl, ho, hb⟩
      have hs := HS.out.same hb
      clear HS hb c0 c1 c2 l1
      have HS := Lib.hid hs
      have HO := Lib.hid ho
      obtain ⟨_, l1, c0, c1, c2⟩ := hs
      clear ho
      go_wp2_with fail
      refine (HPR.out _ _ _ _ HS.out.below HO.out).mono ?_
      rintro e w4 ⟨rfl, hb⟩
      have hs := HS.out.same hb
      clear HS hb c0 c1 c2 l1
      have HS := Lib.hid hs
      obtain ⟨_, l1, c0, c1, c2⟩ := hs
      go_wp2_with fail
      refine (HRP.out _ HS.out.below).mono ?_
      rintro e w5 ⟨rfl, hb⟩
      have hs := HS.out.same hb
      clear HS hb c0 c1 c2 l1 HO
      have HS := Lib.hid hs
      obtain ⟨_, l1, c0, c1, c2⟩ := hs
      go_upto_region 5 with fail
      refine wp_region_held_drew (S := fun w' => RvI w verb Ab Aw nb nw cb cw w') (by kernel_rfl) (HS.out.same (Below.refl _ _).drew) (fun hHeld => ?_)
      refine wpAnyH_take (i := 0) (v := ?vry0) rfl (by kernel_rfl) (by kernel_rfl) (by kernel_rfl) (fun _ _ _ h => h) (Or.inl ⟨by rfl, ?hyry0⟩) (by assumption) ?restry0
      case hyry0 => (intro w_ hSw; (try dsimp only at hSw); obtain ⟨_, h1_, d0_, d1_, d2_⟩ := hSw; go_simp; (try with_reducible rfl))
      (try simp only [Act.put, List.setIfInBounds_toArray, List.set_cons_zero, List.set_cons_succ, List.getElem_toArray, List.getElem_cons_zero, List.getElem_cons_succ])
      refine wpAnyH_take (i := 1) (v := ?vry1) rfl (by kernel_rfl) (by kernel_rfl) (by kernel_rfl) (fun _ _ _ h => h) (Or.inl ⟨by rfl, ?hyry1⟩) (by assumption) ?restry1
      case hyry1 => (intro w_ hSw; (try dsimp only at hSw); obtain ⟨_, h1_, d0_, d1_, d2_⟩ := hSw; go_simp; (try with_reducible rfl))
      (try simp only [Act.put, List.setIfInBounds_toArray, List.set_cons_zero, List.set_cons_succ, List.getElem_toArray, List.getElem_cons_zero, List.getElem_cons_succ])
      refine wpAnyH_take (i := 2) (v := ?vry2) rfl (by kernel_rfl) (by kernel_rfl) (by kernel_rfl) (fun _ _ _ h => h) (Or.inl ⟨by rfl, ?hyry2⟩) (by assumption) ?restry2
      case hyry2 => (intro w_ hSw; (try dsimp only at hSw); obtain ⟨_, h1_, d0_, d1_, d2_⟩ := hSw; go_simp; (try with_reducible rfl))
      (try simp only [Act.put, List.setIfInBounds_toArray, List.set_cons_zero, List.set_cons_succ, List.getElem_toArray, List.getElem_cons_zero, List.getElem_cons_succ])
      refine wpAnyH_take (i := 3) (v := ?vry3) rfl (by kernel_rfl) (by kernel_rfl) (by kernel_rfl) (fun _ _ _ h => h) (Or.inl ⟨by rfl, ?hyry3⟩) (by assumption) ?restry3
      case hyry3 => (intro w_ hSw; (try dsimp only at hSw); obtain ⟨_, h1_, d0_, d1_, d2_⟩ := hSw; go_simp; (try with_reducible rfl))
      (try simp only [Act.put, List.setIfInBounds_toArray, List.set_cons_zero, List.set_cons_succ, List.getElem_toArray, List.getElem_cons_zero, List.getElem_cons_succ])
      refine wpAnyH_take (i := 4) (v := ?vry4) rfl (by kernel_rfl) (by kernel_rfl) (by kernel_rfl) (fun _ _ _ h => h) (Or.inl ⟨by rfl, ?hyry4⟩) (by assumption) ?restry4
      case hyry4 => (intro w_ hSw; (try dsimp only at hSw); obtain ⟨_, h1_, d0_, d1_, d2_⟩ := hSw; go_simp; (try with_reducible rfl))
      (try simp only [Act.put, List.setIfInBounds_toArray, List.set_cons_zero, List.set_cons_succ, List.getElem_toArray, List.getElem_cons_zero, List.getElem_cons_succ])
      refine wpAnyH_take (i := 5) (v := ?vry5) rfl (by kernel_rfl) (by kernel_rfl) (by kernel_rfl) (fun _ _ _ h => h) (Or.inl ⟨by rfl, ?hyry5⟩) (by assumption) ?restry5
      case hyry5 => (intro w_ hSw; (try dsimp only at hSw); obtain ⟨_, h1_, d0_, d1_, d2_⟩ := hSw; go_simp; (try with_reducible rfl))
      (try simp only [Act.put, List.setIfInBounds_toArray, List.set_cons_zero, List.set_cons_succ, List.getElem_toArray, List.getElem_cons_zero, List.getElem_cons_succ])
      refine wpAnyH_take (i := 6) (v := ?vry6) rfl (by kernel_rfl) (by kernel_rfl) (by kernel_rfl) (fun _ _ _ h => h) (Or.inl ⟨by rfl, ?hyry6⟩) (by assumption) ?restry6
      case hyry6 => (intro w_ hSw; (try dsimp only at hSw); obtain ⟨_, h1_, d0_, d1_, d2_⟩ := hSw; go_simp; (try with_reducible rfl))
      (try simp only [Act.put, List.setIfInBounds_toArray, List.set_cons_zero, List.set_cons_succ, List.getElem_toArray, List.getElem_cons_zero, List.getElem_cons_succ])
      refine wpAnyH_take (i := 7) (v := ?vry7) rfl (by kernel_rfl) (by kernel_rfl) (by kernel_rfl) (fun _ _ _ h => h) (Or.inl ⟨by rfl, ?hyry7⟩) (by assumption) ?restry7
      case hyry7 => (intro w_ hSw; (try dsimp only at hSw); obtain ⟨_, h1_, d0_, d1_, d2_⟩ := hSw; go_simp; (try with_reducible rfl))
      (try simp only [Act.put, List.setIfInBounds_toArray, List.set_cons_zero, List.set_cons_succ, List.getElem_toArray, List.getElem_cons_zero, List.getElem_cons_succ])
      refine wpAnyH_take (i := 8) (v := ?vry8) rfl (by kernel_rfl) (by kernel_rfl) (by kernel_rfl) (fun _ _ _ h => h) (Or.inl ⟨by rfl, ?hyry8⟩) (by assumption) ?restry8
      case hyry8 => (intro w_ hSw; (try dsimp only at hSw); obtain ⟨_, h1_, d0_, d1_, d2_⟩ := hSw; go_simp; (try with_reducible rfl))
      (try simp only [Act.put, List.setIfInBounds_toArray, List.set_cons_zero, List.set_cons_succ, List.getElem_toArray, List.getElem_cons_zero, List.getElem_cons_succ])
      refine wpAnyH_take (i := 9) (v := ?vry9) rfl (by kernel_rfl) (by kernel_rfl) (by kernel_rfl) (fun _ _ _ h => h) (Or.inl ⟨by rfl, ?hyry9⟩) (by assumption) ?restry9
      case hyry9 => (intro w_ hSw; (try dsimp only at hSw); obtain ⟨_, h1_, d0_, d1_, d2_⟩ := hSw; go_simp; (try with_reducible rfl))
      (try simp only [Act.put, List.setIfInBounds_toArray, List.set_cons_zero, List.set_cons_succ, List.getElem_toArray, List.getElem_cons_zero, List.getElem_cons_succ])
      refine wpAnyH_take (i := 12) (v := ?vry12) rfl (by kernel_rfl) (by kernel_rfl) (by kernel_rfl) (fun _ _ _ h => h) (Or.inl ⟨by rfl, ?hyry12⟩) (by assumption) ?restry12
      case hyry12 => (intro w_ hSw; (try dsimp only at hSw); obtain ⟨_, h1_, d0_, d1_, d2_⟩ := hSw; go_simp; (try with_reducible rfl))
      (try simp only [Act.put, List.setIfInBounds_toArray, List.set_cons_zero, List.set_cons_succ, List.getElem_toArray, List.getElem_cons_zero, List.getElem_cons_succ])
      refine wpAnyH_ready (rs := [10]) (by kernel_rfl) (by simp) ?_
      refine AllReadyH.cons rfl (fun K hK => ?_) AllReadyH.nil
      go_simp
      go_wp2_with (go_at_call 18; refine (HTO.out _ hHeld.below).mono ?_; rintro e w3 ⟨Aq, cq, rfl, ho2, hbx⟩)
      refine hK.out _ _ ?hSry10 (fun hHeldry10 => ?_)
      case hSry10 => exact hHeld.same hbx
      clear hK K
      (try simp only [Act.put, List.setIfInBounds_toArray, List.set_cons_zero, List.set_cons_succ, List.getElem_toArray, List.getElem_cons_zero, List.getElem_cons_succ])
      refine wpAnyH_ready (rs := [11]) (by kernel_rfl) (by simp) ?_
      refine AllReadyH.cons rfl (fun K hK => ?_) AllReadyH.nil
      go_simp
      go_wp2_with (go_at_call 20; refine (HVA.out Aq cq _ _ hHeldry10.below ho2).mono ?_; rintro e w4 ⟨rfl, hby⟩)
      refine hK.out _ _ ?hSry11 (fun hHeldry11 => ?_)
      case hSry11 => exact hHeldry10.same hby
      clear hK K
      (try simp only [Act.put, List.setIfInBounds_toArray, List.set_cons_zero, List.set_cons_succ, List.getElem_toArray, List.getElem_cons_zero, List.getElem_cons_succ])
      refine wpAnyH_ready (rs := [13]) (by kernel_rfl) (by simp) ?_
      refine AllReadyH.cons rfl (fun K hK => ?_) AllReadyH.nil
      go_simp
      go_wp2_with (go_at_call 21; refine (HRV.out _ hHeldry11.below).mono ?_; rintro e w5 ⟨rfl, hbz⟩)
      refine hK.out _ _ ?hSry13 (fun hHeldry13 => ?_)
      case hSry13 => exact hHeldry11.same hbz
      clear hK K
      (try simp only [Act.put, List.setIfInBounds_toArray, List.set_cons_zero, List.set_cons_succ, List.getElem_toArray, List.getElem_cons_zero, List.getElem_cons_succ])
      refine wpAnyH_take (i := 14) (v := ?vry14) rfl (by kernel_rfl) (by kernel_rfl) (by kernel_rfl) (fun _ _ _ h => h) (Or.inl ⟨by rfl, ?hyry14⟩) (by assumption) ?restry14
      case hyry14 => (intro w_ hSw; (try dsimp only at hSw); obtain ⟨_, h1_, d0_, d1_, d2_⟩ := hSw; go_simp; (try with_reducible rfl))
      (try simp only [Act.put, List.setIfInBounds_toArray, List.set_cons_zero, List.set_cons_succ, List.getElem_toArray, List.getElem_cons_zero, List.getElem_cons_succ])
      refine wpAnyH_take (i := 15) (v := ?vry15) rfl (by kernel_rfl) (by kernel_rfl) (by kernel_rfl) (fun _ _ _ h => h) (Or.inl ⟨by rfl, ?hyry15⟩) (by assumption) ?restry15
      case hyry15 => (intro w_ hSw; (try dsimp only at hSw); obtain ⟨_, h1_, d0_, d1_, d2_⟩ := hSw; go_simp; (try with_reducible rfl))
      (try simp only [Act.put, List.setIfInBounds_toArray, List.set_cons_zero, List.set_cons_succ, List.getElem_toArray, List.getElem_cons_zero, List.getElem_cons_succ])
      refine wpAnyH_done (by kernel_rfl) ?_ _
      have HS2 := Lib.hid hHeldry13
      clear hHeldry13 hHeldry10 hHeldry11 hHeld hbx hby hbz ho2 HS c0 c1 c2 l1
      have HS := HS2
      clear HS2
      go_wp2_with fail
      refine (HPA.out _ HS.out.below).mono ?_
      rintro e w6 ⟨A3, c3, A4, c4, rfl, ho3, ho4, hb⟩
      have hs := HS.out.same hb
      have hs2 := hs.same ((Below.refl w6.heap.size w6).alloc (Nat.le_refl _) (.cells (#[.int .i64 verb, .slice A3 nb c3, .slice A4 nw c4] : Array Value) 26))
      have HBK := Blk.new w6 26 #[.int .i64 verb, .slice A3 nb c3, .slice A4 nw c4]
      have HOB := Lib.hid (ho3.alloc (.cells (#[.int .i64 verb, .slice A3 nb c3, .slice A4 nw c4] : Array Value) 26))
      have HOW := Lib.hid (ho4.alloc (.cells (#[.int .i64 verb, .slice A3 nb c3, .slice A4 nw c4] : Array Value) 26))
      obtain ⟨G, hG⟩ : ∃ G, w6.heap.size = G := ⟨_, rfl⟩
      clear HS hb ho3 ho4 hs
      have HS := Lib.hid hs2
      clear hs2
      go_wp2_with fail
      obtain ⟨wc, hwc⟩ : ∃ wc, w6.alloc (.cells (#[.int .i64 verb, .slice A3 nb c3, .slice A4 nw c4] : Array Value) 26) = wc := ⟨_, rfl⟩
      rw [hwc] at HBK HOB HOW HS ⊢
      rw [hG] at HBK
      obtain ⟨z0, z1, z2⟩ := rd_cells HBK
      obtain ⟨_, l1, c0, c1, c2⟩ := HS.out
      clear HBK hG hwc
      refine wp_region_held_drew (S := fun w' => RvI w verb Ab Aw nb nw cb cw w' ∧ w'.cell? ⟨G, 0, none⟩ = some (.int .i64 verb) ∧ w'.cell? ⟨G, 1, none⟩ = some (.slice A3 nb c3) ∧ w'.cell? ⟨G, 2, none⟩ = some (.slice A4 nw c4)) (by kernel_rfl) ⟨HS.out.same (Below.refl _ _).drew, z0, z1, z2⟩ (fun hHeld => ?_)
      refine wpAnyH_take (i := 0) (v := ?vs0) rfl (by kernel_rfl) (by kernel_rfl) (by kernel_rfl) (fun _ _ _ h => h) (Or.inl ⟨by rfl, ?hys0⟩) (by assumption) ?rests0
      case hys0 => (intro w_ hSw; (try dsimp only at hSw); obtain ⟨⟨_, h1_, d0_, d1_, d2_⟩, d3_, d4_, d5_⟩ := hSw; go_simp; (try with_reducible rfl))
      (try simp only [Act.put, List.setIfInBounds_toArray, List.set_cons_zero, List.set_cons_succ, List.getElem_toArray, List.getElem_cons_zero, List.getElem_cons_succ])
      refine wpAnyH_take (i := 1) (v := ?vs1) rfl (by kernel_rfl) (by kernel_rfl) (by kernel_rfl) (fun _ _ _ h => h) (Or.inl ⟨by rfl, ?hys1⟩) (by assumption) ?rests1
      case hys1 => (intro w_ hSw; (try dsimp only at hSw); obtain ⟨⟨_, h1_, d0_, d1_, d2_⟩, d3_, d4_, d5_⟩ := hSw; go_simp; (try with_reducible rfl))
      (try simp only [Act.put, List.setIfInBounds_toArray, List.set_cons_zero, List.set_cons_succ, List.getElem_toArray, List.getElem_cons_zero, List.getElem_cons_succ])
      refine wpAnyH_take (i := 2) (v := ?vs2) rfl (by kernel_rfl) (by kernel_rfl) (by kernel_rfl) (fun _ _ _ h => h) (Or.inl ⟨by rfl, ?hys2⟩) (by assumption) ?rests2
      case hys2 => (intro w_ hSw; (try dsimp only at hSw); obtain ⟨⟨_, h1_, d0_, d1_, d2_⟩, d3_, d4_, d5_⟩ := hSw; go_simp; (try with_reducible rfl))
      (try simp only [Act.put, List.setIfInBounds_toArray, List.set_cons_zero, List.set_cons_succ, List.getElem_toArray, List.getElem_cons_zero, List.getElem_cons_succ])
      refine wpAnyH_take (i := 3) (v := ?vs3) rfl (by kernel_rfl) (by kernel_rfl) (by kernel_rfl) (fun _ _ _ h => h) (Or.inl ⟨by rfl, ?hys3⟩) (by assumption) ?rests3
      case hys3 => (intro w_ hSw; (try dsimp only at hSw); obtain ⟨⟨_, h1_, d0_, d1_, d2_⟩, d3_, d4_, d5_⟩ := hSw; go_simp; (try with_reducible rfl))
      (try simp only [Act.put, List.setIfInBounds_toArray, List.set_cons_zero, List.set_cons_succ, List.getElem_toArray, List.getElem_cons_zero, List.getElem_cons_succ])
      refine wpAnyH_take (i := 5) (v := ?vs5) rfl (by kernel_rfl) (by kernel_rfl) (by kernel_rfl) (fun _ _ _ h => h) (Or.inl ⟨by rfl, ?hys5⟩) (by assumption) ?rests5
      case hys5 => (intro w_ hSw; (try dsimp only at hSw); obtain ⟨⟨_, h1_, d0_, d1_, d2_⟩, d3_, d4_, d5_⟩ := hSw; go_simp; (try with_reducible rfl))
      (try simp only [Act.put, List.setIfInBounds_toArray, List.set_cons_zero, List.set_cons_succ, List.getElem_toArray, List.getElem_cons_zero, List.getElem_cons_succ])
      refine wpAnyH_ready (rs := [4]) (by kernel_rfl) (by simp) ?_
      refine AllReadyH.cons rfl (fun K hK => ?_) AllReadyH.nil
      go_simp
      go_wp2_with (go_at_call 15; refine (HFR.out A3 A4 c3 c4 wc.drew _ (show wc.drew.ownsRow _ _ _ _ _ _ from HOW.out)).mono ?_; rintro e w8 ⟨A5, c5, rfl, ho5, hbx⟩)
      refine hK.out _ _ ?hSs4 (fun hHelds4 => ?_)
      case hSs4 => exact ⟨hHeld.1.same hbx, (hbx.cell (World.block_lt_of_cell? _ _ hHeld.2.1)).trans hHeld.2.1, (hbx.cell (World.block_lt_of_cell? _ _ hHeld.2.2.1)).trans hHeld.2.2.1, (hbx.cell (World.block_lt_of_cell? _ _ hHeld.2.2.2)).trans hHeld.2.2.2⟩
      clear hK K
      (try simp only [Act.put, List.setIfInBounds_toArray, List.set_cons_zero, List.set_cons_succ, List.getElem_toArray, List.getElem_cons_zero, List.getElem_cons_succ])
      refine wpAnyH_ready (rs := [6]) (by kernel_rfl) (by simp) ?_
      refine AllReadyH.cons rfl (fun K hK => ?_) AllReadyH.nil
      go_simp
      go_wp2_with (go_at_call 14; refine (HSM.out A3 A5 c3 c5 _ _ _ hHelds4.1.below (own_below (show wc.drew.ownsRow _ _ _ _ _ _ from HOB.out) hbx) ho5).mono ?_; rintro e w9 ⟨rfl, hby⟩)
      refine hK.out _ _ ?hSs6 (fun hHelds6 => ?_)
      case hSs6 => exact ⟨hHelds4.1.same hby, (hby.cell (World.block_lt_of_cell? _ _ hHelds4.2.1)).trans hHelds4.2.1, (hby.cell (World.block_lt_of_cell? _ _ hHelds4.2.2.1)).trans hHelds4.2.2.1, (hby.cell (World.block_lt_of_cell? _ _ hHelds4.2.2.2)).trans hHelds4.2.2.2⟩
      clear hK K
      (try simp only [Act.put, List.setIfInBounds_toArray, List.set_cons_zero, List.set_cons_succ, List.getElem_toArray, List.getElem_cons_zero, List.getElem_cons_succ])
      refine wpAnyH_take (i := 7) (v := ?vs7) rfl (by kernel_rfl) (by kernel_rfl) (by kernel_rfl) (fun _ _ _ h => h) (Or.inl ⟨by rfl, ?hys7⟩) (by assumption) ?rests7
      case hys7 => (intro w_ hSw; (try dsimp only at hSw); obtain ⟨⟨_, h1_, d0_, d1_, d2_⟩, d3_, d4_, d5_⟩ := hSw; go_simp; (try with_reducible rfl))
      (try simp only [Act.put, List.setIfInBounds_toArray, List.set_cons_zero, List.set_cons_succ, List.getElem_toArray, List.getElem_cons_zero, List.getElem_cons_succ])
      refine wpAnyH_take (i := 8) (v := ?vs8) rfl (by kernel_rfl) (by kernel_rfl) (by kernel_rfl) (fun _ _ _ h => h) (Or.inl ⟨by rfl, ?hys8⟩) (by assumption) ?rests8
      case hys8 => (intro w_ hSw; (try dsimp only at hSw); obtain ⟨⟨_, h1_, d0_, d1_, d2_⟩, d3_, d4_, d5_⟩ := hSw; go_simp; (try with_reducible rfl))
      (try simp only [Act.put, List.setIfInBounds_toArray, List.set_cons_zero, List.set_cons_succ, List.getElem_toArray, List.getElem_cons_zero, List.getElem_cons_succ])
      refine wpAnyH_done (by kernel_rfl) ?_ _
      have HSF := Lib.hid hHelds6.1.below
      go_wp2_with fail
      go_ret
      exact ⟨rfl, HSF.out⟩
    · have HPR : Hid (∀ A2 c2 x b, Below w.heap.size w x → x.ownsRow b 95 3 (.slice A2 nw c2) nw (cndC q.wh) → Calls Tryz.prog 17 #[.agg #[.int .i64 q.verb, .slice Ab nb cb, .slice A2 nw c2]] x fun e w' => e = .returned (.tuple #[.string ⟨#[]⟩, .int .i64 1]) ∧ Below x.heap.size x w') := fun A2 c2 x b h ho =>
        print_no q Ab A2 nb nw cb c2 x.heap.size x hok ((HBY.out x h).more h.size) HNB.out.symm hcb (Reads.of_own ho) (Nat.le_refl _) (by have := HF1.out; omega)
      have HRP : Hid (∀ x, Below w.heap.size w x → Calls Tryz.prog 19 #[.agg #[.int .i64 q.verb, .slice Ab nb cb, .slice Aw nw cw]] x fun e w' => e = .returned (.tuple #[.string ⟨#[]⟩, .int .i64 1]) ∧ Below x.heap.size x w') := fun x h =>
        rprint_no q Ab Aw nb nw cb cw w.heap.size x hok (HBY.out x h) HNB.out.symm hcb (HWH.out x h) h.size (by have := HF1.out; omega) (by have := HF1.out; omega)
      rw [bfalse hokb hok] at HVA HRV
      generalize cndC q.wh = LW at *
      generalize q.verb = verb at *
      clear hok HBY HWH HNB HNW hfew
      go_enter Tryz.func4, Tryz.ntmps4
      go_wp2_with fail
      refine (awake_true _ (HEB.out _ HS0.out.below) (HEEB.out _ HS0.out.below)).mono ?_
      rintro e w1 ⟨rfl, hb⟩
      have hs := HS0.out.same hb
      have HS := Lib.hid hs
      obtain ⟨_, l1, c0, c1, c2⟩ := hs
      clear hb hwz hlt0 HS0
      go_wp2_with fail
      refine (HFW.out _).mono ?_
      rintro e w2 ⟨rfl, hb⟩
      have hs := HS.out.same hb
      clear HS hb c0 c1 c2 l1
      have HS := Lib.hid hs
      obtain ⟨_, l1, c0, c1, c2⟩ := hs
      go_wp2_with fail
      refine (HTO.out _ HS.out.below).mono ?_
      rintro e w3 ⟨A1, c1', rfl, ho, hb⟩
      have hs := HS.out.same hb
      clear HS hb c0 c1 c2 l1
      have HS := Lib.hid hs
      have HO := Lib.hid ho
      obtain ⟨_, l1, c0, c1, c2⟩ := hs
      clear ho
      go_wp2_with fail
      refine (HPR.out _ _ _ _ HS.out.below HO.out).mono ?_
      rintro e w4 ⟨rfl, hb⟩
      have hs := HS.out.same hb
      clear HS hb c0 c1 c2 l1
      have HS := Lib.hid hs
      obtain ⟨_, l1, c0, c1, c2⟩ := hs
      go_wp2_with fail
      refine (HRP.out _ HS.out.below).mono ?_
      rintro e w5 ⟨rfl, hb⟩
      have hs := HS.out.same hb
      clear HS hb c0 c1 c2 l1 HO
      have HS := Lib.hid hs
      obtain ⟨_, l1, c0, c1, c2⟩ := hs
      go_upto_region 5 with fail
      refine wp_region_held_drew (S := fun w' => RvI w verb Ab Aw nb nw cb cw w') (by kernel_rfl) (HS.out.same (Below.refl _ _).drew) (fun hHeld => ?_)
      refine wpAnyH_take (i := 0) (v := ?vrn0) rfl (by kernel_rfl) (by kernel_rfl) (by kernel_rfl) (fun _ _ _ h => h) (Or.inl ⟨by rfl, ?hyrn0⟩) (by assumption) ?restrn0
      case hyrn0 => (intro w_ hSw; (try dsimp only at hSw); obtain ⟨_, h1_, d0_, d1_, d2_⟩ := hSw; go_simp; (try with_reducible rfl))
      (try simp only [Act.put, List.setIfInBounds_toArray, List.set_cons_zero, List.set_cons_succ, List.getElem_toArray, List.getElem_cons_zero, List.getElem_cons_succ])
      refine wpAnyH_take (i := 1) (v := ?vrn1) rfl (by kernel_rfl) (by kernel_rfl) (by kernel_rfl) (fun _ _ _ h => h) (Or.inl ⟨by rfl, ?hyrn1⟩) (by assumption) ?restrn1
      case hyrn1 => (intro w_ hSw; (try dsimp only at hSw); obtain ⟨_, h1_, d0_, d1_, d2_⟩ := hSw; go_simp; (try with_reducible rfl))
      (try simp only [Act.put, List.setIfInBounds_toArray, List.set_cons_zero, List.set_cons_succ, List.getElem_toArray, List.getElem_cons_zero, List.getElem_cons_succ])
      refine wpAnyH_take (i := 2) (v := ?vrn2) rfl (by kernel_rfl) (by kernel_rfl) (by kernel_rfl) (fun _ _ _ h => h) (Or.inl ⟨by rfl, ?hyrn2⟩) (by assumption) ?restrn2
      case hyrn2 => (intro w_ hSw; (try dsimp only at hSw); obtain ⟨_, h1_, d0_, d1_, d2_⟩ := hSw; go_simp; (try with_reducible rfl))
      (try simp only [Act.put, List.setIfInBounds_toArray, List.set_cons_zero, List.set_cons_succ, List.getElem_toArray, List.getElem_cons_zero, List.getElem_cons_succ])
      refine wpAnyH_take (i := 3) (v := ?vrn3) rfl (by kernel_rfl) (by kernel_rfl) (by kernel_rfl) (fun _ _ _ h => h) (Or.inl ⟨by rfl, ?hyrn3⟩) (by assumption) ?restrn3
      case hyrn3 => (intro w_ hSw; (try dsimp only at hSw); obtain ⟨_, h1_, d0_, d1_, d2_⟩ := hSw; go_simp; (try with_reducible rfl))
      (try simp only [Act.put, List.setIfInBounds_toArray, List.set_cons_zero, List.set_cons_succ, List.getElem_toArray, List.getElem_cons_zero, List.getElem_cons_succ])
      refine wpAnyH_take (i := 4) (v := ?vrn4) rfl (by kernel_rfl) (by kernel_rfl) (by kernel_rfl) (fun _ _ _ h => h) (Or.inl ⟨by rfl, ?hyrn4⟩) (by assumption) ?restrn4
      case hyrn4 => (intro w_ hSw; (try dsimp only at hSw); obtain ⟨_, h1_, d0_, d1_, d2_⟩ := hSw; go_simp; (try with_reducible rfl))
      (try simp only [Act.put, List.setIfInBounds_toArray, List.set_cons_zero, List.set_cons_succ, List.getElem_toArray, List.getElem_cons_zero, List.getElem_cons_succ])
      refine wpAnyH_take (i := 5) (v := ?vrn5) rfl (by kernel_rfl) (by kernel_rfl) (by kernel_rfl) (fun _ _ _ h => h) (Or.inl ⟨by rfl, ?hyrn5⟩) (by assumption) ?restrn5
      case hyrn5 => (intro w_ hSw; (try dsimp only at hSw); obtain ⟨_, h1_, d0_, d1_, d2_⟩ := hSw; go_simp; (try with_reducible rfl))
      (try simp only [Act.put, List.setIfInBounds_toArray, List.set_cons_zero, List.set_cons_succ, List.getElem_toArray, List.getElem_cons_zero, List.getElem_cons_succ])
      refine wpAnyH_take (i := 6) (v := ?vrn6) rfl (by kernel_rfl) (by kernel_rfl) (by kernel_rfl) (fun _ _ _ h => h) (Or.inl ⟨by rfl, ?hyrn6⟩) (by assumption) ?restrn6
      case hyrn6 => (intro w_ hSw; (try dsimp only at hSw); obtain ⟨_, h1_, d0_, d1_, d2_⟩ := hSw; go_simp; (try with_reducible rfl))
      (try simp only [Act.put, List.setIfInBounds_toArray, List.set_cons_zero, List.set_cons_succ, List.getElem_toArray, List.getElem_cons_zero, List.getElem_cons_succ])
      refine wpAnyH_take (i := 7) (v := ?vrn7) rfl (by kernel_rfl) (by kernel_rfl) (by kernel_rfl) (fun _ _ _ h => h) (Or.inl ⟨by rfl, ?hyrn7⟩) (by assumption) ?restrn7
      case hyrn7 => (intro w_ hSw; (try dsimp only at hSw); obtain ⟨_, h1_, d0_, d1_, d2_⟩ := hSw; go_simp; (try with_reducible rfl))
      (try simp only [Act.put, List.setIfInBounds_toArray, List.set_cons_zero, List.set_cons_succ, List.getElem_toArray, List.getElem_cons_zero, List.getElem_cons_succ])
      refine wpAnyH_take (i := 8) (v := ?vrn8) rfl (by kernel_rfl) (by kernel_rfl) (by kernel_rfl) (fun _ _ _ h => h) (Or.inl ⟨by rfl, ?hyrn8⟩) (by assumption) ?restrn8
      case hyrn8 => (intro w_ hSw; (try dsimp only at hSw); obtain ⟨_, h1_, d0_, d1_, d2_⟩ := hSw; go_simp; (try with_reducible rfl))
      (try simp only [Act.put, List.setIfInBounds_toArray, List.set_cons_zero, List.set_cons_succ, List.getElem_toArray, List.getElem_cons_zero, List.getElem_cons_succ])
      refine wpAnyH_take (i := 9) (v := ?vrn9) rfl (by kernel_rfl) (by kernel_rfl) (by kernel_rfl) (fun _ _ _ h => h) (Or.inl ⟨by rfl, ?hyrn9⟩) (by assumption) ?restrn9
      case hyrn9 => (intro w_ hSw; (try dsimp only at hSw); obtain ⟨_, h1_, d0_, d1_, d2_⟩ := hSw; go_simp; (try with_reducible rfl))
      (try simp only [Act.put, List.setIfInBounds_toArray, List.set_cons_zero, List.set_cons_succ, List.getElem_toArray, List.getElem_cons_zero, List.getElem_cons_succ])
      refine wpAnyH_take (i := 12) (v := ?vrn12) rfl (by kernel_rfl) (by kernel_rfl) (by kernel_rfl) (fun _ _ _ h => h) (Or.inl ⟨by rfl, ?hyrn12⟩) (by assumption) ?restrn12
      case hyrn12 => (intro w_ hSw; (try dsimp only at hSw); obtain ⟨_, h1_, d0_, d1_, d2_⟩ := hSw; go_simp; (try with_reducible rfl))
      (try simp only [Act.put, List.setIfInBounds_toArray, List.set_cons_zero, List.set_cons_succ, List.getElem_toArray, List.getElem_cons_zero, List.getElem_cons_succ])
      refine wpAnyH_ready (rs := [10]) (by kernel_rfl) (by simp) ?_
      refine AllReadyH.cons rfl (fun K hK => ?_) AllReadyH.nil
      go_simp
      go_wp2_with (go_at_call 18; refine (HTO.out _ hHeld.below).mono ?_; rintro e w3 ⟨Aq, cq, rfl, ho2, hbx⟩)
      refine hK.out _ _ ?hSrn10 (fun hHeldrn10 => ?_)
      case hSrn10 => exact hHeld.same hbx
      clear hK K
      (try simp only [Act.put, List.setIfInBounds_toArray, List.set_cons_zero, List.set_cons_succ, List.getElem_toArray, List.getElem_cons_zero, List.getElem_cons_succ])
      refine wpAnyH_ready (rs := [11]) (by kernel_rfl) (by simp) ?_
      refine AllReadyH.cons rfl (fun K hK => ?_) AllReadyH.nil
      go_simp
      go_wp2_with (go_at_call 20; refine (HVA.out Aq cq _ _ hHeldrn10.below ho2).mono ?_; rintro e w4 ⟨rfl, hby⟩)
      refine hK.out _ _ ?hSrn11 (fun hHeldrn11 => ?_)
      case hSrn11 => exact hHeldrn10.same hby
      clear hK K
      (try simp only [Act.put, List.setIfInBounds_toArray, List.set_cons_zero, List.set_cons_succ, List.getElem_toArray, List.getElem_cons_zero, List.getElem_cons_succ])
      refine wpAnyH_ready (rs := [13]) (by kernel_rfl) (by simp) ?_
      refine AllReadyH.cons rfl (fun K hK => ?_) AllReadyH.nil
      go_simp
      go_wp2_with (go_at_call 21; refine (HRV.out _ hHeldrn11.below).mono ?_; rintro e w5 ⟨rfl, hbz⟩)
      refine hK.out _ _ ?hSrn13 (fun hHeldrn13 => ?_)
      case hSrn13 => exact hHeldrn11.same hbz
      clear hK K
      (try simp only [Act.put, List.setIfInBounds_toArray, List.set_cons_zero, List.set_cons_succ, List.getElem_toArray, List.getElem_cons_zero, List.getElem_cons_succ])
      refine wpAnyH_take (i := 14) (v := ?vrn14) rfl (by kernel_rfl) (by kernel_rfl) (by kernel_rfl) (fun _ _ _ h => h) (Or.inl ⟨by rfl, ?hyrn14⟩) (by assumption) ?restrn14
      case hyrn14 => (intro w_ hSw; (try dsimp only at hSw); obtain ⟨_, h1_, d0_, d1_, d2_⟩ := hSw; go_simp; (try with_reducible rfl))
      (try simp only [Act.put, List.setIfInBounds_toArray, List.set_cons_zero, List.set_cons_succ, List.getElem_toArray, List.getElem_cons_zero, List.getElem_cons_succ])
      refine wpAnyH_take (i := 15) (v := ?vrn15) rfl (by kernel_rfl) (by kernel_rfl) (by kernel_rfl) (fun _ _ _ h => h) (Or.inl ⟨by rfl, ?hyrn15⟩) (by assumption) ?restrn15
      case hyrn15 => (intro w_ hSw; (try dsimp only at hSw); obtain ⟨_, h1_, d0_, d1_, d2_⟩ := hSw; go_simp; (try with_reducible rfl))
      (try simp only [Act.put, List.setIfInBounds_toArray, List.set_cons_zero, List.set_cons_succ, List.getElem_toArray, List.getElem_cons_zero, List.getElem_cons_succ])
      refine wpAnyH_done (by kernel_rfl) ?_ _
      have HSF := Lib.hid hHeldrn13.below
      go_wp2_with fail
      go_ret
      exact ⟨rfl, HSF.out⟩
  · have hfb : (decide (nb ≤ 10) && decide (nw ≤ 30)) = false := by
      by_cases e1 : nb ≤ 10
      · rw [decide_eq_true e1, decide_eq_false (fun e2 => hfew ⟨e1, e2⟩)]; rfl
      · rw [decide_eq_false e1]; rfl
    rw [hfb] at HFW
    generalize q.verb = verb at *
    clear HBY HWH HNB HNW hfew
    go_enter Tryz.func4, Tryz.ntmps4
    go_wp2_with fail
    refine (awake_true _ (HEB.out _ HS0.out.below) (HEEB.out _ HS0.out.below)).mono ?_
    rintro e w1 ⟨rfl, hb⟩
    have hs := HS0.out.same hb
    have HS := Lib.hid hs
    obtain ⟨_, l1, c0, c1, c2⟩ := hs
    clear hb hwz hlt0 HS0
    go_wp2_with fail
    refine (HFW.out _).mono ?_
    rintro e w2 ⟨rfl, hb⟩
    have hs := HS.out.same hb
    clear HS hb c0 c1 c2 l1
    have HS := Lib.hid hs
    obtain ⟨_, l1, c0, c1, c2⟩ := hs
    go_wp2_with fail
    refine (awake_true _ (HEB.out _ HS.out.below) (HEEB.out _ HS.out.below)).mono ?_
    rintro e w3 ⟨rfl, hb⟩
    have HS2 := Lib.hid (HS.out.same hb).below
    clear hb
    go_wp2_with fail
    go_ret
    exact ⟨rfl, HS2.out⟩
end Go.Proofs.YtfnlddloalineaaGreatDoor
