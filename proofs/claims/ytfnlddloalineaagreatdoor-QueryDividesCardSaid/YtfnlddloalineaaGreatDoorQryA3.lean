/-
  The reference's split.
  The reference's has.
  The reference's reader: fail.
-/
import Derived.Test.YtfnlddloalineaaGreatDoorQryA2
namespace Go.Proofs.YtfnlddloalineaaGreatDoor
open Go.RowKit
set_option linter.unusedVariables false
theorem info_word : (Tryz.prog.info? 89).map (fun i => (i.zero, i.size, i.bytes)) = some (some (.agg #[.int .i64 0, .string ⟨#[]⟩]), 2, 24) := by kernel_rfl
theorem word_one (a : Int) (x : ByteArray) : ∀ u ∈ ([.int .i64 a, .string x] : List Value), u.oneCell' = true := by
  intro u hu
  simp only [List.mem_cons, List.not_mem_nil, or_false] at hu
  rcases hu with rfl | rfl <;> rfl
/-- words with their places, one after another -/
def wcells : Nat → List (List UInt8) → List Value
  | _, [] => []
  | b, x :: r => .int .i64 (b : Int) :: strV x :: wcells (b + (x.length + 1)) r
theorem wcells_app (b : Nat) (ws : List (List UInt8)) (x : List UInt8) : wcells b (ws ++ [x]) = wcells b ws ++ [.int .i64 ((b + plSum ws : Nat) : Int), .string ⟨x.toArray⟩] := by
  induction ws generalizing b with
  | nil => rfl
  | cons y r ih =>
    simp only [List.cons_append, wcells, plSum, ih]
    rw [show b + (y.length + 1) + plSum r = b + (y.length + 1 + plSum r) by omega]
theorem plSum_app (ws : List (List UInt8)) (x : List UInt8) : plSum (ws ++ [x]) = plSum ws + (x.length + 1) := by
  induction ws with
  | nil => simp [plSum]
  | cons y r ih => simp only [List.cons_append, plSum, ih]; omega
theorem drop_at {l : List UInt8} {f k : Nat} (hf : f ≤ k) (hk : k < l.length) : l.drop f = (l.drop f).take (k - f) ++ l.getD k 0 :: l.drop (k + 1) := by
  conv => lhs; rw [← List.take_append_drop (k - f) (l.drop f)]
  congr 1
  rw [List.drop_drop, show f + (k - f) = k by omega, List.drop_eq_getElem_cons hk, List.getD_eq_getElem?_getD, List.getElem?_eq_getElem hk]
  rfl
theorem take_step {l : List UInt8} {f k : Nat} (hf : f ≤ k) (hk : k < l.length) : (l.drop f).take (k + 1 - f) = (l.drop f).take (k - f) ++ [l.getD k 0] := by
  rw [show k + 1 - f = (k - f) + 1 by omega, List.take_succ_eq_append_getElem (by rw [List.length_drop]; omega)]
  congr 2
  rw [List.getElem_drop, List.getD_eq_getElem?_getD, List.getElem?_eq_getElem hk]
  have : f + (k - f) = k := by omega
  simp [this]
def WdI (c : UInt8) (l : List UInt8) (f k : Nat) (done : List (List UInt8)) : Prop :=
  (k ≤ l.length ∧ f ≤ k ∧ f = plSum done ∧ piecesL c l = done ++ piecesL c (l.drop f) ∧ c ∉ (l.drop f).take (k - f)) ∨ (k = l.length + 1 ∧ plSum done = k ∧ piecesL c l = done)
theorem wd_sep {c : UInt8} {l : List UInt8} {f k : Nat} {done : List (List UInt8)} (h : WdI c l f k done) (hk : k < l.length) (hb : l.getD k 0 = c) : WdI c l (k + 1) (k + 1) (done ++ [(l.take k).drop f]) := by
  rcases h with ⟨h1, h2, h3, h4, h5⟩ | ⟨h1, _⟩
  · refine .inl ⟨by omega, by omega, by rw [plSum_app]; simp only [List.length_drop, List.length_take]; omega, ?_, by simp⟩
    rw [h4, drop_at h2 hk, hb, piecesL_at h5, List.append_assoc]
    congr 1
    rw [List.drop_take]
    rfl
  · omega
theorem wd_go {c : UInt8} {l : List UInt8} {f k : Nat} {done : List (List UInt8)} (h : WdI c l f k done) (hk : k < l.length) (hb : l.getD k 0 ≠ c) : WdI c l f (k + 1) done := by
  rcases h with ⟨h1, h2, h3, h4, h5⟩ | ⟨h1, _⟩
  · refine .inl ⟨by omega, by omega, by omega, h4, ?_⟩
    rw [take_step h2 hk, List.mem_append, List.mem_singleton]
    rintro (h | h)
    · exact h5 h
    · exact hb h.symm
  · omega
theorem wd_end {c : UInt8} {l : List UInt8} {f : Nat} {done : List (List UInt8)} (h : WdI c l f l.length done) : WdI c l (l.length + 1) (l.length + 1) (done ++ [(l.take l.length).drop f]) := by
  rcases h with ⟨h1, h2, h3, h4, h5⟩ | ⟨h1, _⟩
  · refine .inr ⟨rfl, by rw [plSum_app]; simp only [List.length_drop, List.length_take]; omega, ?_⟩
    have e : (l.drop f).take (l.length - f) = l.drop f := List.take_of_length_le (by rw [List.length_drop]; omega)
    rw [e] at h5
    rw [h4, piecesL_no h5, List.take_length]
  · omega
set_option maxRecDepth 100000 in
set_option maxHeartbeats 4000000 in
theorem refSplit_any (c : UInt8) (l : List UInt8) (w : World) (hl : l.length ≤ 1000) : Calls Tryz.prog 35 #[.string ⟨l.toArray⟩, .int .u8 (c.toNat : Int)] w fun e w' => ∃ v, e = .returned v ∧ w'.ownsRow w.heap.size 89 2 v (piecesL c l).length (wcells 0 (piecesL c l)) ∧ Below w.heap.size w w' := by
  obtain ⟨i0, hi0, hz0, hz1, hz2⟩ := info_parts info_word
  go_enter Tryz.func35, Tryz.ntmps35
  go_wp2_with fail
  go_loopw [5, 6, 7] (fun v f i wr => ∃ (done : List (List UInt8)) (fr k : Nat), f = .int .i64 fr ∧ i = .int .i64 k ∧ wr.ownsRow w.heap.size 89 2 v done.length (wcells 0 done) ∧ Below w.heap.size w wr ∧ WdI c l fr k done) (fun _ _ i _ => l.length + 1 - (intOf i).toNat)
  case atStart => exact ⟨[], 0, 0, rfl, rfl, World.ownsRow_nil _ _ _ _, Below.refl _ _, .inl ⟨by omega, by omega, rfl, by simp, by simp⟩⟩
  case round =>
    obtain ⟨done, fr, k, rfl, rfl, hown, hbr, hw⟩ := hrel
    obtain ⟨wo, rfl⟩ : ∃ wo : World, wo = wr := ⟨_, rfl⟩
    have HO := Lib.hid hown
    have HBR := Lib.hid hbr
    have HW := Lib.hid hw
    have hdl : done.length ≤ 1001 ∧ k ≤ l.length + 1 := by
      have := plSum_len done
      rcases hw with ⟨h1, h2, h3, _⟩ | ⟨h1, h3, _⟩ <;> omega
    have hd1 := hdl.1
    have hd2 := hdl.2
    clear hown hbr hdl
    by_cases hlt : k < l.length
    · have hfk : fr ≤ k := by rcases hw with ⟨_, h2, _⟩ | ⟨h1, _⟩ <;> omega
      have hli : decide ((k : Int) ≤ (l.length : Int)) = true := by rw [decide_eq_true_eq]; omega
      have hle : decide (k ≤ l.length) = true := by rw [decide_eq_true_eq]; omega
      have q1 : ((k : Int) == (l.length : Int)) = false := by rw [beq_eq_false_iff_ne]; omega
      have q2 : (k == l.length) = false := by rw [beq_eq_false_iff_ne]; omega
      have b1 : (k : Int) < (l.length : Int) := by omega
      have b2 : (fr : Int) ≤ (k : Int) := by omega
      have b3 : (k : Int) ≤ (l.length : Int) := by omega
      have hsz : k < (⟨l.toArray⟩ : ByteArray).size := by rw [mk_size]; exact hlt
      have hg : (((⟨l.toArray⟩ : ByteArray)[k].toNat : Int) == (c.toNat : Int)) = (l.getD k 0 == c) := by rw [mk_getD]; exact byteEqQ _ c
      have hex := ex_mk l fr k
      clear hw
      cases hb : (l.getD k 0 == c)
      · have F := Lib.hid (wd_go HW.out hlt (by rw [beq_eq_false_iff_ne] at hb; exact hb))
        rw [hb] at hg
        clear hb HW
        go_wp2_with fail
        go_roundw
        case rel => exact ⟨done, fr, k + 1, rfl, by go_num, HO.out, HBR.out, F.out⟩
        case measure => simp [intOf] <;> omega
      · have HFR : Hid (fr = plSum done) := by show _ = _; rcases HW.out with ⟨_, _, h3, _⟩ | ⟨h1, _⟩ <;> omega
        have F := Lib.hid (wd_sep HW.out hlt (by rw [beq_iff_eq] at hb; exact hb))
        rw [hb] at hg
        clear hb HW
        generalize (l.take k).drop fr = piece at *
        go_wp2_with (at_builtin; refine wpList_append_any _ rfl (.tmp 25) (.tmp 32) _ rfl w.heap.size 89 i0 _ 2 24 Tryz.underlying84 hi0 hz0 hz1 hz2 rfl (by omega) _ done.length (wcells 0 done) rfl (HO.out.alloc _) (wo.heap.size + 1) (some ⟨wo.heap.size, 0, none⟩) 1 1 [.int .i64 (fr : Int), .string ⟨piece.toArray⟩] rfl (reads_one wo #[.int .i64 (fr : Int), .string ⟨piece.toArray⟩] 89 2 rfl) (word_one _ _) (by simp only [maxLen]; omega) (by omega) (by simp only [World.size_alloc]; have := HBR.out.size; omega) ?_; intro v4 w4 hown4 hg4 hat4)
        go_wp2_with fail
        go_roundw
        case rel =>
          refine ⟨done ++ [piece], k + 1, k + 1, by go_num, by go_num, by rw [List.length_append, wcells_app, Nat.zero_add, ← HFR.out]; exact hown4, ?_, F.out⟩
          exact (HBR.out.alloc HBR.out.size _).grown hg4 (by simp only [World.size_alloc]; have := HBR.out.size; omega) (fun k hk => by have := own_base HO.out k hk; omega)
        case measure => simp [intOf] <;> omega
    · by_cases he : k = l.length
      · subst he
        have hfk : fr ≤ l.length := by rcases hw with ⟨_, h2, _⟩ | ⟨h1, _⟩ <;> omega
        have b2 : (fr : Int) ≤ (l.length : Int) := by omega
        have hex := ex_mk l fr l.length
        have HFR : Hid (fr = plSum done) := by show _ = _; rcases HW.out with ⟨_, _, h3, _⟩ | ⟨h1, _⟩ <;> omega
        have F := Lib.hid (wd_end HW.out)
        clear hw HW
        generalize (l.take l.length).drop fr = piece at *
        go_wp2_with (at_builtin; refine wpList_append_any _ rfl (.tmp 25) (.tmp 32) _ rfl w.heap.size 89 i0 _ 2 24 Tryz.underlying84 hi0 hz0 hz1 hz2 rfl (by omega) _ done.length (wcells 0 done) rfl (HO.out.alloc _) (wo.heap.size + 1) (some ⟨wo.heap.size, 0, none⟩) 1 1 [.int .i64 (fr : Int), .string ⟨piece.toArray⟩] rfl (reads_one wo #[.int .i64 (fr : Int), .string ⟨piece.toArray⟩] 89 2 rfl) (word_one _ _) (by simp only [maxLen]; omega) (by omega) (by simp only [World.size_alloc]; have := HBR.out.size; omega) ?_; intro v4 w4 hown4 hg4 hat4)
        go_wp2_with fail
        go_roundw
        case rel =>
          refine ⟨done ++ [piece], l.length + 1, l.length + 1, by go_num, by go_num, by rw [List.length_append, wcells_app, Nat.zero_add, ← HFR.out]; exact hown4, ?_, F.out⟩
          exact (HBR.out.alloc HBR.out.size _).grown hg4 (by simp only [World.size_alloc]; have := HBR.out.size; omega) (fun k hk => by have := own_base HO.out k hk; omega)
        case measure => simp [intOf] <;> omega
      · have hwk : k = l.length + 1 ∧ piecesL c l = done := by
          rcases hw with ⟨h1, _⟩ | ⟨h1, _, h2⟩
          · exfalso; omega
          · exact ⟨h1, h2⟩
        obtain ⟨rfl, hwd⟩ := hwk
        have hli : decide (((l.length + 1 : Nat) : Int) ≤ (l.length : Int)) = false := by rw [decide_eq_false_iff_not]; omega
        have hli2 : decide ((l.length : Int) + 1 ≤ (l.length : Int)) = false := by rw [decide_eq_false_iff_not]; omega
        have HWD := Lib.hid hwd
        clear hwd hw HW
        go_wp2_with fail
        go_ret
        exact ⟨_, rfl, by rw [HWD.out]; exact HO.out, HBR.out⟩
end Go.Proofs.YtfnlddloalineaaGreatDoor
namespace Go.Proofs.YtfnlddloalineaaGreatDoor
open Go.RowKit
set_option linter.unusedVariables false
def hasB (l : List Int) (x : Int) : Bool := l.contains x
set_option maxHeartbeats 1000000 in
theorem has_any (l : List Int) (x : Int) (A : Option Addr) (n c : Nat) (w : World) (hk : ∀ j, j < n → ∃ ad : Addr, A = some ad ∧ w.cell? (ad.add j) = some (.int .i64 (l.getD j 0))) (hn : n = l.length) (hl : l.length ≤ 100000) :
    Calls Tryz.prog 55 #[.slice A n c, .int .i64 x] w fun e w' => e = .returned (.bool (hasB l x)) ∧ w = w' := by
  have HK := Lib.hid hk
  have HN := Lib.hid hn
  have hn1 : n ≤ 100000 := by omega
  clear hk hn hl
  go_enter Tryz.func55, Tryz.ntmps55
  go_wp2_with fail
  go_loop [5] (fun i => ∃ k : Nat, k ≤ n ∧ i = .int .i64 (k : Int) ∧ ∀ j, j < k → l.getD j 0 ≠ x) (fun i => n - (intOf i).toNat)
  case atStart => exact ⟨0, Nat.zero_le _, rfl, fun j h => by omega⟩
  case round =>
    obtain ⟨k, hk, rfl, hd⟩ := hrel
    have HD := Lib.hid hd
    clear hd
    by_cases hlt : k < n
    · have k1 : decide ((k : Int) < (n : Int)) = true := by rw [decide_eq_true_eq]; omega
      have k2 : decide (k < n) = true := by rw [decide_eq_true_eq]; omega
      have b1 : (k : Int) < (n : Int) := by omega
      obtain ⟨ad, rfl, hc⟩ := HK.out k hlt
      have HX : Hid (l.getD k 0 = x → hasB l x = true) := fun h => by
        unfold hasB
        rw [List.contains_iff_mem, ← h]
        have hk2 : k < l.length := by rw [← HN.out]; exact hlt
        rw [List.getD_eq_getElem?_getD, List.getElem?_eq_getElem hk2]
        exact List.getElem_mem hk2
      have HY : Hid (l.getD k 0 ≠ x → ∀ j, j < k + 1 → l.getD j 0 ≠ x) := fun h j hj => by
        by_cases e : j = k
        · rw [e]; exact h
        · exact HD.out j (by omega)
      generalize l.getD k 0 = y at *
      by_cases hx : y = x
      · have F := Lib.hid (HX.out hx)
        clear HX HY
        subst hx
        have q1 : (y == y) = true := by simp
        go_wp2_with fail
        go_ret
        exact ⟨by rw [F.out]; rfl, rfl⟩
      · have q1 : (y == x) = false := by rw [beq_eq_false_iff_ne]; exact hx
        have F := Lib.hid (HY.out hx)
        clear HX HY hx
        go_wp2_with fail
        go_round
        case rel => exact ⟨k + 1, by omega, by go_num, F.out⟩
        case measure => simp [intOf]; omega
    · have k1 : decide ((k : Int) < (n : Int)) = false := by rw [decide_eq_false_iff_not]; omega
      have k2 : decide (k < n) = false := by rw [decide_eq_false_iff_not]; omega
      have F : Hid (hasB l x = false) := by
        show _ = _
        unfold hasB
        rw [← Bool.not_eq_true, List.contains_iff_mem]
        intro hm
        obtain ⟨j, hj, e⟩ := List.getElem_of_mem hm
        refine HD.out j (by have := HN.out; omega) ?_
        rw [List.getD_eq_getElem?_getD, List.getElem?_eq_getElem hj]
        exact e
      go_wp2_with fail
      go_ret
      exact ⟨by rw [F.out]; rfl, rfl⟩
end Go.Proofs.YtfnlddloalineaaGreatDoor
namespace Go.Proofs.YtfnlddloalineaaGreatDoor
open Go.RowKit
set_option linter.unusedVariables false
theorem rr_cells {w : World} {g : Nat} {T : TypeId} {a b c d e f h : Value} (hk : Blk w g T #[a, b, c, d, e, f, h]) : w.cell? ⟨g, 0, none⟩ = some a ∧ w.cell? ⟨g, 1, none⟩ = some b ∧ w.cell? ⟨g, 2, none⟩ = some c ∧ w.cell? ⟨g, 3, none⟩ = some d ∧ w.cell? ⟨g, 4, none⟩ = some e ∧ w.cell? ⟨g, 5, none⟩ = some f ∧ w.cell? ⟨g, 6, none⟩ = some h :=
  ⟨hk.cell 0, hk.cell 1, hk.cell 2, hk.cell 3, hk.cell 4, hk.cell 5, hk.cell 6⟩
def FailSays (R : Nat) (cs : Array Value) (w : World) (e : Ending) (w' : World) : Prop := (∃ v, e = .returned v) ∧ Blk w' R 87 cs ∧ w.grownBy w' (some R)
set_option maxRecDepth 100000 in
set_option maxHeartbeats 1000000 in
theorem fail_again (R : Nat) (l a b c d f : Value) (e0 at_ E : Int) (tx : List UInt8) (w : World) (hk : Blk w R 87 #[l, a, b, c, d, f, .int .i64 e0]) (he : (e0 == 0) = false) :
    Calls Tryz.prog 39 #[.pointer (some ⟨R, 0, none⟩), .agg #[.int .i64 at_, .string ⟨tx.toArray⟩], .int .i64 E] w (FailSays R #[l, a, b, c, d, f, .int .i64 e0] w) := by
  have hb := (Below.refl w.heap.size w).alloc (Nat.le_refl _) (.cells (#[.int .i64 at_, .string ⟨tx.toArray⟩] : Array Value) 89)
  have hk1 := hk.below hb hk.lt
  obtain ⟨x0, x1, x2, x3, x4, x5, x6⟩ := rr_cells hk1
  have HK := Lib.hid hk1
  have HB := Lib.hid hb
  clear hk hk1 hb
  go_enter Tryz.func39, Tryz.ntmps39
  go_wp2_with fail
  refine bodyPost_ret (results_none rfl _ _ _) rfl ?_
  exact ⟨⟨_, rfl⟩, HK.out, grown_of_below HB.out _⟩
set_option maxRecDepth 100000 in
set_option maxHeartbeats 1000000 in
theorem fail_first (R : Nat) (l a b c d : Value) (f at_ E : Int) (tx : List UInt8) (w : World) (hk : Blk w R 87 #[l, a, b, c, d, .int .i64 f, .int .i64 0]) :
    Calls Tryz.prog 39 #[.pointer (some ⟨R, 0, none⟩), .agg #[.int .i64 at_, .string ⟨tx.toArray⟩], .int .i64 E] w (FailSays R #[l, a, b, c, d, .int .i64 at_, .int .i64 E] w) := by
  have hb := (Below.refl w.heap.size w).alloc (Nat.le_refl _) (.cells (#[.int .i64 at_, .string ⟨tx.toArray⟩] : Array Value) 89)
  have hk1 := hk.below hb hk.lt
  have hRlt := hk.lt
  have fw := hk.frozen
  have HK0 := Lib.hid hk
  obtain ⟨v0, v1, v2, v3, v4, v5, v6⟩ := rr_cells hk
  obtain ⟨x0, x1, x2, x3, x4, x5, x6⟩ := rr_cells hk1
  have fx := hk1.frozen
  have hwd := Blk.new w 89 #[.int .i64 at_, .string ⟨tx.toArray⟩]
  have y0 : (w.alloc (.cells (#[.int .i64 at_, .string ⟨tx.toArray⟩] : Array Value) 89)).cell? ⟨w.heap.size, 0, none⟩ = some (.int .i64 at_) := hwd.cell 0
  have HK := Lib.hid hk1
  have HB := Lib.hid hb
  clear hk hk1 hb hwd
  go_enter Tryz.func39, Tryz.ntmps39
  go_wp2_with fail
  refine bodyPost_ret (results_none rfl _ _ _) rfl ?_
  have hbF : Blk ((w.setCell ⟨R, 5, none⟩ (.int .i64 at_)).setCell ⟨R, 6, none⟩ (.int .i64 E)) R 87 #[l, a, b, c, d, .int .i64 at_, .int .i64 E] := by
    have := (HK0.out.set_ 5 (.int .i64 at_)).set_ 6 (.int .i64 E)
    simpa using this
  have hgF := grown_set (grown_set (World.grownBy.refl w (some R)) 5 (.int .i64 at_)) 6 (.int .i64 E)
  exact ⟨⟨_, rfl⟩, hbF.alloc _, World.grownBy.trans hgF (grown_of_below ((Below.refl _ _).alloc (Nat.le_refl _) _) (some R))⟩
end Go.Proofs.YtfnlddloalineaaGreatDoor
