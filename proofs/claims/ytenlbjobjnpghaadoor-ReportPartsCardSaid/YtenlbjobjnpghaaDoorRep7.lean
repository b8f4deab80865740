/-
  to, rows, Rows; ContainsFunc over lines; valid of both.
-/
import Derived.Test.YtenlbjobjnpghaaDoorRepPl
import Derived.Test.YtenlbjobjnpghaaDoorOwn2
namespace Go.Proofs.YtenlbjobjnpghaaDoor
open Go.RowKit
set_option linter.unusedVariables false
theorem info_row : (Tryd.prog.info? 46).map (fun i => (i.zero, i.size, i.bytes)) = some (some (.agg #[.string ⟨#[]⟩, .int .i64 0, .int .i64 0, .int .i64 0, .bool false]), 5, 48) := by kernel_rfl
def lineV (x : SLine) : Value := .agg #[.string ⟨x.row.name.toArray⟩, .int .i64 x.row.level, .int .i64 x.row.from_, .int .i64 x.row.to_, .bool x.row.neg, .int .i64 x.amt]
set_option maxRecDepth 100000 in
set_option maxHeartbeats 4000000 in
theorem to_any (xs : List SLine) (A : Option Addr) (n c B : Nat) (w : World) (hr : Reads w B 6 A n (linesCells xs)) (hB : B ≤ w.heap.size) (hn : n ≤ 10000) :
    Calls Tryd.prog 17 #[.slice A n c] w fun e w' => ∃ v, e = .returned v ∧ w'.ownsRow w.heap.size 51 6 v xs.length (linesCells xs) ∧ Below w.heap.size w w' := by
  obtain ⟨i0, hi0, hz0, hz1, hz2⟩ := info_parts info_line
  have HL := Lib.hid (lines_len hr)
  have HR := Lib.hid hr
  clear hr
  go_enter Tryd.func17, Tryd.ntmps17
  go_wp2_with fail
  go_loopw [3, 8] (fun v i wr => ∃ k : Nat, k ≤ n ∧ i = .int .i64 k ∧ wr.ownsRow w.heap.size 51 6 v k (linesCells (xs.take k)) ∧ Below w.heap.size w wr) (fun _ i _ => n - (intOf i).toNat)
  case atStart => exact ⟨0, by omega, rfl, World.ownsRow_nil _ _ _ _, Below.refl _ _⟩
  case round =>
    obtain ⟨k, hk, rfl, hown, hbr⟩ := hrel
    obtain ⟨wo, rfl⟩ : ∃ wo : World, wo = wr := ⟨_, rfl⟩
    have HO := Lib.hid hown
    clear hown
    by_cases hlt : k < n
    · have k3 : decide ((k : Int) < (n : Int)) = true := by rw [decide_eq_true_eq]; omega
      obtain ⟨ad, rfl, hbk, c0, c1, c2, c3, c4, c5⟩ := (HR.out.low hB (Nat.le_refl _) hbr).line_at hlt
      have HS : Hid (linesCells (xs.take (k + 1)) = linesCells (xs.take k) ++ lineCells (xs.getD k default)) := by
        show _ = _
        rw [List.take_succ_eq_append_getElem (by rw [HL.out]; exact hlt), linesCells_snoc]
        simp [List.getD, show k < xs.length by rw [HL.out]; exact hlt]
      have HLO := Lib.hid (line_one (xs.getD k default))
      generalize xs.getD k default = x at *
      obtain ⟨⟨nm, lv, fr, to_, ng⟩, am⟩ := x
      simp only [] at c0 c1 c2 c3 c4 c5
      go_wp2_with (at_builtin; refine wpList_append_any _ rfl (.tmp 12) (.tmp 14) _ rfl w.heap.size 51 i0 _ 6 56 Tryd.underlying26 hi0 hz0 hz1 hz2 rfl (by omega) _ k (linesCells (xs.take k)) rfl ((HO.out.alloc _).alloc _) (wo.heap.size + 1 + 1) (some ⟨wo.heap.size + 1, 0, none⟩) 1 1 (lineCells ⟨⟨nm, lv, fr, to_, ng⟩, am⟩) rfl (by have := reads_one (wo.alloc (.cells #[.string ⟨nm.toArray⟩, .int .i64 lv, .int .i64 fr, .int .i64 to_, .bool ng, .int .i64 am] 65)) #[.string ⟨nm.toArray⟩, .int .i64 lv, .int .i64 fr, .int .i64 to_, .bool ng, .int .i64 am] 51 6 rfl; rw [World.size_alloc] at this; exact this) HLO.out (by simp only [maxLen]; omega) (by omega) (by simp only [World.size_alloc]; have := hbr.size; omega) ?_; intro v4 w4 hown4 hg4 hat4)
      rw [← HS.out] at hown4
      exact ⟨⟨k + 1, by omega, by go_num, hown4, ((hbr.alloc hbr.size _).alloc (by simp only [World.size_alloc]; have := hbr.size; omega) _).grown hg4 (by simp only [World.size_alloc]; have := hbr.size; omega) (own_base HO.out)⟩, by simp [intOf]; omega⟩
    · have k3 : decide ((k : Int) < (n : Int)) = false := by rw [decide_eq_false_iff_not]; omega
      have hown := HO.out
      rw [List.take_of_length_le (by rw [HL.out]; omega), show k = n by omega, ← HL.out] at hown
      have HO1 := Lib.hid hown
      clear hown
      go_wp2_with fail
      go_ret
      exact ⟨_, rfl, HO1.out, hbr⟩
set_option maxRecDepth 100000 in
set_option maxHeartbeats 4000000 in
theorem rows_any (xs : List SLine) (A : Option Addr) (n c B : Nat) (w : World) (hr : Reads w B 6 A n (linesCells xs)) (hB : B ≤ w.heap.size) (hn : n ≤ 10000) :
    Calls Tryd.prog 47 #[.slice A n c] w fun e w' => ∃ v, e = .returned v ∧ w'.ownsRow w.heap.size 46 5 v xs.length (rowsCells (rowsOf xs)) ∧ Below w.heap.size w w' := by
  obtain ⟨i0, hi0, hz0, hz1, hz2⟩ := info_parts info_row
  have HL := Lib.hid (lines_len hr)
  have HR := Lib.hid hr
  clear hr
  go_enter Tryd.func47, Tryd.ntmps47
  go_wp2_with fail
  go_loopw [3, 8] (fun v i wr => ∃ k : Nat, k ≤ n ∧ i = .int .i64 k ∧ wr.ownsRow w.heap.size 46 5 v k (rowsCells (rowsOf (xs.take k))) ∧ Below w.heap.size w wr) (fun _ i _ => n - (intOf i).toNat)
  case atStart => exact ⟨0, by omega, rfl, World.ownsRow_nil _ _ _ _, Below.refl _ _⟩
  case round =>
    obtain ⟨k, hk, rfl, hown, hbr⟩ := hrel
    obtain ⟨wo, rfl⟩ : ∃ wo : World, wo = wr := ⟨_, rfl⟩
    have HO := Lib.hid hown
    clear hown
    by_cases hlt : k < n
    · have k3 : decide ((k : Int) < (n : Int)) = true := by rw [decide_eq_true_eq]; omega
      obtain ⟨ad, rfl, hbk, c0, c1, c2, c3, c4, c5⟩ := (HR.out.low hB (Nat.le_refl _) hbr).line_at hlt
      have HS : Hid (rowsCells (rowsOf (xs.take (k + 1))) = rowsCells (rowsOf (xs.take k)) ++ rowCells (xs.getD k default).row) := by
        show _ = _
        exact rowsCells_step (by rw [HL.out]; exact hlt)
      have HLO := Lib.hid (row_one (xs.getD k default).row)
      generalize xs.getD k default = x at *
      obtain ⟨⟨nm, lv, fr, to_, ng⟩, am⟩ := x
      simp only [] at c0 c1 c2 c3 c4 c5 HS HLO
      go_wp2_with (at_builtin; refine wpList_append_any _ rfl (.tmp 12) (.tmp 15) _ rfl w.heap.size 46 i0 _ 5 48 Tryd.underlying23 hi0 hz0 hz1 hz2 rfl (by omega) _ k (rowsCells (rowsOf (xs.take k))) rfl ((HO.out.alloc _).alloc _) (wo.heap.size + 1 + 1) (some ⟨wo.heap.size + 1, 0, none⟩) 1 1 (rowCells ⟨nm, lv, fr, to_, ng⟩) rfl (by have := reads_one (wo.alloc (.cells #[.string ⟨nm.toArray⟩, .int .i64 lv, .int .i64 fr, .int .i64 to_, .bool ng, .int .i64 am] 51)) #[.string ⟨nm.toArray⟩, .int .i64 lv, .int .i64 fr, .int .i64 to_, .bool ng] 46 5 rfl; rw [World.size_alloc] at this; exact this) HLO.out (by simp only [maxLen]; omega) (by omega) (by simp only [World.size_alloc]; have := hbr.size; omega) ?_; intro v4 w4 hown4 hg4 hat4)
      rw [← HS.out] at hown4
      exact ⟨⟨k + 1, by omega, by go_num, hown4, ((hbr.alloc hbr.size _).alloc (by simp only [World.size_alloc]; have := hbr.size; omega) _).grown hg4 (by simp only [World.size_alloc]; have := hbr.size; omega) (own_base HO.out)⟩, by simp [intOf]; omega⟩
    · have k3 : decide ((k : Int) < (n : Int)) = false := by rw [decide_eq_false_iff_not]; omega
      have hown := HO.out
      rw [List.take_of_length_le (by rw [HL.out]; omega), show k = n by omega, ← HL.out] at hown
      have HO1 := Lib.hid hown
      clear hown
      go_wp2_with fail
      go_ret
      exact ⟨_, rfl, HO1.out, hbr⟩
set_option maxRecDepth 100000 in
set_option maxHeartbeats 4000000 in
theorem rRows_any (xs : List SLine) (A : Option Addr) (n c B : Nat) (w : World) (hr : Reads w B 6 A n (linesCells xs)) (hB : B ≤ w.heap.size) (hn : n * 48 ≤ 140737488351232) :
    Calls Tryd.prog 15 #[.slice A n c] w fun e w' => ∃ v, e = .returned v ∧ w'.ownsRow w.heap.size 46 5 v xs.length (rowsCells (rowsOf xs)) ∧ Below w.heap.size w w' := by
  obtain ⟨i0, hi0, hz0, hz1, hz2⟩ := info_parts info_row
  have HL := Lib.hid (lines_len hr)
  have HR := Lib.hid hr
  clear hr
  go_enter Tryd.func15, Tryd.ntmps15
  go_wp2_with fail
  go_loopw [3, 4] (fun v i wr => ∃ k : Nat, k ≤ n ∧ i = .int .i64 k ∧ wr.ownsRow w.heap.size 46 5 v k (rowsCells (rowsOf (xs.take k))) ∧ Below w.heap.size w wr) (fun _ i _ => n - (intOf i).toNat)
  case atStart => exact ⟨0, by omega, rfl, World.ownsRow_nil _ _ _ _, Below.refl _ _⟩
  case round =>
    obtain ⟨k, hk, rfl, hown, hbr⟩ := hrel
    obtain ⟨wo, rfl⟩ : ∃ wo : World, wo = wr := ⟨_, rfl⟩
    have HO := Lib.hid hown
    clear hown
    by_cases hlt : k < n
    · have k3 : decide ((k : Int) < (n : Int)) = true := by rw [decide_eq_true_eq]; omega
      obtain ⟨ad, rfl, hbk, c0, c1, c2, c3, c4, c5⟩ := (HR.out.low hB (Nat.le_refl _) hbr).line_at hlt
      have HS : Hid (rowsCells (rowsOf (xs.take (k + 1))) = rowsCells (rowsOf (xs.take k)) ++ rowCells (xs.getD k default).row) := by
        show _ = _
        exact rowsCells_step (by rw [HL.out]; exact hlt)
      have HLO := Lib.hid (row_one (xs.getD k default).row)
      generalize xs.getD k default = x at *
      obtain ⟨⟨nm, lv, fr, to_, ng⟩, am⟩ := x
      simp only [] at c0 c1 c2 c3 c4 c5 HS HLO
      go_wp2_with (at_builtin; refine wpList_append_any _ rfl (.tmp 11) (.tmp 17) _ rfl w.heap.size 46 i0 _ 5 48 Tryd.underlying23 hi0 hz0 hz1 hz2 rfl (by omega) _ k (rowsCells (rowsOf (xs.take k))) rfl (HO.out.alloc _) (wo.heap.size + 1) (some ⟨wo.heap.size, 0, none⟩) 1 1 (rowCells ⟨nm, lv, fr, to_, ng⟩) rfl (reads_one wo #[.string ⟨nm.toArray⟩, .int .i64 lv, .int .i64 fr, .int .i64 to_, .bool ng] 46 5 rfl) HLO.out (by simp only [maxLen]; omega) (by omega) (by simp only [World.size_alloc]; have := hbr.size; omega) ?_; intro v4 w4 hown4 hg4 hat4)
      rw [← HS.out] at hown4
      exact ⟨⟨k + 1, by omega, by go_num, hown4, (hbr.alloc hbr.size _).grown hg4 (by simp only [World.size_alloc]; have := hbr.size; omega) (own_base HO.out)⟩, by simp [intOf]; omega⟩
    · have k3 : decide ((k : Int) < (n : Int)) = false := by rw [decide_eq_false_iff_not]; omega
      have hown := HO.out
      rw [List.take_of_length_le (by rw [HL.out]; omega), show k = n by omega, ← HL.out] at hown
      have HO1 := Lib.hid hown
      clear hown
      go_wp2_with fail
      go_ret
      exact ⟨_, rfl, HO1.out, hbr⟩
theorem own_cap {w : World} {base size n c : Nat} {e : TypeId} {A : Option Addr} {xs : List Value} (h : w.ownsRow base e size (.slice A n c) n xs) : n ≤ c := by
  obtain ⟨_, h⟩ := h
  rcases h with ⟨h1, h2⟩ | ⟨g, cap, cur, h1, _, _, h2, _⟩
  · omega
  · injection h1 with _ _ hc
    omega
def IdxSays (p : SLine → Bool) (xs : List SLine) (w : World) (e : Ending) (w' : World) : Prop := ∃ r : Int, e = .returned (.int .i64 r) ∧ decide (0 ≤ r) = xs.any p ∧ Below w.heap.size w w'
theorem any_yes {p : SLine → Bool} {xs : List SLine} {k : Nat} (hk : k < xs.length) (h : p (xs.getD k default) = true) : xs.any p = true :=
  List.any_eq_true.2 ⟨_, getD_memL hk, h⟩
theorem any_step {p : SLine → Bool} {xs : List SLine} {k : Nat} (hk : k < xs.length) (h : (xs.take k).any p = false) (h' : p (xs.getD k default) = false) : (xs.take (k + 1)).any p = false := by
  rw [List.take_succ_eq_append_getElem hk, List.any_append, h]
  have e : xs.getD k default = xs[k] := by simp [List.getD, hk]
  rw [e] at h'
  simp [h']
set_option maxRecDepth 100000 in
set_option maxHeartbeats 4000000 in
theorem idxF_any (Fu : FuncId) (p : SLine → Bool) (hcf : ∀ (args : Array Value) (w : World), (callFunc Fu args).run Tryd.prog w = .ok (.enter Fu args) w) (hF : ∀ (x : SLine) (w : World), Calls Tryd.prog Fu #[lineV x] w fun e w' => e = .returned (.bool (p x)) ∧ Below w.heap.size w w')
    (xs : List SLine) (A : Option Addr) (n c B : Nat) (w : World) (hr : Reads w B 6 A n (linesCells xs)) (hB : B ≤ w.heap.size) (hn : n ≤ 10000) :
    Calls Tryd.prog 62 #[.slice A n c, .func (.func Fu) #[] #[]] w (IdxSays p xs w) := by
  have HL := Lib.hid (lines_len hr)
  have HR := Lib.hid hr
  have HF := Lib.hid hF
  clear hr hF
  go_enter Tryd.func62, Tryd.ntmps62
  go_wp2_with fail
  go_loopw [8] (fun i wr => ∃ k : Nat, k ≤ n ∧ i = .int .i64 k ∧ (xs.take k).any p = false ∧ Below w.heap.size w wr) (fun i _ => n - (intOf i).toNat)
  case atStart => exact ⟨0, by omega, rfl, rfl, Below.refl _ _⟩
  case round =>
    obtain ⟨k, hk, rfl, hd, hbr⟩ := hrel
    obtain ⟨wo, rfl⟩ : ∃ wo : World, wo = wr := ⟨_, rfl⟩
    have HD := Lib.hid hd
    clear hd
    by_cases hlt : k < n
    · have k3 : decide ((k : Int) < (n : Int)) = true := by rw [decide_eq_true_eq]; omega
      have hkl : k < xs.length := by rw [HL.out]; exact hlt
      obtain ⟨ad, rfl, hbk, c0, c1, c2, c3, c4, c5⟩ := (HR.out.low hB (Nat.le_refl _) hbr).line_at hlt
      have HY : Hid (p (xs.getD k default) = true → xs.any p = true) := fun h => any_yes hkl h
      have HN : Hid (p (xs.getD k default) = false → (xs.take (k + 1)).any p = false) := fun h => any_step hkl HD.out h
      clear hkl
      generalize xs.getD k default = x at *
      cases hp : p x
      · have F := Lib.hid (HN.out hp)
        have HP := Lib.hid hp
        clear hp HN HY
        go_wp2_with fail
        refine (HF.out x _).mono ?_
        rintro e w1 ⟨rfl, hb⟩
        have hb1 := below_two hbr hb
        rw [HP.out]
        clear c0 c1 c2 c3 c4 c5 hb hbr
        go_wp2_with fail
        exact ⟨⟨k + 1, by omega, by go_num, F.out, hb1⟩, by simp [intOf]; omega⟩
      · have F := Lib.hid (HY.out hp)
        have HP := Lib.hid hp
        clear hp HN HY
        go_wp2_with fail
        refine (HF.out x _).mono ?_
        rintro e w1 ⟨rfl, hb⟩
        have hb1 := below_two hbr hb
        rw [HP.out]
        clear c0 c1 c2 c3 c4 c5 hb hbr
        go_wp2_with fail
        go_ret
        exact ⟨k, rfl, by rw [F.out, decide_eq_true_eq]; omega, hb1⟩
    · have k3 : decide ((k : Int) < (n : Int)) = false := by rw [decide_eq_false_iff_not]; omega
      have hd := HD.out
      rw [List.take_of_length_le (by rw [HL.out]; omega)] at hd
      have F := Lib.hid hd
      clear hd HD
      go_wp2_with fail
      go_ret
      exact ⟨-1, rfl, by rw [F.out]; rfl, hbr⟩
set_option maxRecDepth 100000 in
theorem contF_any (Fu : FuncId) (p : SLine → Bool) (hcf : ∀ (args : Array Value) (w : World), (callFunc Fu args).run Tryd.prog w = .ok (.enter Fu args) w) (hF : ∀ (x : SLine) (w : World), Calls Tryd.prog Fu #[lineV x] w fun e w' => e = .returned (.bool (p x)) ∧ Below w.heap.size w w')
    (xs : List SLine) (A : Option Addr) (n c B : Nat) (w : World) (hr : Reads w B 6 A n (linesCells xs)) (hB : B ≤ w.heap.size) (hn : n ≤ 10000) :
    Calls Tryd.prog 51 #[.slice A n c, .func (.func Fu) #[] #[]] w fun e w' => e = .returned (.bool (xs.any p)) ∧ Below w.heap.size w w' := by
  have HI := Lib.hid (idxF_any Fu p hcf hF xs A n c B w hr hB hn)
  clear hr hcf hF
  go_enter Tryd.func51, Tryd.ntmps51
  go_wp2_with fail
  refine HI.out.mono ?_
  rintro e w1 ⟨r, rfl, hr, hb⟩
  have HRR := Lib.hid hr
  clear hr
  go_wp2_with fail
  go_ret
  exact ⟨ret_bool HRR.out, hb⟩
theorem enter_v1 (args : Array Value) (w : World) : (callFunc 52 args).run Tryd.prog w = .ok (.enter 52 args) w := by
  simp [go_sem]
theorem line_blk {w : World} {g : Nat} {T : TypeId} {a b c d e f : Value} (h : Blk w g T #[a, b, c, d, e, f]) :
    w.cell? ⟨g, 0, none⟩ = some a ∧ w.cell? ⟨g, 1, none⟩ = some b ∧ w.cell? ⟨g, 2, none⟩ = some c ∧ w.cell? ⟨g, 3, none⟩ = some d ∧ w.cell? ⟨g, 4, none⟩ = some e ∧ w.cell? ⟨g, 5, none⟩ = some f :=
  ⟨h.cell 0, h.cell 1, h.cell 2, h.cell 3, h.cell 4, h.cell 5⟩
set_option maxRecDepth 100000 in
set_option maxHeartbeats 4000000 in
theorem valid1_any (x : SLine) (w : World) : Calls Tryd.prog 52 #[lineV x] w fun e w' => e = .returned (.bool (!okLn x)) ∧ Below w.heap.size w w' := by
  obtain ⟨⟨nm, lv, fr, to_, ng⟩, am⟩ := x
  unfold lineV
  simp only []
  have hb0 := (Below.refl w.heap.size w).alloc (Nat.le_refl _) (.cells (#[.string ⟨nm.toArray⟩, .int .i64 lv, .int .i64 fr, .int .i64 to_, .bool ng, .int .i64 am] : Array Value) 51)
  have HB0 := Lib.hid hb0
  have HK := Lib.hid (Blk.new w 51 #[.string ⟨nm.toArray⟩, .int .i64 lv, .int .i64 fr, .int .i64 to_, .bool ng, .int .i64 am])
  clear hb0
  cases ha : okAmt am
  · have F : Hid (okLn ⟨⟨nm, lv, fr, to_, ng⟩, am⟩ = false) := by show _ = _; unfold okLn; rw [ha]; rfl
    have HA := Lib.hid ha
    clear ha
    go_enter Tryd.func52, Tryd.ntmps52
    go_wp2_with fail
    refine (moneyValid_any am _).mono ?_
    rintro e wx ⟨rfl, rfl⟩
    rw [HA.out]
    go_wp2_with fail
    go_ret
    exact ⟨ret_bool (by rw [F.out]; rfl), HB0.out⟩
  · cases ht : isTitle ⟨nm, lv, fr, to_, ng⟩
    · have F : Hid (okLn ⟨⟨nm, lv, fr, to_, ng⟩, am⟩ = true) := by show _ = _; unfold okLn; rw [ha, ht]; rfl
      have HA := Lib.hid ha
      have HT := Lib.hid ht
      clear ha ht
      go_enter Tryd.func52, Tryd.ntmps52
      go_wp2_with fail
      refine (moneyValid_any am _).mono ?_
      rintro e wx ⟨rfl, rfl⟩
      rw [HA.out]
      go_wp2_with fail
      refine (rtitle_any ⟨nm, lv, fr, to_, ng⟩ _).mono ?_
      rintro e w2 ⟨rfl, hb2⟩
      have HB2 := Lib.hid (below_two HB0.out hb2)
      clear hb2
      rw [HT.out]
      go_wp2_with fail
      go_ret
      exact ⟨ret_bool (by rw [F.out]; rfl), HB2.out⟩
    · have F : Hid (okLn ⟨⟨nm, lv, fr, to_, ng⟩, am⟩ = (am == 0)) := by show _ = _; unfold okLn; rw [ha, ht]; rfl
      have HA := Lib.hid ha
      have HT := Lib.hid ht
      clear ha ht
      cases hz : (am == 0)
      all_goals
        have hz' : (am != 0) = !(am == 0) := rfl
        rw [hz] at hz' F
        simp only [Bool.not_true, Bool.not_false] at hz'
        go_enter Tryd.func52, Tryd.ntmps52
        go_wp2_with fail
        refine (moneyValid_any am _).mono ?_
        rintro e wx ⟨rfl, rfl⟩
        rw [HA.out]
        go_wp2_with fail
        refine (rtitle_any ⟨nm, lv, fr, to_, ng⟩ _).mono ?_
        rintro e w2 ⟨rfl, hb2⟩
        have HB2 := Lib.hid (below_two HB0.out hb2)
        obtain ⟨x0, x1, x2, x3, x4, x5⟩ := line_blk (HK.out.below hb2 (by simp))
        clear hb2
        rw [HT.out]
        go_wp2_with fail
        go_ret
        exact ⟨ret_bool (by rw [F.out]; rfl), HB2.out⟩
theorem any_not {xs : List SLine} : (xs.any fun x => !okLn x) = !xs.all okLn := by
  induction xs with
  | nil => rfl
  | cons x r ih => rw [List.any_cons, List.all_cons, ih, Bool.not_and]
set_option maxRecDepth 100000 in
set_option maxHeartbeats 4000000 in
theorem rvalid_any (xs : List SLine) (A : Option Addr) (n c B : Nat) (w : World) (hr : Reads w B 6 A n (linesCells xs)) (hB : B ≤ w.heap.size) (hn : n ≤ 10000) (hnm : ∀ x ∈ xs, x.row.name.length ≤ 3000) :
    Calls Tryd.prog 31 #[.slice A n c] w fun e w' => e = .returned (.bool (validL xs)) ∧ Below w.heap.size w w' := by
  have HL := Lib.hid (lines_len hr)
  have HR := Lib.hid hr
  have HNM : Hid (∀ r ∈ rowsOf xs, r.name.length ≤ 3000) := by
    show ∀ _, _
    intro r h
    obtain ⟨x, hx, rfl⟩ := List.mem_map.1 h
    exact hnm x hx
  have HRW := Lib.hid (rows_any xs A n c B w hr hB hn)
  have HRL : Hid ((rowsOf xs).length = n) := by show _ = _; rw [rowsOf_len, HL.out]
  clear hr hnm
  cases hv : validR (rowsOf xs)
  all_goals
    have HV := Lib.hid hv
    clear hv
    go_enter Tryd.func31, Tryd.ntmps31
    go_wp2_with fail
    refine HRW.out.mono ?_
    rintro e w1 ⟨v, rfl, hown, hb⟩
    obtain ⟨A1, c1, rfl⟩ := own_slice hown
    have hcap := own_cap hown
    have HVA := Lib.hid (valid_any (rowsOf xs) A1 xs.length c1 w1.heap.size w1 (Reads.of_own hown) (Nat.le_refl _) (by rw [HL.out]; omega) hcap HNM.out)
    clear hown hcap
    go_wp2_with fail
    refine HVA.out.mono ?_
    rintro e w2 ⟨rfl, hb2⟩
    have hb3 := below_two hb hb2
    rw [HV.out]
    clear hb hb2
  · have F : Hid (validL xs = false) := by show _ = _; unfold validL; rw [HV.out]; rfl
    go_wp2_with fail
    go_ret
    exact ⟨ret_bool F.out.symm, hb3⟩
  · have F : Hid (validL xs = !(xs.any fun x => !okLn x)) := by show _ = _; unfold validL; rw [HV.out, any_not]; simp
    have HC := Lib.hid (contF_any 52 (fun x => !okLn x) enter_v1 (fun x w => valid1_any x w) xs A n c B w2 (HR.out.low hB (Nat.le_refl _) hb3) (by have := hb3.size; omega) hn)
    go_wp2_with fail
    refine HC.out.mono ?_
    rintro e w4 ⟨rfl, hb4⟩
    have hb5 := below_two hb3 hb4
    clear hb3 hb4
    go_wp2_with fail
    go_ret
    exact ⟨ret_bool F.out.symm, hb5⟩
end Go.Proofs.YtenlbjobjnpghaaDoor
