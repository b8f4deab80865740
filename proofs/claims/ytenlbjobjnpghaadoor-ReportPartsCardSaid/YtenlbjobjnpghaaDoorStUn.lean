/-
  Under, both (XStW9 for seats without Print).
-/
import Derived.Test.YtenlbjobjnpghaaDoorStFew
import Derived.Test.YtenlbjobjnpghaaDoorOwn2
namespace Go.Proofs.YtenlbjobjnpghaaDoor
open Go.RowKit
set_option linter.unusedVariables false
theorem info_int : (Tryd.prog.info? 3).map (fun i => (i.zero, i.size, i.bytes)) = some (some (.int .i64 0), 1, 8) := by kernel_rfl
def runG {α : Type} (p : α → Bool) : List α → Nat
  | [] => 0
  | c :: r => if p c then runG p r + 1 else 0
theorem runG_eq {α : Type} {p : α → Bool} (d : α) : ∀ {l : List α} {k : Nat}, k ≤ l.length → (∀ j, j < k → p (l.getD j d) = true) → (k < l.length → p (l.getD k d) = false) → runG p l = k := by
  intro l
  induction l with
  | nil => intro k h _ _; simp at h; simp [runG, h]
  | cons x r ih =>
    intro k hk ha hs
    cases k with
    | zero =>
      have := hs (by simp)
      simp at this
      simp [runG, this]
    | succ k =>
      have hx : p x = true := by simpa using ha 0 (by omega)
      simp only [runG, if_pos hx]
      have := ih (k := k) (by simpa using hk) (fun j hj => by simpa using ha (j + 1) (by omega)) (fun h => by simpa using hs (by simpa using h))
      omega
theorem runG_le {α : Type} (p : α → Bool) : ∀ l : List α, runG p l ≤ l.length := by
  intro l
  induction l with
  | nil => simp [runG]
  | cons x r ih => simp only [runG, List.length_cons]; split <;> omega
theorem runG_all {α : Type} {p : α → Bool} (d : α) : ∀ {l : List α} {j : Nat}, j < runG p l → p (l.getD j d) = true := by
  intro l
  induction l with
  | nil => intro j h; simp [runG] at h
  | cons x r ih =>
    intro j h
    simp only [runG] at h
    split at h
    · rename_i hx
      cases j with
      | zero => simpa using hx
      | succ j => simpa using ih (j := j) (by omega)
    · omega
theorem runG_ge {α : Type} {p : α → Bool} (d : α) : ∀ {l : List α} {k : Nat}, k ≤ l.length → (∀ j, j < k → p (l.getD j d) = true) → k ≤ runG p l := by
  intro l
  induction l with
  | nil => intro k h _; simp at h; omega
  | cons x r ih =>
    intro k hk ha
    cases k with
    | zero => omega
    | succ k =>
      have hx : p x = true := by simpa using ha 0 (by omega)
      simp only [runG, if_pos hx]
      have := ih (k := k) (by simpa using hk) (fun j hj => by simpa using ha (j + 1) (by omega))
      omega
def lev (rs : List SRow) (j : Nat) : Int := (rs.getD j default).level
/-- how many rows lie under the row q -/
def unN (rs : List SRow) (q : Nat) : Nat := runG (fun r => decide (lev rs q < r.level)) (rs.drop (q + 1))
theorem drop_lev {rs : List SRow} {q j : Nat} : ((rs.drop (q + 1)).getD j default).level = lev rs (q + 1 + j) := by
  unfold lev; simp [List.getD]
theorem unN_eq {rs : List SRow} {q k : Nat} (h1 : q + 1 ≤ k) (h2 : k ≤ rs.length) (ha : ∀ j, q < j → j < k → lev rs q < lev rs j) (hs : k < rs.length → ¬ lev rs q < lev rs k) : unN rs q = k - (q + 1) := by
  unfold unN
  refine runG_eq default (by rw [List.length_drop]; omega) (fun j hj => ?_) (fun h => ?_)
  · rw [decide_eq_true_eq, drop_lev]; exact ha _ (by omega) (by omega)
  · rw [decide_eq_false_iff_not, drop_lev, show q + 1 + (k - (q + 1)) = k by omega]
    exact hs (by rw [List.length_drop] at h; omega)
theorem unN_le (rs : List SRow) (q : Nat) : unN rs q ≤ rs.length - (q + 1) := by
  have := runG_le (fun r => decide (lev rs q < r.level)) (rs.drop (q + 1))
  rwa [List.length_drop] at this
theorem unN_all {rs : List SRow} {q j : Nat} (h : j < unN rs q) : lev rs q < lev rs (q + 1 + j) := by
  have := runG_all default h
  rw [decide_eq_true_eq, drop_lev] at this
  exact this
/-- what lies under a row that lies under q lies under q -/
theorem unN_under {rs : List SRow} {q j : Nat} (h : j < unN rs q) : q + 1 + j + unN rs (q + 1 + j) ≤ q + unN rs q := by
  have h0 := unN_all h
  have hl := unN_le rs q
  have hl2 := unN_le rs (q + 1 + j)
  have hge : j + 1 + unN rs (q + 1 + j) ≤ unN rs q := by
    refine runG_ge default ?_ (fun i hi => ?_)
    · rw [List.length_drop]; omega
    · rw [decide_eq_true_eq, drop_lev]
      by_cases c1 : i < j
      · exact unN_all (by omega)
      · by_cases c2 : i = j
        · subst c2; exact h0
        · have := unN_all (rs := rs) (q := q + 1 + j) (j := i - (j + 1)) (by omega)
          rw [show q + 1 + j + 1 + (i - (j + 1)) = q + 1 + i by omega] at this
          omega
  omega
def unList (q m : Nat) : List Int := (List.range m).map fun j => ((q + 1 + j : Nat) : Int)
theorem unList_len (q m : Nat) : (unList q m).length = m := by simp [unList]
theorem unList_step {q k : Nat} (h : q + 1 ≤ k) : unList q (k + 1 - (q + 1)) = unList q (k - (q + 1)) ++ [(k : Int)] := by
  unfold unList
  rw [show k + 1 - (q + 1) = (k - (q + 1)) + 1 by omega, List.range_succ, List.map_append]
  simp only [List.map_cons, List.map_nil]
  congr 2
  omega
theorem unList_getD {q m k : Nat} (h : k < m) : (unList q m).getD k 0 = ((q + 1 + k : Nat) : Int) := by
  unfold unList
  simp [List.getD, h]
def unE (rs : List SRow) (i : Int) : Int := if validR rs then (if decide (i < 0) || decide ((rs.length : Int) ≤ i) then 2 else 0) else 1
def unM (rs : List SRow) (i : Int) : Nat := if unE rs i = 0 then unN rs i.toNat else 0
theorem unE_bad {rs : List SRow} {i : Int} (h : validR rs = false) : unE rs i = 1 ∧ unM rs i = 0 := by
  have : unE rs i = 1 := by unfold unE; rw [h]; rfl
  exact ⟨this, by unfold unM; rw [this]; rfl⟩
theorem unE_out {rs : List SRow} {i : Int} (h : validR rs = true) (hi : i < 0 ∨ (rs.length : Int) ≤ i) : unE rs i = 2 ∧ unM rs i = 0 := by
  have : unE rs i = 2 := by
    unfold unE
    rw [if_pos h, if_pos]
    rcases hi with hi | hi
    · rw [decide_eq_true hi]; rfl
    · rw [decide_eq_true hi, Bool.or_true]
  exact ⟨this, by unfold unM; rw [this]; rfl⟩
theorem unE_ok {rs : List SRow} {q : Nat} (h : validR rs = true) (hq : q < rs.length) : unE rs q = 0 ∧ unM rs q = unN rs q := by
  have : unE rs q = 0 := by
    unfold unE
    rw [if_pos h, decide_eq_false (show ¬ (q : Int) < 0 by omega), decide_eq_false (show ¬ (rs.length : Int) ≤ q by omega)]
    rfl
  exact ⟨this, by unfold unM; rw [this, if_pos rfl]; rfl⟩
def UnderSays (rs : List SRow) (i : Int) (w : World) (e : Ending) (w' : World) : Prop :=
  ∃ v, e = .returned (.tuple #[v, .int .i64 (unE rs i)]) ∧ w'.ownsRow w.heap.size 3 1 v (unM rs i) ((unList i.toNat (unM rs i)).map (Value.int .i64)) ∧ Below w.heap.size w w'
theorem under_none {rs : List SRow} {i x : Int} {w w' : World} (h : unE rs i = x ∧ unM rs i = 0) (hb : Below w.heap.size w w') : UnderSays rs i w (.returned (.tuple #[.slice none 0 0, .int .i64 x])) w' := by
  refine ⟨.slice none 0 0, by rw [h.1], ?_, hb⟩
  rw [h.2]
  exact World.ownsRow_nil _ _ _ _
theorem under_some {rs : List SRow} {q m : Nat} {w w' : World} {v : Value} (h : unE rs q = 0 ∧ unM rs q = unN rs q) (hm : unN rs q = m) (hown : w'.ownsRow w.heap.size 3 1 v m ((unList q m).map (Value.int .i64))) (hb : Below w.heap.size w w') : UnderSays rs q w (.returned (.tuple #[v, .int .i64 0])) w' := by
  refine ⟨v, by rw [h.1], ?_, hb⟩
  rw [h.2, hm]
  exact hown
theorem ints_one (zs : List Int) : ∀ u ∈ zs.map (Value.int .i64), u.oneCell' = true := by
  intro u hu
  obtain ⟨z, _, rfl⟩ := List.mem_map.1 hu
  rfl
theorem tup_v {v : Value} {x y : Int} (h : x = y) : Ending.returned (.tuple #[v, .int .i64 x]) = .returned (.tuple #[v, .int .i64 y]) := by rw [h]
set_option maxRecDepth 100000 in
set_option maxHeartbeats 4000000 in
theorem under_any (rs : List SRow) (A : Option Addr) (n c : Nat) (i : Int) (B : Nat) (w : World) (hr : Reads w B 5 A n (rowsCells rs)) (hB : B ≤ w.heap.size) (hn63 : n ≤ 9223372036854775807) (hnc : n ≤ c) (hnm : ∀ r ∈ rs, r.name.length ≤ 3000) :
    Calls Tryd.prog 46 #[.slice A n c, .int .i64 i] w (UnderSays rs i w) := by
  obtain ⟨i0, hi0, hz0, hz1, hz2⟩ := info_parts info_int
  have HL := Lib.hid (rows_len hr)
  have HR := Lib.hid hr
  have HV := Lib.hid (valid_any rs A n c B w hr hB hn63 hnc hnm)
  clear hr hnm
  cases hv : validR rs
  · have F := Lib.hid (unE_bad (i := i) hv)
    have HVF := Lib.hid hv
    clear hv
    go_enter Tryd.func46, Tryd.ntmps46
    go_wp2_with fail
    refine HV.out.mono ?_
    rintro e w1 ⟨rfl, hb⟩
    rw [HVF.out]
    go_wp2_with fail
    go_ret2
    exact under_none F.out hb
  by_cases hi0' : i < 0
  · have F := Lib.hid (unE_out hv (.inl hi0'))
    have HVF := Lib.hid hv
    have d1 : decide (i < 0) = true := by rw [decide_eq_true_eq]; exact hi0'
    clear hv
    go_enter Tryd.func46, Tryd.ntmps46
    go_wp2_with fail
    refine HV.out.mono ?_
    rintro e w1 ⟨rfl, hb⟩
    rw [HVF.out]
    go_wp2_with fail
    go_ret2
    exact under_none F.out hb
  have d1 : decide (i < 0) = false := by rw [decide_eq_false_iff_not]; exact hi0'
  by_cases hin : (n : Int) ≤ i
  · have F := Lib.hid (unE_out hv (.inr (by rw [HL.out]; exact hin)))
    have HVF := Lib.hid hv
    have d2 : decide ((n : Int) ≤ i) = true := by rw [decide_eq_true_eq]; exact hin
    clear hv
    go_enter Tryd.func46, Tryd.ntmps46
    go_wp2_with fail
    refine HV.out.mono ?_
    rintro e w1 ⟨rfl, hb⟩
    rw [HVF.out]
    go_wp2_with fail
    go_ret2
    exact under_none F.out hb
  obtain ⟨q, rfl⟩ : ∃ q : Nat, i = q := ⟨i.toNat, by omega⟩
  have d2 : decide ((n : Int) ≤ (q : Int)) = false := by rw [decide_eq_false_iff_not]; exact hin
  have d2' : decide (n ≤ q) = false := by rw [decide_eq_false_iff_not]; omega
  have hq : q < n := by omega
  have hn3 : n ≤ 300 := by have := validR_len hv; have := HL.out; omega
  have F := Lib.hid (unE_ok hv (show q < rs.length by rw [HL.out]; exact hq))
  have HVF := Lib.hid hv
  clear hv hi0' hin
  go_enter Tryd.func46, Tryd.ntmps46
  go_wp2_with fail
  refine HV.out.mono ?_
  rintro e w1 ⟨rfl, hb⟩
  rw [HVF.out]
  have HB1 := Lib.hid hb
  clear hb
  go_wp2_with fail
  go_loopw [6, 7] (fun v i wr => ∃ k : Nat, q + 1 ≤ k ∧ k ≤ n ∧ i = .int .i64 k ∧ (∀ j, q < j → j < k → lev rs q < lev rs j) ∧ wr.ownsRow w.heap.size 3 1 v (k - (q + 1)) ((unList q (k - (q + 1))).map (Value.int .i64)) ∧ Below w.heap.size w wr) (fun _ i _ => n - (intOf i).toNat)
  case atStart => exact ⟨q + 1, Nat.le_refl _, hq, by go_num, fun j h1 h2 => by omega, by rw [Nat.sub_self]; exact World.ownsRow_nil _ _ _ _, HB1.out⟩
  case round =>
    obtain ⟨k, hk1, hk2, rfl, hal, hown, hbr⟩ := hrel
    obtain ⟨wo, rfl⟩ : ∃ wo : World, wo = wr := ⟨_, rfl⟩
    have HAL := Lib.hid hal
    have HO := Lib.hid hown
    clear hal hown
    by_cases hlt : k < n
    · have k3 : decide ((k : Int) < (n : Int)) = true := by rw [decide_eq_true_eq]; omega
      have hrw := HR.out.low hB (Nat.le_refl _) hbr
      obtain ⟨ad, rfl, hab, _, c1, _, _, _⟩ := hrw.row_at hlt
      obtain ⟨ad', e', hab', _, e1, _, _, _⟩ := hrw.row_at hq
      injection e' with e'
      subst e'
      rw [show (rs.getD k default).level = lev rs k from rfl] at c1
      rw [show (rs.getD q default).level = lev rs q from rfl] at e1
      have b1 : (k : Int) < (n : Int) := by omega
      have b2 : (q : Int) < (n : Int) := by omega
      have b3 : (0 : Int) ≤ (k : Int) := by omega
      have b4 : (0 : Int) ≤ (q : Int) := by omega
      clear hrw
      by_cases hgt : lev rs q < lev rs k
      · have d3 : decide (lev rs q < lev rs k) = true := by rw [decide_eq_true_eq]; exact hgt
        have G : Hid (∀ j, q < j → j < k + 1 → lev rs q < lev rs j) := by
          show ∀ _, _
          intro j h1 h2
          by_cases hj : j = k
          · rw [hj]; exact hgt
          · exact HAL.out j h1 (by omega)
        have US := Lib.hid (unList_step hk1)
        clear hgt
        generalize lev rs q = x at *
        generalize lev rs k = y at *
        go_wp2_with fail
        go_quiet (fail)
        have hbq := below_drewN hbr nq
        have hoq : (wo.drewN nq).ownsRow w.heap.size 3 1 _ (k - (q + 1)) ((unList q (k - (q + 1))).map (Value.int .i64)) := own_below HO.out (below_drewN (Below.refl _ _) nq)
        have HOQ := Lib.hid hoq
        clear hoq hbr c1 e1
        generalize wo.drewN nq = wz at *
        go_wp2_with (at_builtin; refine wpList_append_any _ rfl (.tmp 42) (.tmp 44) _ rfl w.heap.size 3 i0 _ 1 8 Tryd.underlying53 hi0 hz0 hz1 hz2 rfl (by omega) _ (k - (q + 1)) _ rfl (HOQ.out.alloc _) (wz.heap.size + 1) (some ⟨wz.heap.size, 0, none⟩) 1 1 [.int .i64 k] rfl (reads_lit wz #[.int .i64 k] _) (ints_one [(k : Int)]) (by simp only [maxLen]; omega) (by omega) (by simp only [World.size_alloc]; have := hbq.size; omega) ?_; intro v3 w3 hown3 hg3 hat3)
        refine ⟨⟨k + 1, by omega, by omega, by go_num, G.out, ?_, (hbq.alloc hbq.size _).grown hg3 (by simp only [World.size_alloc]; have := hbq.size; omega) (own_base HOQ.out)⟩, by simp [intOf]; omega⟩
        rw [US.out, List.map_append, show k + 1 - (q + 1) = k - (q + 1) + 1 by omega]
        exact hown3
      · have d3 : decide (lev rs q < lev rs k) = false := by rw [decide_eq_false_iff_not]; exact hgt
        have G := Lib.hid (unN_eq hk1 (by rw [HL.out]; exact hk2) HAL.out (fun _ => hgt))
        clear hgt
        generalize lev rs q = x at *
        generalize lev rs k = y at *
        go_wp2_with fail
        go_quiet (fail)
        have hbq := below_drewN hbr nq
        have HOQ : Hid ((wo.drewN nq).ownsRow w.heap.size 3 1 _ (k - (q + 1)) ((unList q (k - (q + 1))).map (Value.int .i64))) := own_below HO.out (below_drewN (Below.refl _ _) nq)
        clear hbr c1 e1
        generalize wo.drewN nq = wz at *
        go_wp2_with fail
        go_ret2
        exact under_some F.out G.out HOQ.out hbq
    · have k3 : decide ((k : Int) < (n : Int)) = false := by rw [decide_eq_false_iff_not]; omega
      have G := Lib.hid (unN_eq hk1 (by rw [HL.out]; exact hk2) HAL.out (fun h => absurd h (by rw [HL.out]; exact hlt)))
      go_wp2_with fail
      go_quiet (fail)
      have hbq := below_drewN hbr nq
      have HOQ : Hid ((wo.drewN nq).ownsRow w.heap.size 3 1 _ (k - (q + 1)) ((unList q (k - (q + 1))).map (Value.int .i64))) := own_below HO.out (below_drewN (Below.refl _ _) nq)
      clear hbr
      generalize wo.drewN nq = wz at *
      go_wp2_with fail
      go_ret2
      exact under_some F.out G.out HOQ.out hbq
set_option maxRecDepth 100000 in
set_option maxHeartbeats 4000000 in
theorem refUnder_any (rs : List SRow) (A : Option Addr) (n c : Nat) (i : Int) (B : Nat) (w : World) (hr : Reads w B 5 A n (rowsCells rs)) (hB : B ≤ w.heap.size) (hn63 : n ≤ 9223372036854775807) (hnm : ∀ r ∈ rs, r.name.length ≤ 3000) :
    Calls Tryd.prog 48 #[.slice A n c, .int .i64 i] w (UnderSays rs i w) := by
  obtain ⟨i0, hi0, hz0, hz1, hz2⟩ := info_parts info_int
  have HL := Lib.hid (rows_len hr)
  have HR := Lib.hid hr
  have HV := Lib.hid (refValid_any rs A n c B w hr hB hn63 hnm)
  clear hr hnm
  cases hv : validR rs
  · have F := Lib.hid (unE_bad (i := i) hv)
    have HVF := Lib.hid hv
    clear hv
    go_enter Tryd.func48, Tryd.ntmps48
    go_wp2_with fail
    refine HV.out.mono ?_
    rintro e w1 ⟨rfl, hb⟩
    rw [HVF.out]
    go_wp2_with fail
    go_ret2
    exact under_none F.out hb
  by_cases hi0' : i < 0
  · have F := Lib.hid (unE_out hv (.inl hi0'))
    have HVF := Lib.hid hv
    have d1 : decide (i < 0) = true := by rw [decide_eq_true_eq]; exact hi0'
    clear hv
    go_enter Tryd.func48, Tryd.ntmps48
    go_wp2_with fail
    refine HV.out.mono ?_
    rintro e w1 ⟨rfl, hb⟩
    rw [HVF.out]
    go_wp2_with fail
    go_ret2
    exact under_none F.out hb
  have d1 : decide (i < 0) = false := by rw [decide_eq_false_iff_not]; exact hi0'
  by_cases hin : (n : Int) ≤ i
  · have F := Lib.hid (unE_out hv (.inr (by rw [HL.out]; exact hin)))
    have HVF := Lib.hid hv
    have d2 : decide ((n : Int) ≤ i) = true := by rw [decide_eq_true_eq]; exact hin
    clear hv
    go_enter Tryd.func48, Tryd.ntmps48
    go_wp2_with fail
    refine HV.out.mono ?_
    rintro e w1 ⟨rfl, hb⟩
    rw [HVF.out]
    go_wp2_with fail
    go_ret2
    exact under_none F.out hb
  obtain ⟨q, rfl⟩ : ∃ q : Nat, i = q := ⟨i.toNat, by omega⟩
  have d2 : decide ((n : Int) ≤ (q : Int)) = false := by rw [decide_eq_false_iff_not]; exact hin
  have d2' : decide (n ≤ q) = false := by rw [decide_eq_false_iff_not]; omega
  have hq : q < n := by omega
  have hn3 : n ≤ 300 := by have := validR_len hv; have := HL.out; omega
  have F := Lib.hid (unE_ok hv (show q < rs.length by rw [HL.out]; exact hq))
  have HVF := Lib.hid hv
  clear hv hi0' hin
  go_enter Tryd.func48, Tryd.ntmps48
  go_wp2_with fail
  refine HV.out.mono ?_
  rintro e w1 ⟨rfl, hb⟩
  rw [HVF.out]
  have HB1 := Lib.hid hb
  clear hb
  go_wp2_with fail
  go_loopw [6, 7] (fun v i wr => ∃ k : Nat, q + 1 ≤ k ∧ k ≤ n ∧ i = .int .i64 k ∧ (∀ j, q < j → j < k → lev rs q < lev rs j) ∧ wr.ownsRow w.heap.size 3 1 v (k - (q + 1)) ((unList q (k - (q + 1))).map (Value.int .i64)) ∧ Below w.heap.size w wr) (fun _ i _ => n - (intOf i).toNat)
  case atStart => exact ⟨q + 1, Nat.le_refl _, hq, by go_num, fun j h1 h2 => by omega, by rw [Nat.sub_self]; exact World.ownsRow_nil _ _ _ _, HB1.out⟩
  case round =>
    obtain ⟨k, hk1, hk2, rfl, hal, hown, hbr⟩ := hrel
    obtain ⟨wo, rfl⟩ : ∃ wo : World, wo = wr := ⟨_, rfl⟩
    have HAL := Lib.hid hal
    have HO := Lib.hid hown
    clear hal hown
    by_cases hlt : k < n
    · have k3 : decide ((k : Int) < (n : Int)) = true := by rw [decide_eq_true_eq]; omega
      have hrw := HR.out.low hB (Nat.le_refl _) hbr
      obtain ⟨ad, rfl, hab, _, c1, _, _, _⟩ := hrw.row_at hlt
      obtain ⟨ad', e', hab', _, e1, _, _, _⟩ := hrw.row_at hq
      injection e' with e'
      subst e'
      rw [show (rs.getD k default).level = lev rs k from rfl] at c1
      rw [show (rs.getD q default).level = lev rs q from rfl] at e1
      have b1 : (k : Int) < (n : Int) := by omega
      have b2 : (q : Int) < (n : Int) := by omega
      have b3 : (0 : Int) ≤ (k : Int) := by omega
      have b4 : (0 : Int) ≤ (q : Int) := by omega
      clear hrw
      by_cases hgt : lev rs q < lev rs k
      · have d3 : decide (lev rs q < lev rs k) = true := by rw [decide_eq_true_eq]; exact hgt
        have G : Hid (∀ j, q < j → j < k + 1 → lev rs q < lev rs j) := by
          show ∀ _, _
          intro j h1 h2
          by_cases hj : j = k
          · rw [hj]; exact hgt
          · exact HAL.out j h1 (by omega)
        have US := Lib.hid (unList_step hk1)
        clear hgt
        generalize lev rs q = x at *
        generalize lev rs k = y at *
        go_wp2_with fail
        go_quiet (fail)
        have hbq := below_drewN hbr nq
        have hoq : (wo.drewN nq).ownsRow w.heap.size 3 1 _ (k - (q + 1)) ((unList q (k - (q + 1))).map (Value.int .i64)) := own_below HO.out (below_drewN (Below.refl _ _) nq)
        have HOQ := Lib.hid hoq
        clear hoq hbr c1 e1
        generalize wo.drewN nq = wz at *
        go_wp2_with (at_builtin; refine wpList_append_any _ rfl (.tmp 40) (.tmp 42) _ rfl w.heap.size 3 i0 _ 1 8 Tryd.underlying53 hi0 hz0 hz1 hz2 rfl (by omega) _ (k - (q + 1)) _ rfl (HOQ.out.alloc _) (wz.heap.size + 1) (some ⟨wz.heap.size, 0, none⟩) 1 1 [.int .i64 k] rfl (reads_lit wz #[.int .i64 k] _) (ints_one [(k : Int)]) (by simp only [maxLen]; omega) (by omega) (by simp only [World.size_alloc]; have := hbq.size; omega) ?_; intro v3 w3 hown3 hg3 hat3)
        refine ⟨⟨k + 1, by omega, by omega, by go_num, G.out, ?_, (hbq.alloc hbq.size _).grown hg3 (by simp only [World.size_alloc]; have := hbq.size; omega) (own_base HOQ.out)⟩, by simp [intOf]; omega⟩
        rw [US.out, List.map_append, show k + 1 - (q + 1) = k - (q + 1) + 1 by omega]
        exact hown3
      · have d3 : decide (lev rs q < lev rs k) = false := by rw [decide_eq_false_iff_not]; exact hgt
        have G := Lib.hid (unN_eq hk1 (by rw [HL.out]; exact hk2) HAL.out (fun _ => hgt))
        clear hgt
        generalize lev rs q = x at *
        generalize lev rs k = y at *
        go_wp2_with fail
        go_quiet (fail)
        have hbq := below_drewN hbr nq
        have HOQ : Hid ((wo.drewN nq).ownsRow w.heap.size 3 1 _ (k - (q + 1)) ((unList q (k - (q + 1))).map (Value.int .i64))) := own_below HO.out (below_drewN (Below.refl _ _) nq)
        clear hbr c1 e1
        generalize wo.drewN nq = wz at *
        go_wp2_with fail
        go_ret2
        exact under_some F.out G.out HOQ.out hbq
    · have k3 : decide ((k : Int) < (n : Int)) = false := by rw [decide_eq_false_iff_not]; omega
      have G := Lib.hid (unN_eq hk1 (by rw [HL.out]; exact hk2) HAL.out (fun h => absurd h (by rw [HL.out]; exact hlt)))
      go_wp2_with fail
      go_quiet (fail)
      have hbq := below_drewN hbr nq
      have HOQ : Hid ((wo.drewN nq).ownsRow w.heap.size 3 1 _ (k - (q + 1)) ((unList q (k - (q + 1))).map (Value.int .i64))) := own_below HO.out (below_drewN (Below.refl _ _) nq)
      clear hbr
      generalize wo.drewN nq = wz at *
      go_wp2_with fail
      go_ret2
      exact under_some F.out G.out HOQ.out hbq
end Go.Proofs.YtenlbjobjnpghaaDoor
