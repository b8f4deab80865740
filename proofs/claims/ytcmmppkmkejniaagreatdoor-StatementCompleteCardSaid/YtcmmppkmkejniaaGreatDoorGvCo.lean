/-
  slices.ContainsFunc over accounts and over links; the two closures.
-/
import Derived.Test.YtcmmppkmkejniaaGreatDoorGvTx
import Derived.Test.YtcmmppkmkejniaaGreatDoorMpK
namespace Go.Proofs.YtcmmppkmkejniaaGreatDoor
open Go.RowKit
set_option linter.unusedVariables false
theorem anyX_yes {α : Type} [Inhabited α] {p : α → Bool} {xs : List α} {k : Nat} (hk : k < xs.length) (h : p (xs.getD k default) = true) : xs.any p = true :=
  List.any_eq_true.2 ⟨_, by simp [List.getD, hk], h⟩
theorem anyX_step {α : Type} [Inhabited α] {p : α → Bool} {xs : List α} {k : Nat} (hk : k < xs.length) (h : (xs.take k).any p = false) (h' : p (xs.getD k default) = false) : (xs.take (k + 1)).any p = false := by
  rw [List.take_succ_eq_append_getElem hk, List.any_append, h]
  have e : xs.getD k default = xs[k] := by simp [List.getD, hk]
  rw [e] at h'
  simp [h']
/-- where a test is met -/
def IdxA (p : SAcc → Bool) (xs : List SAcc) (w : World) (e : Ending) (w' : World) : Prop := ∃ r : Int, e = .returned (.int .i64 r) ∧ decide (0 ≤ r) = xs.any p ∧ Below w.heap.size w w'
set_option maxRecDepth 100000 in
set_option maxHeartbeats 4000000 in
theorem idxA_any (Fu : FuncId) (bnd : Array Value) (p : SAcc → Bool) (J : World → Prop) (hcf : ∀ (args : Array Value) (w : World), (callFunc Fu args).run Tryz.prog w = .ok (.enter Fu args) w) (hJ : ∀ w w', J w → Below w.heap.size w w' → J w') (xs : List SAcc)
    (hF : ∀ x ∈ xs, ∀ w : World, J w → Calls Tryz.prog Fu (#[accV x] ++ bnd) w fun e w' => e = .returned (.bool (p x)) ∧ Below w.heap.size w w')
    (A : Option Addr) (n c B : Nat) (w : World) (hr : Reads w B 4 A n (accsC xs)) (hB : B ≤ w.heap.size) (hn : n ≤ 9223372036854775807) (hw : J w) :
    Calls Tryz.prog 108 #[.slice A n c, .func (.func Fu) #[] bnd] w (IdxA p xs w) := by
  have HL := Lib.hid (accs_len hr)
  have HR := Lib.hid hr
  have HF := Lib.hid hF
  have HJ := Lib.hid hJ
  have HW := Lib.hid hw
  clear hr hF hJ hw
  go_enter Tryz.func108, Tryz.ntmps108
  go_wp2_with fail
  go_loopw [8] (fun i wr => ∃ k : Nat, k ≤ n ∧ i = .int .i64 k ∧ (xs.take k).any p = false ∧ Below w.heap.size w wr) (fun i _ => n - (intOf i).toNat)
  case atStart => exact ⟨0, by omega, rfl, rfl, Below.refl _ _⟩
  case round =>
    obtain ⟨k, hk, rfl, hd, hbr⟩ := hrel
    obtain ⟨wo, rfl⟩ : ∃ wo : World, wo = wr := ⟨_, rfl⟩
    have HD := Lib.hid hd
    clear hd
    by_cases hlt : k < n
    · have k3 : decide ((k : Int) < (n : Int)) = true := by rw [decide_eq_true_eq]; omega
      have hkl : k < xs.length := by rw [HL.out]; exact hlt
      obtain ⟨ad, rfl, hbk, c0, c1, c2, c3⟩ := (HR.out.lowg hB (Nat.le_refl _) hbr).acc_at hlt
      have HY : Hid (p (xs.getD k default) = true → xs.any p = true) := fun h => anyX_yes hkl h
      have HN : Hid (p (xs.getD k default) = false → (xs.take (k + 1)).any p = false) := fun h => anyX_step hkl HD.out h
      have HX := Lib.hid (HF.out (xs.getD k default) (by simp [List.getD, hkl]) wo (HJ.out _ _ HW.out hbr))
      clear hkl
      generalize xs.getD k default = x at *
      obtain ⟨x0, x1, x2, x3⟩ := x
      unfold accV at HX
      simp only [] at c0 c1 c2 c3 HY HN HX
      cases hp : p ⟨x0, x1, x2, x3⟩
      all_goals
        have HP := Lib.hid hp
        go_wp2_with fail
        refine HX.out.mono ?_
        rintro e w1 ⟨rfl, hb⟩
        have hb1 := below_two hbr hb
        rw [HP.out]
        clear c0 c1 c2 c3 hb hbr
      · have F := Lib.hid (HN.out hp)
        clear hp HN HY
        go_wp2_with fail
        exact ⟨⟨k + 1, by omega, by go_num, F.out, hb1⟩, by simp [intOf]; omega⟩
      · have F := Lib.hid (HY.out hp)
        clear hp HN HY
        go_wp2_with fail
        go_ret
        exact ⟨k, rfl, by rw [F.out, decide_eq_true_eq]; omega, hb1⟩
    · have k3 : decide ((k : Int) < (n : Int)) = false := by rw [decide_eq_false_iff_not]; omega
      have hd := HD.out
      rw [List.take_of_length_le (by rw [HL.out]; omega)] at hd
      have F := Lib.hid hd
      clear hd HD
      go_wp2_with fail
      go_ret
      exact ⟨-1, rfl, by rw [F.out]; rfl, hbr⟩
set_option maxRecDepth 100000 in
theorem contA_any (Fu : FuncId) (bnd : Array Value) (p : SAcc → Bool) (J : World → Prop) (hcf : ∀ (args : Array Value) (w : World), (callFunc Fu args).run Tryz.prog w = .ok (.enter Fu args) w) (hJ : ∀ w w', J w → Below w.heap.size w w' → J w') (xs : List SAcc)
    (hF : ∀ x ∈ xs, ∀ w : World, J w → Calls Tryz.prog Fu (#[accV x] ++ bnd) w fun e w' => e = .returned (.bool (p x)) ∧ Below w.heap.size w w')
    (A : Option Addr) (n c B : Nat) (w : World) (hr : Reads w B 4 A n (accsC xs)) (hB : B ≤ w.heap.size) (hn : n ≤ 9223372036854775807) (hw : J w) :
    Calls Tryz.prog 82 #[.slice A n c, .func (.func Fu) #[] bnd] w fun e w' => e = .returned (.bool (xs.any p)) ∧ Below w.heap.size w w' := by
  have HI := Lib.hid (idxA_any Fu bnd p J hcf hJ xs hF A n c B w hr hB hn hw)
  clear hr hcf hF hJ hw
  go_enter Tryz.func82, Tryz.ntmps82
  go_wp2_with fail
  refine HI.out.mono ?_
  rintro e w1 ⟨r, rfl, hr, hb⟩
  have HRR := Lib.hid hr
  clear hr
  go_wp2_with fail
  go_ret
  exact ⟨ret_bool HRR.out, hb⟩
/-- where a test is met -/
def IdxL (p : SLink → Bool) (xs : List SLink) (w : World) (e : Ending) (w' : World) : Prop := ∃ r : Int, e = .returned (.int .i64 r) ∧ decide (0 ≤ r) = xs.any p ∧ Below w.heap.size w w'
set_option maxRecDepth 100000 in
set_option maxHeartbeats 4000000 in
theorem idxL_any (Fu : FuncId) (bnd : Array Value) (p : SLink → Bool) (J : World → Prop) (hcf : ∀ (args : Array Value) (w : World), (callFunc Fu args).run Tryz.prog w = .ok (.enter Fu args) w) (hJ : ∀ w w', J w → Below w.heap.size w w' → J w') (xs : List SLink)
    (hF : ∀ x ∈ xs, ∀ w : World, J w → Calls Tryz.prog Fu (#[linkV x] ++ bnd) w fun e w' => e = .returned (.bool (p x)) ∧ Below w.heap.size w w')
    (A : Option Addr) (n c B : Nat) (w : World) (hr : Reads w B 3 A n (linksC xs)) (hB : B ≤ w.heap.size) (hn : n ≤ 9223372036854775807) (hw : J w) :
    Calls Tryz.prog 111 #[.slice A n c, .func (.func Fu) #[] bnd] w (IdxL p xs w) := by
  have HL := Lib.hid (links_len hr)
  have HR := Lib.hid hr
  have HF := Lib.hid hF
  have HJ := Lib.hid hJ
  have HW := Lib.hid hw
  clear hr hF hJ hw
  go_enter Tryz.func111, Tryz.ntmps111
  go_wp2_with fail
  go_loopw [8] (fun i wr => ∃ k : Nat, k ≤ n ∧ i = .int .i64 k ∧ (xs.take k).any p = false ∧ Below w.heap.size w wr) (fun i _ => n - (intOf i).toNat)
  case atStart => exact ⟨0, by omega, rfl, rfl, Below.refl _ _⟩
  case round =>
    obtain ⟨k, hk, rfl, hd, hbr⟩ := hrel
    obtain ⟨wo, rfl⟩ : ∃ wo : World, wo = wr := ⟨_, rfl⟩
    have HD := Lib.hid hd
    clear hd
    by_cases hlt : k < n
    · have k3 : decide ((k : Int) < (n : Int)) = true := by rw [decide_eq_true_eq]; omega
      have hkl : k < xs.length := by rw [HL.out]; exact hlt
      obtain ⟨ad, rfl, hbk, c0, c1, c2⟩ := (HR.out.lowg hB (Nat.le_refl _) hbr).link_at hlt
      have HY : Hid (p (xs.getD k default) = true → xs.any p = true) := fun h => anyX_yes hkl h
      have HN : Hid (p (xs.getD k default) = false → (xs.take (k + 1)).any p = false) := fun h => anyX_step hkl HD.out h
      have HX := Lib.hid (HF.out (xs.getD k default) (by simp [List.getD, hkl]) wo (HJ.out _ _ HW.out hbr))
      clear hkl
      generalize xs.getD k default = x at *
      obtain ⟨x0, x1, x2⟩ := x
      unfold linkV at HX
      simp only [] at c0 c1 c2 HY HN HX
      cases hp : p ⟨x0, x1, x2⟩
      all_goals
        have HP := Lib.hid hp
        go_wp2_with fail
        refine HX.out.mono ?_
        rintro e w1 ⟨rfl, hb⟩
        have hb1 := below_two hbr hb
        rw [HP.out]
        clear c0 c1 c2 hb hbr
      · have F := Lib.hid (HN.out hp)
        clear hp HN HY
        go_wp2_with fail
        exact ⟨⟨k + 1, by omega, by go_num, F.out, hb1⟩, by simp [intOf]; omega⟩
      · have F := Lib.hid (HY.out hp)
        clear hp HN HY
        go_wp2_with fail
        go_ret
        exact ⟨k, rfl, by rw [F.out, decide_eq_true_eq]; omega, hb1⟩
    · have k3 : decide ((k : Int) < (n : Int)) = false := by rw [decide_eq_false_iff_not]; omega
      have hd := HD.out
      rw [List.take_of_length_le (by rw [HL.out]; omega)] at hd
      have F := Lib.hid hd
      clear hd HD
      go_wp2_with fail
      go_ret
      exact ⟨-1, rfl, by rw [F.out]; rfl, hbr⟩
set_option maxRecDepth 100000 in
theorem contL_any (Fu : FuncId) (bnd : Array Value) (p : SLink → Bool) (J : World → Prop) (hcf : ∀ (args : Array Value) (w : World), (callFunc Fu args).run Tryz.prog w = .ok (.enter Fu args) w) (hJ : ∀ w w', J w → Below w.heap.size w w' → J w') (xs : List SLink)
    (hF : ∀ x ∈ xs, ∀ w : World, J w → Calls Tryz.prog Fu (#[linkV x] ++ bnd) w fun e w' => e = .returned (.bool (p x)) ∧ Below w.heap.size w w')
    (A : Option Addr) (n c B : Nat) (w : World) (hr : Reads w B 3 A n (linksC xs)) (hB : B ≤ w.heap.size) (hn : n ≤ 9223372036854775807) (hw : J w) :
    Calls Tryz.prog 89 #[.slice A n c, .func (.func Fu) #[] bnd] w fun e w' => e = .returned (.bool (xs.any p)) ∧ Below w.heap.size w w' := by
  have HI := Lib.hid (idxL_any Fu bnd p J hcf hJ xs hF A n c B w hr hB hn hw)
  clear hr hcf hF hJ hw
  go_enter Tryz.func89, Tryz.ntmps89
  go_wp2_with fail
  refine HI.out.mono ?_
  rintro e w1 ⟨r, rfl, hr, hb⟩
  have HRR := Lib.hid hr
  clear hr
  go_wp2_with fail
  go_ret
  exact ⟨ret_bool HRR.out, hb⟩
theorem enter_acc1 (args : Array Value) (w : World) : (callFunc 83 args).run Tryz.prog w = .ok (.enter 83 args) w := by
  simp [go_sem]
theorem enter_ent1 (args : Array Value) (w : World) : (callFunc 90 args).run Tryz.prog w = .ok (.enter 90 args) w := by
  simp [go_sem]
set_option maxRecDepth 100000 in
theorem acc1_any (a : SAcc) (w : World) : Calls Tryz.prog 83 #[accV a] w fun e w' => e = .returned (.bool (!basedB a)) ∧ Below w.heap.size w w' := by
  obtain ⟨x0, x1, x2, x3⟩ := a
  have HBA : Hid (∀ w : World, Calls Tryz.prog 84 #[.agg #[.int .i64 x0, .int .i64 x1, .int .i64 x2, .int .i64 x3]] w fun e w' => e = .returned (.bool (basedB ⟨x0, x1, x2, x3⟩)) ∧ Below w.heap.size w w') := fun w => based_any ⟨x0, x1, x2, x3⟩ w
  unfold accV
  simp only []
  have HB0 := Lib.hid ((Below.refl w.heap.size w).alloc (Nat.le_refl _) (.cells #[.int .i64 x0, .int .i64 x1, .int .i64 x2, .int .i64 x3] 42))
  generalize basedB ⟨x0, x1, x2, x3⟩ = b at *
  go_enter Tryz.func83, Tryz.ntmps83
  go_wp2_with fail
  refine (HBA.out _).mono ?_
  rintro e w1 ⟨rfl, hb1⟩
  have HB1 := Lib.hid (below_two HB0.out hb1)
  clear hb1
  go_wp2_with fail
  go_ret
  exact ⟨rfl, HB1.out⟩
/-- a box that holds a map of numbers -/
def BoxM (g mb : Nat) (m : List (Int × Bool)) (w : World) : Prop := Blk w g 132 #[.map (some mb)] ∧ MapB MI w mb m
theorem BoxM.below {g mb : Nat} {m : List (Int × Bool)} {w w' : World} (h : BoxM g mb m w) (hb : Below w.heap.size w w') : BoxM g mb m w' := ⟨h.1.below hb h.1.lt, h.2.below hb h.2.lt⟩
set_option maxRecDepth 100000 in
theorem ent1_any (x : SLink) (g mb : Nat) (m : List (Int × Bool)) (w : World) (hx : LinkOk x) (hb : BoxM g mb m w) : Calls Tryz.prog 90 #[linkV x, .pointer (some ⟨g, 0, none⟩)] w fun e w' => e = .returned (.bool (getB m x.to_)) ∧ Below w.heap.size w w' := by
  obtain ⟨x0, x1, x2⟩ := x
  unfold linkV
  simp only []
  have HB0 := Lib.hid ((Below.refl w.heap.size w).alloc (Nat.le_refl _) (.cells #[.int .i64 x0, .int .i64 x1, .int .i64 x2] 99))
  have hgl := hb.1.lt
  have hc := hb.1.cell 0
  have HM := Lib.hid (hb.2.alloc (.cells #[.int .i64 x0, .int .i64 x1, .int .i64 x2] 99))
  have HK : Hid (MI.ok x1) := hx.2.1
  simp only [List.getElem?_toArray, List.getElem?_cons_zero] at hc
  clear hb hx
  go_enter Tryz.func90, Tryz.ntmps90
  go_wp2_with (at_lookup; refine wpList_lookupB (M := MI) _ rfl _ _ rfl mb m x1 rfl rfl HM.out HK.out ?_)
  go_ret
  exact ⟨rfl, HB0.out⟩
end Go.Proofs.YtcmmppkmkejniaaGreatDoor
