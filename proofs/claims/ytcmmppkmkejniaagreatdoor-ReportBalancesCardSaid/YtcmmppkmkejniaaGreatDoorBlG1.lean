/-
  slices.ContainsFunc over accounts and over links; the two closures.
  The roles of both, in the order of the table.
  Find of both: the first account with a code.
  climb of both: the way from an account to the top.
  proper of both: an account may be in a chart.
-/
import Derived.Test.YtcmmppkmkejniaaGreatDoorGvTx
import Derived.Test.YtcmmppkmkejniaaGreatDoorMpK
import Derived.Test.YtcmmppkmkejniaaGreatDoorGvMem
import Derived.WalkMore
import Derived.Test.YtcmmppkmkejniaaGreatDoorBlSt
namespace Go.Proofs.YtcmmppkmkejniaaGreatDoor
open Go.RowKit
set_option linter.unusedVariables false
theorem anyX_yes {α : Type} [Inhabited α] {p : α → Bool} {xs : List α} {k : Nat} (hk : k < xs.length) (h : p (xs.getD k default) = true) : xs.any p = true :=
  List.any_eq_true.2 ⟨_, by simp [List.getD, hk], h⟩
theorem anyX_step {α : Type} [Inhabited α] {p : α → Bool} {xs : List α} {k : Nat} (hk : k < xs.length) (h : (xs.take k).any p = false) (h' : p (xs.getD k default) = false) : (xs.take (k + 1)).any p = false := by
  rw [List.take_succ_eq_append_getElem hk, List.any_append, h]
  have e : xs.getD k default = xs[k] := by simp [List.getD, hk]
  rw [e] at h'
  simp [h']
/-- where a test is met -/
def IdxA (p : SAcc → Bool) (xs : List SAcc) (w : World) (e : Ending) (w' : World) : Prop := ∃ r : Int, e = .returned (.int .i64 r) ∧ decide (0 ≤ r) = xs.any p ∧ Below w.heap.size w w'
set_option maxRecDepth 100000 in
set_option maxHeartbeats 4000000 in
theorem idxA_any (Fu : FuncId) (bnd : Array Value) (p : SAcc → Bool) (J : World → Prop) (hcf : ∀ (args : Array Value) (w : World), (callFunc Fu args).run Tryz.prog w = .ok (.enter Fu args) w) (hJ : ∀ w w', J w → Below w.heap.size w w' → J w') (xs : List SAcc)
    (hF : ∀ x ∈ xs, ∀ w : World, J w → Calls Tryz.prog Fu (#[accV x] ++ bnd) w fun e w' => e = .returned (.bool (p x)) ∧ Below w.heap.size w w')
    (A : Option Addr) (n c B : Nat) (w : World) (hr : Reads w B 4 A n (accsC xs)) (hB : B ≤ w.heap.size) (hn : n ≤ 9223372036854775807) (hw : J w) :
    Calls Tryz.prog 108 #[.slice A n c, .func (.func Fu) #[] bnd] w (IdxA p xs w) := by
  have HL := Lib.hid (accs_len hr)
  have HR := Lib.hid hr
  have HF := Lib.hid hF
  have HJ := Lib.hid hJ
  have HW := Lib.hid hw
  clear hr hF hJ hw
  go_enter Tryz.func108, Tryz.ntmps108
  go_wp2_with fail
  go_loopw [8] (fun i wr => ∃ k : Nat, k ≤ n ∧ i = .int .i64 k ∧ (xs.take k).any p = false ∧ Below w.heap.size w wr) (fun i _ => n - (intOf i).toNat)
  case atStart => exact ⟨0, by omega, rfl, rfl, Below.refl _ _⟩
  case round =>
    obtain ⟨k, hk, rfl, hd, hbr⟩ := hrel
    obtain ⟨wo, rfl⟩ : ∃ wo : World, wo = wr := ⟨_, rfl⟩
    have HD := Lib.hid hd
    clear hd
    by_cases hlt : k < n
    · have k3 : decide ((k : Int) < (n : Int)) = true := by rw [decide_eq_true_eq]; omega
      have hkl : k < xs.length := by rw [HL.out]; exact hlt
      obtain ⟨ad, rfl, hbk, c0, c1, c2, c3⟩ := (HR.out.lowg hB (Nat.le_refl _) hbr).acc_at hlt
      have HY : Hid (p (xs.getD k default) = true → xs.any p = true) := fun h => anyX_yes hkl h
      have HN : Hid (p (xs.getD k default) = false → (xs.take (k + 1)).any p = false) := fun h => anyX_step hkl HD.out h
      have HX := Lib.hid (HF.out (xs.getD k default) (by simp [List.getD, hkl]) wo (HJ.out _ _ HW.out hbr))
      clear hkl
      generalize xs.getD k default = x at *
      obtain ⟨x0, x1, x2, x3⟩ := x
      unfold accV at HX
      simp only [] at c0 c1 c2 c3 HY HN HX
      cases hp : p ⟨x0, x1, x2, x3⟩
      all_goals
        have HP := Lib.hid hp
        go_wp2_with fail
        refine HX.out.mono ?_
        rintro e w1 ⟨rfl, hb⟩
        have hb1 := below_two hbr hb
        rw [HP.out]
        clear c0 c1 c2 c3 hb hbr
      · have F := Lib.hid (HN.out hp)
        clear hp HN HY
        go_wp2_with fail
        exact ⟨⟨k + 1, by omega, by go_num, F.out, hb1⟩, by simp [intOf]; omega⟩
      · have F := Lib.hid (HY.out hp)
        clear hp HN HY
        go_wp2_with fail
        go_ret
        exact ⟨k, rfl, by rw [F.out, decide_eq_true_eq]; omega, hb1⟩
    · have k3 : decide ((k : Int) < (n : Int)) = false := by rw [decide_eq_false_iff_not]; omega
      have hd := HD.out
      rw [List.take_of_length_le (by rw [HL.out]; omega)] at hd
      have F := Lib.hid hd
      clear hd HD
      go_wp2_with fail
      go_ret
      exact ⟨-1, rfl, by rw [F.out]; rfl, hbr⟩
set_option maxRecDepth 100000 in
theorem contA_any (Fu : FuncId) (bnd : Array Value) (p : SAcc → Bool) (J : World → Prop) (hcf : ∀ (args : Array Value) (w : World), (callFunc Fu args).run Tryz.prog w = .ok (.enter Fu args) w) (hJ : ∀ w w', J w → Below w.heap.size w w' → J w') (xs : List SAcc)
    (hF : ∀ x ∈ xs, ∀ w : World, J w → Calls Tryz.prog Fu (#[accV x] ++ bnd) w fun e w' => e = .returned (.bool (p x)) ∧ Below w.heap.size w w')
    (A : Option Addr) (n c B : Nat) (w : World) (hr : Reads w B 4 A n (accsC xs)) (hB : B ≤ w.heap.size) (hn : n ≤ 9223372036854775807) (hw : J w) :
    Calls Tryz.prog 82 #[.slice A n c, .func (.func Fu) #[] bnd] w fun e w' => e = .returned (.bool (xs.any p)) ∧ Below w.heap.size w w' := by
  have HI := Lib.hid (idxA_any Fu bnd p J hcf hJ xs hF A n c B w hr hB hn hw)
  clear hr hcf hF hJ hw
  go_enter Tryz.func82, Tryz.ntmps82
  go_wp2_with fail
  refine HI.out.mono ?_
  rintro e w1 ⟨r, rfl, hr, hb⟩
  have HRR := Lib.hid hr
  clear hr
  go_wp2_with fail
  go_ret
  exact ⟨ret_bool HRR.out, hb⟩
/-- where a test is met -/
def IdxL (p : SLink → Bool) (xs : List SLink) (w : World) (e : Ending) (w' : World) : Prop := ∃ r : Int, e = .returned (.int .i64 r) ∧ decide (0 ≤ r) = xs.any p ∧ Below w.heap.size w w'
set_option maxRecDepth 100000 in
set_option maxHeartbeats 4000000 in
theorem idxL_any (Fu : FuncId) (bnd : Array Value) (p : SLink → Bool) (J : World → Prop) (hcf : ∀ (args : Array Value) (w : World), (callFunc Fu args).run Tryz.prog w = .ok (.enter Fu args) w) (hJ : ∀ w w', J w → Below w.heap.size w w' → J w') (xs : List SLink)
    (hF : ∀ x ∈ xs, ∀ w : World, J w → Calls Tryz.prog Fu (#[linkV x] ++ bnd) w fun e w' => e = .returned (.bool (p x)) ∧ Below w.heap.size w w')
    (A : Option Addr) (n c B : Nat) (w : World) (hr : Reads w B 3 A n (linksC xs)) (hB : B ≤ w.heap.size) (hn : n ≤ 9223372036854775807) (hw : J w) :
    Calls Tryz.prog 111 #[.slice A n c, .func (.func Fu) #[] bnd] w (IdxL p xs w) := by
  have HL := Lib.hid (links_len hr)
  have HR := Lib.hid hr
  have HF := Lib.hid hF
  have HJ := Lib.hid hJ
  have HW := Lib.hid hw
  clear hr hF hJ hw
  go_enter Tryz.func111, Tryz.ntmps111
  go_wp2_with fail
  go_loopw [8] (fun i wr => ∃ k : Nat, k ≤ n ∧ i = .int .i64 k ∧ (xs.take k).any p = false ∧ Below w.heap.size w wr) (fun i _ => n - (intOf i).toNat)
  case atStart => exact ⟨0, by omega, rfl, rfl, Below.refl _ _⟩
  case round =>
    obtain ⟨k, hk, rfl, hd, hbr⟩ := hrel
    obtain ⟨wo, rfl⟩ : ∃ wo : World, wo = wr := ⟨_, rfl⟩
    have HD := Lib.hid hd
    clear hd
    by_cases hlt : k < n
    · have k3 : decide ((k : Int) < (n : Int)) = true := by rw [decide_eq_true_eq]; omega
      have hkl : k < xs.length := by rw [HL.out]; exact hlt
      obtain ⟨ad, rfl, hbk, c0, c1, c2⟩ := (HR.out.lowg hB (Nat.le_refl _) hbr).link_at hlt
      have HY : Hid (p (xs.getD k default) = true → xs.any p = true) := fun h => anyX_yes hkl h
      have HN : Hid (p (xs.getD k default) = false → (xs.take (k + 1)).any p = false) := fun h => anyX_step hkl HD.out h
      have HX := Lib.hid (HF.out (xs.getD k default) (by simp [List.getD, hkl]) wo (HJ.out _ _ HW.out hbr))
      clear hkl
      generalize xs.getD k default = x at *
      obtain ⟨x0, x1, x2⟩ := x
      unfold linkV at HX
      simp only [] at c0 c1 c2 HY HN HX
      cases hp : p ⟨x0, x1, x2⟩
      all_goals
        have HP := Lib.hid hp
        go_wp2_with fail
        refine HX.out.mono ?_
        rintro e w1 ⟨rfl, hb⟩
        have hb1 := below_two hbr hb
        rw [HP.out]
        clear c0 c1 c2 hb hbr
      · have F := Lib.hid (HN.out hp)
        clear hp HN HY
        go_wp2_with fail
        exact ⟨⟨k + 1, by omega, by go_num, F.out, hb1⟩, by simp [intOf]; omega⟩
      · have F := Lib.hid (HY.out hp)
        clear hp HN HY
        go_wp2_with fail
        go_ret
        exact ⟨k, rfl, by rw [F.out, decide_eq_true_eq]; omega, hb1⟩
    · have k3 : decide ((k : Int) < (n : Int)) = false := by rw [decide_eq_false_iff_not]; omega
      have hd := HD.out
      rw [List.take_of_length_le (by rw [HL.out]; omega)] at hd
      have F := Lib.hid hd
      clear hd HD
      go_wp2_with fail
      go_ret
      exact ⟨-1, rfl, by rw [F.out]; rfl, hbr⟩
set_option maxRecDepth 100000 in
theorem contL_any (Fu : FuncId) (bnd : Array Value) (p : SLink → Bool) (J : World → Prop) (hcf : ∀ (args : Array Value) (w : World), (callFunc Fu args).run Tryz.prog w = .ok (.enter Fu args) w) (hJ : ∀ w w', J w → Below w.heap.size w w' → J w') (xs : List SLink)
    (hF : ∀ x ∈ xs, ∀ w : World, J w → Calls Tryz.prog Fu (#[linkV x] ++ bnd) w fun e w' => e = .returned (.bool (p x)) ∧ Below w.heap.size w w')
    (A : Option Addr) (n c B : Nat) (w : World) (hr : Reads w B 3 A n (linksC xs)) (hB : B ≤ w.heap.size) (hn : n ≤ 9223372036854775807) (hw : J w) :
    Calls Tryz.prog 89 #[.slice A n c, .func (.func Fu) #[] bnd] w fun e w' => e = .returned (.bool (xs.any p)) ∧ Below w.heap.size w w' := by
  have HI := Lib.hid (idxL_any Fu bnd p J hcf hJ xs hF A n c B w hr hB hn hw)
  clear hr hcf hF hJ hw
  go_enter Tryz.func89, Tryz.ntmps89
  go_wp2_with fail
  refine HI.out.mono ?_
  rintro e w1 ⟨r, rfl, hr, hb⟩
  have HRR := Lib.hid hr
  clear hr
  go_wp2_with fail
  go_ret
  exact ⟨ret_bool HRR.out, hb⟩
theorem enter_acc1 (args : Array Value) (w : World) : (callFunc 83 args).run Tryz.prog w = .ok (.enter 83 args) w := by
  simp [go_sem]
theorem enter_ent1 (args : Array Value) (w : World) : (callFunc 90 args).run Tryz.prog w = .ok (.enter 90 args) w := by
  simp [go_sem]
set_option maxRecDepth 100000 in
theorem acc1_any (a : SAcc) (w : World) : Calls Tryz.prog 83 #[accV a] w fun e w' => e = .returned (.bool (!basedB a)) ∧ Below w.heap.size w w' := by
  obtain ⟨x0, x1, x2, x3⟩ := a
  have HBA : Hid (∀ w : World, Calls Tryz.prog 84 #[.agg #[.int .i64 x0, .int .i64 x1, .int .i64 x2, .int .i64 x3]] w fun e w' => e = .returned (.bool (basedB ⟨x0, x1, x2, x3⟩)) ∧ Below w.heap.size w w') := fun w => based_any ⟨x0, x1, x2, x3⟩ w
  unfold accV
  simp only []
  have HB0 := Lib.hid ((Below.refl w.heap.size w).alloc (Nat.le_refl _) (.cells #[.int .i64 x0, .int .i64 x1, .int .i64 x2, .int .i64 x3] 42))
  generalize basedB ⟨x0, x1, x2, x3⟩ = b at *
  go_enter Tryz.func83, Tryz.ntmps83
  go_wp2_with fail
  refine (HBA.out _).mono ?_
  rintro e w1 ⟨rfl, hb1⟩
  have HB1 := Lib.hid (below_two HB0.out hb1)
  clear hb1
  go_wp2_with fail
  go_ret
  exact ⟨rfl, HB1.out⟩
/-- a box that holds a map of numbers -/
def BoxM (g mb : Nat) (m : List (Int × Bool)) (w : World) : Prop := Blk w g 132 #[.map (some mb)] ∧ MapB MI w mb m
theorem BoxM.below {g mb : Nat} {m : List (Int × Bool)} {w w' : World} (h : BoxM g mb m w) (hb : Below w.heap.size w w') : BoxM g mb m w' := ⟨h.1.below hb h.1.lt, h.2.below hb h.2.lt⟩
set_option maxRecDepth 100000 in
theorem ent1_any (x : SLink) (g mb : Nat) (m : List (Int × Bool)) (w : World) (hx : LinkOk x) (hb : BoxM g mb m w) : Calls Tryz.prog 90 #[linkV x, .pointer (some ⟨g, 0, none⟩)] w fun e w' => e = .returned (.bool (getB m x.to_)) ∧ Below w.heap.size w w' := by
  obtain ⟨x0, x1, x2⟩ := x
  unfold linkV
  simp only []
  have HB0 := Lib.hid ((Below.refl w.heap.size w).alloc (Nat.le_refl _) (.cells #[.int .i64 x0, .int .i64 x1, .int .i64 x2] 99))
  have hgl := hb.1.lt
  have hc := hb.1.cell 0
  have HM := Lib.hid (hb.2.alloc (.cells #[.int .i64 x0, .int .i64 x1, .int .i64 x2] 99))
  have HK : Hid (MI.ok x1) := hx.2.1
  simp only [List.getElem?_toArray, List.getElem?_cons_zero] at hc
  clear hb hx
  go_enter Tryz.func90, Tryz.ntmps90
  go_wp2_with (at_lookup; refine wpList_lookupB (M := MI) _ rfl _ _ rfl mb m x1 rfl rfl HM.out HK.out ?_)
  go_ret
  exact ⟨rfl, HB0.out⟩
end Go.Proofs.YtcmmppkmkejniaaGreatDoor
namespace Go.Proofs.YtcmmppkmkejniaaGreatDoor
open Go.RowKit
set_option linter.unusedVariables false
theorem reads_n (W : World) (cs : Array Value) (T : TypeId) (size n : Nat) (xs : List Value) (hx : xs = cs.toList) (g : Nat) (hg : g = W.heap.size) (hs : cs.size = n * size) : Reads (W.alloc (.cells cs T)) (W.alloc (.cells cs T)).heap.size size (some ⟨g, 0, none⟩) n xs := by
  subst hx hg
  refine ⟨by simpa using hs, fun _ => ⟨_, rfl, by simp, fun j u hj => ?_⟩⟩
  have hb := Blk.new W T cs
  have e : (⟨W.heap.size, 0, none⟩ : Addr).add j = ⟨W.heap.size, j, none⟩ := by unfold Addr.add; split <;> simp_all
  rw [e, hb.cell j, ← hj]
  simp
set_option maxRecDepth 100000 in
set_option maxHeartbeats 8000000 in
theorem roles_any (r : SRoles) (w : World) :
    Calls Tryz.prog 85 #[rolesV r] w fun e w' => ∃ ad : Addr, e = .returned (.slice (some ad) 15 15) ∧ Reads w' w'.heap.size 5 (some ad) 15 (rolesC (rolesL r)) ∧ w.heap.size ≤ ad.block ∧ Below w.heap.size w w' := by
  obtain ⟨r0, r1, r2, r3, r4, r5, r6, r7, r8, r9, r10, r11, r12, r13, r14⟩ := r
  unfold rolesV
  simp only []
  go_enter Tryz.func85, Tryz.ntmps85
  go_wp2_with fail
  go_ret
  refine ⟨⟨w.heap.size + 1, 0, none⟩, rfl, reads_n _ _ _ 5 15 _ rfl _ (by simp) rfl, Nat.le_succ _, ((Below.refl _ _).alloc (Nat.le_refl _) _).alloc (by simp) _⟩
set_option maxRecDepth 100000 in
set_option maxHeartbeats 8000000 in
theorem rroles_any (r : SRoles) (w : World) :
    Calls Tryz.prog 40 #[rolesV r] w fun e w' => ∃ ad : Addr, e = .returned (.slice (some ad) 15 15) ∧ Reads w' w'.heap.size 5 (some ad) 15 (rolesC (rolesL r)) ∧ w.heap.size ≤ ad.block ∧ Below w.heap.size w w' := by
  obtain ⟨r0, r1, r2, r3, r4, r5, r6, r7, r8, r9, r10, r11, r12, r13, r14⟩ := r
  unfold rolesV
  simp only []
  go_enter Tryz.func40, Tryz.ntmps40
  go_wp2_with fail
  go_ret
  refine ⟨⟨w.heap.size + 1, 0, none⟩, rfl, reads_n _ _ _ 5 15 _ rfl _ (by simp) rfl, Nat.le_succ _, ((Below.refl _ _).alloc (Nat.le_refl _) _).alloc (by simp) _⟩
end Go.Proofs.YtcmmppkmkejniaaGreatDoor
namespace Go.Proofs.YtcmmppkmkejniaaGreatDoor
open Go.RowKit
set_option linter.unusedVariables false
/-- what Find returns -/
def findV (l : List SAcc) (c : Int) : Value := match findA l c with
  | some a => .tuple #[.agg #[.int .i64 a.code, .int .i64 a.kind, .int .i64 a.basis, .int .i64 a.parent], .bool true]
  | none => .tuple #[.agg #[.int .i64 0, .int .i64 0, .int .i64 0, .int .i64 0], .bool false]
theorem findV_yes {l : List SAcc} {c : Int} {a : SAcc} (h : findA l c = some a) : findV l c = .tuple #[.agg #[.int .i64 a.code, .int .i64 a.kind, .int .i64 a.basis, .int .i64 a.parent], .bool true] := by unfold findV; rw [h]
theorem findV_no {l : List SAcc} {c : Int} (h : findA l c = none) : findV l c = .tuple #[.agg #[.int .i64 0, .int .i64 0, .int .i64 0, .int .i64 0], .bool false] := by unfold findV; rw [h]
theorem set4 {w : World} {g : Nat} {T : TypeId} {a b c d a' b' c' d' : Value} (h : Blk w g T #[a, b, c, d]) : Blk ((((w.setCell ⟨g, 0, none⟩ a').setCell ⟨g, 1, none⟩ b').setCell ⟨g, 2, none⟩ c').setCell ⟨g, 3, none⟩ d') g T #[a', b', c', d'] := by
  have := (((h.set_ 0 a').set_ 1 b').set_ 2 c').set_ 3 d'
  simpa using this
theorem set4_below {w w0 : World} {B g : Nat} {a b c d : Value} (h : Below B w0 w) (hB : B ≤ g) : Below B w0 ((((w.setCell ⟨g, 0, none⟩ a).setCell ⟨g, 1, none⟩ b).setCell ⟨g, 2, none⟩ c).setCell ⟨g, 3, none⟩ d) :=
  (((h.setCell (p := ⟨g, 0, none⟩) hB a).setCell (p := ⟨g, 1, none⟩) hB b).setCell (p := ⟨g, 2, none⟩) hB c).setCell (p := ⟨g, 3, none⟩) hB d
theorem findA_end {l : List SAcc} {c : Int} {n : Nat} (h : (l.take n).find? (fun a => a.code == c) = none) (hl : l.length ≤ n) : findA l c = none := by
  rw [List.take_of_length_le hl] at h; exact h
set_option maxRecDepth 100000 in
set_option maxHeartbeats 4000000 in
theorem find_any (l : List SAcc) (A : Option Addr) (n c : Nat) (code : Int) (B : Nat) (w : World) (hr : Reads w B 4 A n (accsC l)) (hB : B ≤ w.heap.size) (hn : n ≤ 9223372036854775807) :
    Calls Tryz.prog 86 #[.slice A n c, .int .i64 code] w fun e w' => e = .returned (findV l code) ∧ Below w.heap.size w w' := by
  have HL := Lib.hid (accs_len hr)
  have HR := Lib.hid hr
  have hb0 := (Below.refl w.heap.size w).alloc (Nat.le_refl _) (.cells #[.int .i64 0, .int .i64 0, .int .i64 0, .int .i64 0] 42)
  have HB0 := Lib.hid hb0
  have HK0 := Lib.hid (Blk.new w 42 #[.int .i64 0, .int .i64 0, .int .i64 0, .int .i64 0])
  clear hr hb0
  go_enter Tryz.func86, Tryz.ntmps86
  go_wp2_with fail
  go_loopw [10] (fun i wr => ∃ k : Nat, k ≤ n ∧ i = .int .i64 k ∧ (l.take k).find? (fun a => a.code == code) = none ∧ Below w.heap.size w wr ∧ Blk wr w.heap.size 42 #[.int .i64 0, .int .i64 0, .int .i64 0, .int .i64 0]) (fun i _ => n - (intOf i).toNat)
  case atStart => exact ⟨0, by omega, rfl, rfl, HB0.out, HK0.out⟩
  case round =>
    obtain ⟨k, hk, rfl, hd, hbr, hkr⟩ := hrel
    obtain ⟨wo, rfl⟩ : ∃ wo : World, wo = wr := ⟨_, rfl⟩
    have hlt0 := hkr.lt
    have hfz := hkr.frozen
    obtain ⟨y0, y1, y2, y3⟩ := acc_blk hkr
    have HK := Lib.hid hkr
    have HD := Lib.hid hd
    clear hd hkr
    by_cases hlt : k < n
    · have k3 : decide ((k : Int) < (n : Int)) = true := by rw [decide_eq_true_eq]; omega
      obtain ⟨ad, rfl, hbk, c0, c1, c2, c3⟩ := (HR.out.lowg hB (Nat.le_refl _) hbr).acc_at hlt
      have HY : Hid (((l.getD k default).code == code) = true → findA l code = some (l.getD k default)) := fun h => findA_take HD.out (by rw [HL.out]; exact hlt) rfl h
      have HN : Hid (((l.getD k default).code == code) = false → (l.take (k + 1)).find? (fun a => a.code == code) = none) := fun h => find_step HD.out (by rw [HL.out]; exact hlt) h
      have hs1 : w.heap.size ≤ wo.heap.size := hbr.size
      generalize l.getD k default = x at *
      obtain ⟨x0, x1, x2, x3⟩ := x
      simp only [] at c0 c1 c2 c3 HY HN
      cases hc : x0 == code
      · have F := Lib.hid (HN.out hc)
        have HC := Lib.hid hc
        clear HY HN HD
        go_wp2_with fail
        exact ⟨⟨k + 1, by omega, by go_num, F.out, hbr.alloc hs1 _, HK.out.alloc _⟩, by simp [intOf]; omega⟩
      · have F := Lib.hid (findV_yes (HY.out hc))
        clear HY HN HD
        go_wp2_with fail
        have hbz := (set4_below (a := .int .i64 x0) (b := .int .i64 x1) (c := .int .i64 x2) (d := .int .i64 x3) hbr (Nat.le_refl _)).alloc (by simpa using hs1) (.cells #[.int .i64 x0, .int .i64 x1, .int .i64 x2, .int .i64 x3] 42)
        have hbk2 := (set4 (a' := .int .i64 x0) (b' := .int .i64 x1) (c' := .int .i64 x2) (d' := .int .i64 x3) HK.out).alloc (.cells #[.int .i64 x0, .int .i64 x1, .int .i64 x2, .int .i64 x3] 42)
        generalize World.alloc _ _ = wz at *
        obtain ⟨z0, z1, z2, z3⟩ := acc_blk hbk2
        refine bodyPost_ret (v := .tuple #[.agg #[.int .i64 x0, .int .i64 x1, .int .i64 x2, .int .i64 x3], .bool true]) ?_ rfl ⟨by rw [F.out], hbz⟩
        simp [results, Tryz.results86, go_sem, z0, z1, z2, z3]
    · have k3 : decide ((k : Int) < (n : Int)) = false := by rw [decide_eq_false_iff_not]; omega
      have F := Lib.hid (findV_no (findA_end HD.out (by rw [HL.out]; omega)))
      clear HD
      go_wp2_with fail
      have hbz := set4_below (a := .int .i64 0) (b := .int .i64 0) (c := .int .i64 0) (d := .int .i64 0) hbr (Nat.le_refl _)
      have hbk2 := set4 (a' := .int .i64 0) (b' := .int .i64 0) (c' := .int .i64 0) (d' := .int .i64 0) HK.out
      generalize World.setCell _ ⟨w.heap.size, 3, none⟩ _ = wz at *
      obtain ⟨z0, z1, z2, z3⟩ := acc_blk hbk2
      refine bodyPost_ret (v := .tuple #[.agg #[.int .i64 0, .int .i64 0, .int .i64 0, .int .i64 0], .bool false]) ?_ rfl ⟨by rw [F.out], hbz⟩
      simp [results, Tryz.results86, go_sem, z0, z1, z2, z3]
set_option maxRecDepth 100000 in
set_option maxHeartbeats 4000000 in
theorem rfind_any (l : List SAcc) (A : Option Addr) (n c : Nat) (code : Int) (B : Nat) (w : World) (hr : Reads w B 4 A n (accsC l)) (hB : B ≤ w.heap.size) (hn : n ≤ 9223372036854775807) :
    Calls Tryz.prog 16 #[.slice A n c, .int .i64 code] w fun e w' => e = .returned (findV l code) ∧ Below w.heap.size w w' := by
  have HL := Lib.hid (accs_len hr)
  have HR := Lib.hid hr
  have hb0 := (Below.refl w.heap.size w).alloc (Nat.le_refl _) (.cells #[.int .i64 0, .int .i64 0, .int .i64 0, .int .i64 0] 42)
  have HB0 := Lib.hid hb0
  have HK0 := Lib.hid (Blk.new w 42 #[.int .i64 0, .int .i64 0, .int .i64 0, .int .i64 0])
  clear hr hb0
  go_enter Tryz.func16, Tryz.ntmps16
  go_wp2_with fail
  go_loopw [6] (fun i wr => ∃ k : Nat, k ≤ n ∧ i = .int .i64 k ∧ (l.take k).find? (fun a => a.code == code) = none ∧ Below w.heap.size w wr ∧ Blk wr w.heap.size 42 #[.int .i64 0, .int .i64 0, .int .i64 0, .int .i64 0]) (fun i _ => n - (intOf i).toNat)
  case atStart => exact ⟨0, by omega, rfl, rfl, HB0.out, HK0.out⟩
  case round =>
    obtain ⟨k, hk, rfl, hd, hbr, hkr⟩ := hrel
    obtain ⟨wo, rfl⟩ : ∃ wo : World, wo = wr := ⟨_, rfl⟩
    have hlt0 := hkr.lt
    have hfz := hkr.frozen
    obtain ⟨y0, y1, y2, y3⟩ := acc_blk hkr
    have HK := Lib.hid hkr
    have HD := Lib.hid hd
    clear hd hkr
    by_cases hlt : k < n
    · have k3 : decide ((k : Int) < (n : Int)) = true := by rw [decide_eq_true_eq]; omega
      obtain ⟨ad, rfl, hbk, c0, c1, c2, c3⟩ := (HR.out.lowg hB (Nat.le_refl _) hbr).acc_at hlt
      have HY : Hid (((l.getD k default).code == code) = true → findA l code = some (l.getD k default)) := fun h => findA_take HD.out (by rw [HL.out]; exact hlt) rfl h
      have HN : Hid (((l.getD k default).code == code) = false → (l.take (k + 1)).find? (fun a => a.code == code) = none) := fun h => find_step HD.out (by rw [HL.out]; exact hlt) h
      have hs1 : w.heap.size ≤ wo.heap.size := hbr.size
      generalize l.getD k default = x at *
      obtain ⟨x0, x1, x2, x3⟩ := x
      simp only [] at c0 c1 c2 c3 HY HN
      cases hc : x0 == code
      · have F := Lib.hid (HN.out hc)
        have HC := Lib.hid hc
        clear HY HN HD
        go_wp2_with fail
        exact ⟨⟨k + 1, by omega, by go_num, F.out, hbr, HK.out⟩, by simp [intOf]; omega⟩
      · have F := Lib.hid (findV_yes (HY.out hc))
        clear HY HN HD
        go_wp2_with fail
        have hbz := set4_below (a := .int .i64 x0) (b := .int .i64 x1) (c := .int .i64 x2) (d := .int .i64 x3) hbr (Nat.le_refl _)
        have hbk2 := set4 (a' := .int .i64 x0) (b' := .int .i64 x1) (c' := .int .i64 x2) (d' := .int .i64 x3) HK.out
        generalize World.setCell _ ⟨w.heap.size, 3, none⟩ _ = wz at *
        obtain ⟨z0, z1, z2, z3⟩ := acc_blk hbk2
        refine bodyPost_ret (v := .tuple #[.agg #[.int .i64 x0, .int .i64 x1, .int .i64 x2, .int .i64 x3], .bool true]) ?_ rfl ⟨by rw [F.out], hbz⟩
        simp [results, Tryz.results16, go_sem, z0, z1, z2, z3]
    · have k3 : decide ((k : Int) < (n : Int)) = false := by rw [decide_eq_false_iff_not]; omega
      have F := Lib.hid (findV_no (findA_end HD.out (by rw [HL.out]; omega)))
      clear HD
      go_wp2_with fail
      have hbz := set4_below (a := .int .i64 0) (b := .int .i64 0) (c := .int .i64 0) (d := .int .i64 0) hbr (Nat.le_refl _)
      have hbk2 := set4 (a' := .int .i64 0) (b' := .int .i64 0) (c' := .int .i64 0) (d' := .int .i64 0) HK.out
      generalize World.setCell _ ⟨w.heap.size, 3, none⟩ _ = wz at *
      obtain ⟨z0, z1, z2, z3⟩ := acc_blk hbk2
      refine bodyPost_ret (v := .tuple #[.agg #[.int .i64 0, .int .i64 0, .int .i64 0, .int .i64 0], .bool false]) ?_ rfl ⟨by rw [F.out], hbz⟩
      simp [results, Tryz.results16, go_sem, z0, z1, z2, z3]
end Go.Proofs.YtcmmppkmkejniaaGreatDoor
namespace Go.Proofs.YtcmmppkmkejniaaGreatDoor
open Go.RowKit
set_option linter.unusedVariables false
def slLen : Value → Nat
  | .slice _ n _ => n
  | _ => 0
theorem info_int : (Tryz.prog.info? 3).map (fun i => (i.zero, i.size, i.bytes)) = some (some (.int .i64 0), 1, 8) := by kernel_rfl
theorem int_one (x : Int) : ∀ u ∈ ([.int .i64 x] : List Value), u.oneCell' = true := by
  intro u hu
  simp at hu
  subst hu
  rfl
theorem acc_ok {l : List SAcc} (h : ∀ x ∈ l, AccOk x) {c : Int} {a : SAcc} (hf : findA l c = some a) : okI a.parent := (h a (findA_mem hf)).2.2.2
theorem contains_snoc (path : List Int) (c x : Int) : (path ++ [c]).contains x = if c = x then true else path.contains x := by
  rw [Bool.eq_iff_iff]
  by_cases h : c = x
  · subst h; simp
  · rw [if_neg h]
    simp only [List.contains_iff_mem, List.mem_append, List.mem_singleton]
    constructor
    · rintro (h1 | h1)
      · exact h1
      · exact absurd h1.symm h
    · exact .inl
theorem own_ne {w : World} {base size n b : Nat} {e : TypeId} {v : Value} {xs : List Value} (h : w.ownsRow base e size v n xs) (hb : b < base) : v.ownBlock = none ∨ v.ownBlock ≠ some b := by
  right
  intro he
  have := own_base h b he
  omega
set_option maxRecDepth 100000 in
set_option maxHeartbeats 4000000 in
theorem climb_any (l : List SAcc) (A : Option Addr) (n c : Nat) (code : Int) (B : Nat) (w : World) (hr : Reads w B 4 A n (accsC l)) (hB : B ≤ w.heap.size) (hn : n ≤ 1000) (hok : ∀ x ∈ l, AccOk x) (hc : okI code) :
    Calls Tryz.prog 126 #[.slice A n c, .int .i64 code] w fun e w' => ∃ v, e = .returned v ∧ w'.ownsRow w.heap.size 3 1 v (climbP l (n + 1) code []).1.length ((climbP l (n + 1) code []).1.map (Value.int .i64)) ∧ Below w.heap.size w w' := by
  obtain ⟨i0, hi0, hz0, hz1, hz2⟩ := info_parts info_int
  have HL := Lib.hid (accs_len hr)
  have HR := Lib.hid hr
  have HOK := Lib.hid hok
  have hm0 := MapB.made (M := MI) w
  have HM0 := Lib.hid hm0
  have hb0 := (Below.refl w.heap.size w).alloc (Nat.le_refl _) (.map #[] 0)
  have HB0 := Lib.hid hb0
  have HC0 := Lib.hid hc
  clear hr hok hm0 hb0 hc
  generalize hP : climbP l (n + 1) code [] = P
  have HP := Lib.hid hP
  clear hP
  have hmm := @run_makeMap Tryz.prog
  go_enter Tryz.func126, Tryz.ntmps126
  go_wp2_with fail
  go_step3
  go_wp2_with fail
  go_step3
  go_wp2_with fail
  go_loopw [1, 5] (fun cv out wr => ∃ (cc : Int) (path : List Int) (m : List (Int × Bool)), cv = .int .i64 cc ∧ wr.ownsRow (w.heap.size + 1) 3 1 out path.length (path.map (Value.int .i64)) ∧ MapB MI wr w.heap.size m ∧ (∀ x, getB m x = path.contains x) ∧ Below w.heap.size w wr ∧
      path.Nodup ∧ (∀ x ∈ path, x ∈ l.map (·.code)) ∧ path.length ≤ n ∧ climbP l (n + 1 - path.length) cc path = P ∧ okI cc) (fun _ out _ => n + 1 - slLen out)
  case atStart => exact ⟨code, [], [], rfl, World.ownsRow_nil _ _ _ _, HM0.out, fun _ => rfl, HB0.out, by simp, by simp, by simp, HP.out, HC0.out⟩
  case round =>
    obtain ⟨cc, path, m, rfl, hown, hm, hg, hbr, hnd, hin, hpl, hcp, hcc⟩ := hrel
    obtain ⟨wo, rfl⟩ : ∃ wo : World, wo = wr := ⟨_, rfl⟩
    obtain ⟨Ao, co, rfl⟩ := own_slice hown
    have HO := Lib.hid hown
    have HM := Lib.hid hm
    have HG := Lib.hid hg
    have HND := Lib.hid hnd
    have HIN := Lib.hid hin
    have HCP := Lib.hid hcp
    have HCC := Lib.hid hcc
    have HF := Lib.hid (find_any l A n c cc wo.heap.size wo ((HR.out.lowg hB (Nat.le_refl _) hbr).more (by have := hbr.size; omega)) (Nat.le_refl _) (by omega))
    have hs1 : w.heap.size ≤ wo.heap.size := hbr.size
    have hml := hm.lt
    clear hown hm hg hnd hin hcp hcc
    cases hf : findA l cc with
    | none =>
      have F := Lib.hid (findV_no hf)
      have FE : Hid (climbP l (n + 1 - path.length) cc path = (path, cc)) := climbP_none hf
      clear hf
      go_wp2_with fail
      refine HF.out.mono ?_
      rintro e w1 ⟨rfl, hb1⟩
      rw [F.out]
      have HO1 := Lib.hid ((own_below HO.out hb1).alloc (.cells #[.int .i64 0, .int .i64 0, .int .i64 0, .int .i64 0] 42))
      have HB1 := Lib.hid ((below_two hbr hb1).alloc (by have := hb1.size; omega) (.cells #[.int .i64 0, .int .i64 0, .int .i64 0, .int .i64 0] 42))
      clear hb1 HF
      go_wp2_with fail
      try rw [Exit.noGoto_ret]
      go_ret
      refine ⟨_, rfl, ?_, HB1.out⟩
      have e1 : P.1 = path := by rw [← HCP.out, FE.out]
      rw [e1]
      exact own_mono HO1.out (by omega)
    | some a =>
      have F := Lib.hid (findV_yes hf)
      have HFA := Lib.hid hf
      have HA := Lib.hid (acc_ok HOK.out hf)
      clear hf
      obtain ⟨a0, a1, a2, a3⟩ := a
      simp only [] at F HFA HA
      cases hs : path.contains cc with
      | true =>
        have FE : Hid (climbP l (n + 1 - path.length) cc path = (path, cc)) := climbP_seen hs
        have HS : Hid (getB m cc = true) := (HG.out cc).trans hs
        clear hs
        go_wp2_with fail
        refine HF.out.mono ?_
        rintro e w1 ⟨rfl, hb1⟩
        rw [F.out]
        have HO1 := Lib.hid ((own_below HO.out hb1).alloc (.cells #[.int .i64 a0, .int .i64 a1, .int .i64 a2, .int .i64 a3] 42))
        have HM1 := Lib.hid ((HM.out.below hb1 hml).alloc (.cells #[.int .i64 a0, .int .i64 a1, .int .i64 a2, .int .i64 a3] 42))
        have HB1 := Lib.hid ((below_two hbr hb1).alloc (by have := hb1.size; omega) (.cells #[.int .i64 a0, .int .i64 a1, .int .i64 a2, .int .i64 a3] 42))
        clear hb1 HF
        go_wp2_with (at_lookup; refine wpList_lookupB_want (M := MI) _ (by first | rfl | simp [Region.wanted, yielded]) _ _ rfl w.heap.size m cc rfl rfl HM1.out HCC.out ?_; rw [HS.out])
        try rw [Exit.noGoto_ret]
        go_ret
        refine ⟨_, rfl, ?_, HB1.out⟩
        have e1 : P.1 = path := by rw [← HCP.out, FE.out]
        rw [e1]
        exact own_mono HO1.out (by omega)
      | false =>
        have HPS := Lib.hid (path_snoc HFA.out hs HND.out HIN.out)
        have HS : Hid (getB m cc = false) := (HG.out cc).trans hs
        have hpl2 : path.length + 1 ≤ n := by have := HPS.out.2.2; rw [HL.out] at this; exact this
        have FE : Hid (climbP l (n + 1 - (path.length + 1)) a3 (path ++ [cc]) = P) := by
          show _ = _
          have := HCP.out
          rw [show n + 1 - path.length = (n + 1 - (path.length + 1)) + 1 by omega, climbP_step HFA.out hs] at this
          exact this
        clear hs
        go_wp2_with fail
        refine HF.out.mono ?_
        rintro e w1 ⟨rfl, hb1⟩
        rw [F.out]
        have HO1 := Lib.hid ((own_below HO.out hb1).alloc (.cells #[.int .i64 a0, .int .i64 a1, .int .i64 a2, .int .i64 a3] 42))
        have HM1 := Lib.hid ((HM.out.below hb1 hml).alloc (.cells #[.int .i64 a0, .int .i64 a1, .int .i64 a2, .int .i64 a3] 42))
        have HB1 := Lib.hid ((below_two hbr hb1).alloc (by have := hb1.size; omega) (.cells #[.int .i64 a0, .int .i64 a1, .int .i64 a2, .int .i64 a3] 42))
        have hs2 : wo.heap.size ≤ w1.heap.size := hb1.size
        have HK1 := Lib.hid (Blk.new w1 42 #[.int .i64 a0, .int .i64 a1, .int .i64 a2, .int .i64 a3])
        clear hb1 HF
        have HNE : Hid (∀ k, (Value.slice Ao path.length co).ownBlock = some k → w.heap.size + 1 ≤ k ∧ k < wo.heap.size) := by
          show ∀ _, _
          intro k hk
          exact ⟨own_base HO.out k hk, own_lt HO.out k hk⟩
        go_wp2_with (first
          | (at_lookup; refine wpList_lookupB_want (M := MI) _ (by first | rfl | simp [Region.wanted, yielded]) _ _ rfl w.heap.size m cc rfl rfl HM1.out HCC.out ?_; rw [HS.out])
          | (at_mapUpdate; refine wpList_storeB (M := MI) _ rfl _ _ _ rfl w.heap.size m cc true rfl rfl rfl HM1.out HCC.out ?_; intro w2 hm2 hg2; have HM2 := Lib.hid hm2; have HG2 := Lib.hid hg2; have HO2 := Lib.hid (HO1.out.kept hg2 (own_ne HO1.out (Nat.lt_succ_self _))); have hs3 := hg2.size; simp only [World.size_alloc] at hs3; clear hm2 hg2)
          | (at_builtin; refine wpList_append_any _ rfl (.tmp 25) (.tmp 27) _ rfl (w.heap.size + 1) 3 i0 _ 1 8 Tryz.underlying49 hi0 hz0 hz1 hz2 rfl (by omega) _ path.length (path.map (Value.int .i64)) rfl (HO2.out.alloc _) (w2.heap.size + 1) (some ⟨w2.heap.size, 0, none⟩) 1 1 [.int .i64 cc] rfl (reads_one w2 #[.int .i64 cc] _ 1 rfl) (int_one cc) (by simp only [maxLen]; omega) (by omega) (by simp only [World.size_alloc]; omega) ?_; intro v4 w4 hown4 hg4 hat4
             have hk4 := ((HK1.out.grown HG2.out (by intro e; have := Option.some.inj e; omega)).alloc (.cells #[.int .i64 cc] 3)).grown hg4 (by intro e; have := (HNE.out _ e.symm).2; omega)
             obtain ⟨y0, y1, y2, y3⟩ := acc_blk hk4
             have HM4 := Lib.hid ((HM2.out.alloc (.cells #[.int .i64 cc] 3)).grown hg4 (by intro e; have := (HNE.out _ e.symm).1; omega))
             have HB4 := Lib.hid (((HB1.out.grown HG2.out (by simp only [World.size_alloc]; omega) (fun k hk => by cases hk; exact Nat.le_refl _)).alloc (by omega) (.cells #[.int .i64 cc] 3)).grown hg4 (by simp only [World.size_alloc]; omega) (fun k hk => by have := (HNE.out k hk).1; omega))
             have HO4 := Lib.hid hown4
             clear hown4 hg4 hat4 hk4))
        refine ⟨⟨a3, path ++ [cc], putB m cc true, rfl, ?_, HM4.out, ?_, HB4.out, HPS.out.1, HPS.out.2.1, by rw [List.length_append, List.length_singleton]; exact hpl2, ?_, HA.out⟩, ?_⟩
        · rw [List.length_append, List.length_singleton, List.map_append]
          exact HO4.out
        · intro x
          rw [getB_putB, contains_snoc, HG.out]
        · rw [List.length_append, List.length_singleton]
          exact FE.out
        · obtain ⟨A4, c4, rfl⟩ := own_slice HO4.out
          simp only [slLen]
          omega
theorem climbR_none {l : List SAcc} {n : Nat} {c : Int} (h : findA l c = none) : climbR l n c = [] := by
  cases n with
  | zero => rfl
  | succ n => unfold climbR; rw [h]
theorem climbR_step {l : List SAcc} {n : Nat} {c : Int} {a : SAcc} (h : findA l c = some a) : climbR l (n + 1) c = c :: climbR l n a.parent := by
  conv => lhs; unfold climbR
  rw [h]
set_option maxRecDepth 100000 in
set_option maxHeartbeats 4000000 in
theorem rclimb_any (l : List SAcc) (A : Option Addr) (n c : Nat) (code : Int) (B : Nat) (w : World) (hr : Reads w B 4 A n (accsC l)) (hB : B ≤ w.heap.size) (hn : n ≤ 1000) :
    Calls Tryz.prog 68 #[.slice A n c, .int .i64 code] w fun e w' => ∃ v, e = .returned v ∧ w'.ownsRow w.heap.size 3 1 v (climbR l (n + 1) code).length ((climbR l (n + 1) code).map (Value.int .i64)) ∧ Below w.heap.size w w' := by
  obtain ⟨i0, hi0, hz0, hz1, hz2⟩ := info_parts info_int
  have HL := Lib.hid (accs_len hr)
  have HR := Lib.hid hr
  clear hr
  generalize hP : climbR l (n + 1) code = P
  have HP := Lib.hid hP
  clear hP
  go_enter Tryz.func68, Tryz.ntmps68
  go_wp2_with fail
  go_loopw [1, 5, 6] (fun cv out iv wr => ∃ (cc : Int) (path : List Int) (k : Nat), cv = .int .i64 cc ∧ iv = .int .i64 k ∧ k ≤ n + 1 ∧ path.length = k ∧ wr.ownsRow w.heap.size 3 1 out path.length (path.map (Value.int .i64)) ∧ Below w.heap.size w wr ∧
      path ++ climbR l (n + 1 - k) cc = P) (fun _ _ iv _ => n + 1 - (intOf iv).toNat)
  case atStart => exact ⟨code, [], 0, rfl, rfl, by omega, rfl, World.ownsRow_nil _ _ _ _, Below.refl _ _, HP.out⟩
  case round =>
    obtain ⟨cc, path, k, rfl, rfl, hk, hpl, hown, hbr, hcp⟩ := hrel
    obtain ⟨wo, rfl⟩ : ∃ wo : World, wo = wr := ⟨_, rfl⟩
    obtain ⟨Ao, co, rfl⟩ := own_slice hown
    have HO := Lib.hid hown
    have HCP := Lib.hid hcp
    have HPL := Lib.hid hpl
    have HF := Lib.hid (rfind_any l A n c cc wo.heap.size wo ((HR.out.lowg hB (Nat.le_refl _) hbr).more (by have := hbr.size; omega)) (Nat.le_refl _) (by omega))
    have hs1 : w.heap.size ≤ wo.heap.size := hbr.size
    have hpk : path.length ≤ n + 1 := by omega
    clear hown hcp hpl
    by_cases hlt : k ≤ n
    · have k3 : decide ((k : Int) ≤ (n : Int)) = true := by rw [decide_eq_true_eq]; omega
      cases hf : findA l cc with
      | none =>
        have F := Lib.hid (findV_no hf)
        have FE : Hid (climbR l (n + 1 - k) cc = []) := climbR_none hf
        clear hf
        go_wp2_with fail
        refine HF.out.mono ?_
        rintro e w1 ⟨rfl, hb1⟩
        rw [F.out]
        have HO1 := Lib.hid ((own_below HO.out hb1).alloc (.cells #[.int .i64 0, .int .i64 0, .int .i64 0, .int .i64 0] 42))
        have HB1 := Lib.hid ((below_two hbr hb1).alloc (by have := hb1.size; omega) (.cells #[.int .i64 0, .int .i64 0, .int .i64 0, .int .i64 0] 42))
        clear hb1 HF
        go_wp2_with fail
        go_ret
        refine ⟨_, rfl, ?_, HB1.out⟩
        have e1 : P = path := by rw [← HCP.out, FE.out, List.append_nil]
        rw [e1]
        exact HO1.out
      | some a =>
        have F := Lib.hid (findV_yes hf)
        have FE : Hid (path ++ [cc] ++ climbR l (n + 1 - (k + 1)) a.parent = P) := by
          show _ = _
          have := HCP.out
          rw [show n + 1 - k = (n + 1 - (k + 1)) + 1 by omega, climbR_step hf] at this
          simpa using this
        clear hf
        obtain ⟨a0, a1, a2, a3⟩ := a
        simp only [] at F FE
        go_wp2_with fail
        refine HF.out.mono ?_
        rintro e w1 ⟨rfl, hb1⟩
        rw [F.out]
        have HO1 := Lib.hid ((own_below HO.out hb1).alloc (.cells #[.int .i64 a0, .int .i64 a1, .int .i64 a2, .int .i64 a3] 42))
        have HB1 := Lib.hid ((below_two hbr hb1).alloc (by have := hb1.size; omega) (.cells #[.int .i64 a0, .int .i64 a1, .int .i64 a2, .int .i64 a3] 42))
        have hs2 : wo.heap.size ≤ w1.heap.size := hb1.size
        have HK1 := Lib.hid (Blk.new w1 42 #[.int .i64 a0, .int .i64 a1, .int .i64 a2, .int .i64 a3])
        clear hb1 HF
        have HNE : Hid (∀ k, (Value.slice Ao path.length co).ownBlock = some k → w.heap.size ≤ k ∧ k < wo.heap.size) := by
          show ∀ _, _
          intro k hk
          exact ⟨own_base HO.out k hk, own_lt HO.out k hk⟩
        go_wp2_with (at_builtin; refine wpList_append_any _ rfl (.tmp 23) (.tmp 25) _ rfl w.heap.size 3 i0 _ 1 8 Tryz.underlying49 hi0 hz0 hz1 hz2 rfl (by omega) _ path.length (path.map (Value.int .i64)) rfl (HO1.out.alloc _) (w1.heap.size + 1 + 1) (some ⟨w1.heap.size + 1, 0, none⟩) 1 1 [.int .i64 cc] rfl (by have := reads_one (w1.alloc (.cells #[.int .i64 a0, .int .i64 a1, .int .i64 a2, .int .i64 a3] 42)) #[.int .i64 cc] 3 1 rfl; rw [World.size_alloc] at this; exact this) (int_one cc) (by simp only [maxLen]; omega) (by omega) (by simp only [World.size_alloc]; omega) ?_; intro v4 w4 hown4 hg4 hat4
                     have hk4 := (HK1.out.alloc (.cells #[.int .i64 cc] 3)).grown hg4 (by intro e; have := (HNE.out _ e.symm).2; omega)
                     obtain ⟨y0, y1, y2, y3⟩ := acc_blk hk4
                     have HB4 := Lib.hid ((HB1.out.alloc (by simp only [World.size_alloc]; omega) (.cells #[.int .i64 cc] 3)).grown hg4 (by simp only [World.size_alloc]; omega) (fun k hk => by have := (HNE.out k hk).1; omega))
                     have HO4 := Lib.hid hown4
                     clear hown4 hg4 hat4 hk4)
        refine ⟨⟨a3, path ++ [cc], k + 1, rfl, by go_num, by omega, by rw [List.length_append, HPL.out]; rfl, ?_, HB4.out, FE.out⟩, by simp [intOf]; omega⟩
        rw [List.length_append, List.length_singleton, List.map_append]
        exact HO4.out
    · have k3 : decide ((k : Int) ≤ (n : Int)) = false := by rw [decide_eq_false_iff_not]; omega
      have hk1 : n + 1 - k = 0 := by omega
      have e1 : Hid (P = path) := by
        show _ = _
        rw [← HCP.out, hk1]
        simp [climbR]
      clear hk1
      go_wp2_with fail
      go_ret
      refine ⟨_, rfl, ?_, hbr⟩
      rw [e1.out]
      exact HO.out
end Go.Proofs.YtcmmppkmkejniaaGreatDoor
namespace Go.Proofs.YtcmmppkmkejniaaGreatDoor
open Go.RowKit
set_option linter.unusedVariables false
theorem accIn_iff {g : Bool} {a : SAcc} : accIn g a = true ↔ 1 ≤ a.code ∧ a.code ≤ 99999 ∧ 1 ≤ a.kind ∧ a.kind ≤ 5 ∧ (g = true → 1 ≤ a.basis ∧ a.basis ≤ 3) ∧ (g = false → a.basis = 0) := by
  unfold accIn
  cases g <;> simp [and_assoc]
theorem accIn_no {g : Bool} {a : SAcc} (h : ¬ (1 ≤ a.code ∧ a.code ≤ 99999 ∧ 1 ≤ a.kind ∧ a.kind ≤ 5 ∧ (g = true → 1 ≤ a.basis ∧ a.basis ≤ 3) ∧ (g = false → a.basis = 0))) : accIn g a = false := by
  cases e : accIn g a
  · rfl
  · exact absurd (accIn_iff.1 e) h
theorem properP_no {l : List SAcc} {g : Bool} {a : SAcc} (h : accIn g a = false) : properP l g a = false := by unfold properP; rw [h]; rfl
theorem properR_no {l : List SAcc} {g : Bool} {a : SAcc} (h : accIn g a = false) : properR l g a = false := by unfold properR; rw [h]; rfl
theorem properP_0 {l : List SAcc} {g : Bool} {a : SAcc} (h : accIn g a = true) (h0 : a.parent = 0) : properP l g a = true := by unfold properP; rw [h, h0]; rfl
theorem properR_0 {l : List SAcc} {g : Bool} {a : SAcc} (h : accIn g a = true) (h0 : a.parent = 0) : properR l g a = true := by unfold properR; rw [h, h0]; rfl
theorem properP_par {l : List SAcc} {g : Bool} {a : SAcc} (h : accIn g a = true) (h0 : (a.parent == 0) = false) : properP l g a = (parOk l a && (topA l a.code).parent == 0) := by unfold properP; rw [h, h0]; simp
theorem properR_par {l : List SAcc} {g : Bool} {a : SAcc} (h : accIn g a = true) (h0 : (a.parent == 0) = false) : properR l g a = parOk l a := by unfold properR; rw [h, h0]; simp
theorem parOk_none {l : List SAcc} {a : SAcc} (h : findA l a.parent = none) : parOk l a = false := by unfold parOk; rw [h]
theorem parOk_at {l : List SAcc} {a p : SAcc} (h : findA l a.parent = some p) : parOk l a = ((p.code != a.code) && p.kind == a.kind) := by unfold parOk; rw [h]
theorem getLast_at {xs : List Int} {m : Nat} (h : xs.length = m + 1) : xs.getD m 0 = xs.getLastD 0 := by
  have hm : xs ≠ [] := by rintro rfl; simp at h
  rw [List.getLastD_eq_getLast?, List.getLast?_eq_some_getLast hm, List.getLast_eq_getElem hm]
  have e : xs.length - 1 = m := by omega
  simp only [e, Option.getD_some, List.getD_eq_getElem?_getD]
  rw [List.getElem?_eq_getElem (by omega)]; rfl
set_option maxRecDepth 100000 in
set_option maxHeartbeats 8000000 in
theorem rproper_any (l : List SAcc) (A : Option Addr) (n c : Nat) (a : SAcc) (g : Bool) (B : Nat) (w : World) (hr : Reads w B 4 A n (accsC l)) (hB : B ≤ w.heap.size) (hn : n ≤ 1000) :
    Calls Tryz.prog 67 #[.slice A n c, accV a, .bool g] w fun e w' => e = .returned (.bool (properR l g a)) ∧ Below w.heap.size w w' := by
  obtain ⟨x0, x1, x2, x3⟩ := a
  unfold accV
  simp only []
  have HL := Lib.hid (accs_len hr)
  have HR := Lib.hid hr
  have hb0 := (Below.refl w.heap.size w).alloc (Nat.le_refl _) (.cells #[.int .i64 x0, .int .i64 x1, .int .i64 x2, .int .i64 x3] 42)
  have HB0 := Lib.hid hb0
  have HK := Lib.hid (Blk.new w 42 #[.int .i64 x0, .int .i64 x1, .int .i64 x2, .int .i64 x3])
  clear hr hb0
  generalize hgo : properR l g ⟨x0, x1, x2, x3⟩ = ok
  have HG := Lib.hid hgo.symm
  clear hgo
  by_cases t1 : x0 < 1
  · have d1 : (decide (x0 < 1)) = true := by rw [decide_eq_true_eq]; omega
    have F := Lib.hid (properR_no (l := l) (accIn_no (g := g) (a := ⟨x0, x1, x2, x3⟩) (by dsimp only; rintro ⟨h, _⟩; omega)))
    go_enter Tryz.func67, Tryz.ntmps67
    go_wp2_with fail
    go_ret
    exact ⟨ret_bool (HG.out.trans F.out).symm, HB0.out⟩
  have d1 : (decide (x0 < 1)) = false := by rw [decide_eq_false_iff_not]; omega
  by_cases t2 : 99999 < x0
  · have d2 : (decide (99999 < x0)) = true := by rw [decide_eq_true_eq]; omega
    have F := Lib.hid (properR_no (l := l) (accIn_no (g := g) (a := ⟨x0, x1, x2, x3⟩) (by dsimp only; rintro ⟨_, h, _⟩; omega)))
    go_enter Tryz.func67, Tryz.ntmps67
    go_wp2_with fail
    go_ret
    exact ⟨ret_bool (HG.out.trans F.out).symm, HB0.out⟩
  have d2 : (decide (99999 < x0)) = false := by rw [decide_eq_false_iff_not]; omega
  by_cases t3 : x1 < 1
  · have d3 : (decide (x1 < 1)) = true := by rw [decide_eq_true_eq]; omega
    have F := Lib.hid (properR_no (l := l) (accIn_no (g := g) (a := ⟨x0, x1, x2, x3⟩) (by dsimp only; rintro ⟨_, _, h, _⟩; omega)))
    go_enter Tryz.func67, Tryz.ntmps67
    go_wp2_with fail
    go_ret
    exact ⟨ret_bool (HG.out.trans F.out).symm, HB0.out⟩
  have d3 : (decide (x1 < 1)) = false := by rw [decide_eq_false_iff_not]; omega
  by_cases t4 : 5 < x1
  · have d4 : (decide (5 < x1)) = true := by rw [decide_eq_true_eq]; omega
    have F := Lib.hid (properR_no (l := l) (accIn_no (g := g) (a := ⟨x0, x1, x2, x3⟩) (by dsimp only; rintro ⟨_, _, _, h, _⟩; omega)))
    go_enter Tryz.func67, Tryz.ntmps67
    go_wp2_with fail
    go_ret
    exact ⟨ret_bool (HG.out.trans F.out).symm, HB0.out⟩
  have d4 : (decide (5 < x1)) = false := by rw [decide_eq_false_iff_not]; omega
  cases g
  case false =>
    by_cases t7 : x2 = 0
    case neg =>
      have d7 : (x2 != 0) = true := by rw [bne_iff_ne]; exact t7
      have F := Lib.hid (properR_no (l := l) (accIn_no (g := false) (a := ⟨x0, x1, x2, x3⟩) (by dsimp only; rintro ⟨_, _, _, _, _, h⟩; have := h rfl; omega)))
      go_enter Tryz.func67, Tryz.ntmps67
      go_wp2_with fail
      go_ret
      exact ⟨ret_bool (HG.out.trans F.out).symm, HB0.out⟩
    case pos =>
      have d7 : (x2 != 0) = false := by rw [bne_eq_false_iff_eq]; exact t7
      have t7a : 0 ≤ x2 := by omega
      have t7b : x2 ≤ 0 := by omega
      clear t7
      have HIN := Lib.hid ((accIn_iff (g := false) (a := ⟨x0, x1, x2, x3⟩)).2 (by dsimp only; exact ⟨by omega, by omega, by omega, by omega, (fun h => by cases h), (fun _ => by omega)⟩))
      by_cases t8 : x3 = 0
      · have d8 : (x3 == 0) = true := by rw [beq_iff_eq]; exact t8
        have F := Lib.hid (properR_0 (l := l) HIN.out t8)
        clear t8
        go_enter Tryz.func67, Tryz.ntmps67
        go_wp2_with fail
        go_ret
        exact ⟨ret_bool (HG.out.trans F.out).symm, HB0.out⟩
      have d8 : (x3 == 0) = false := by rw [beq_eq_false_iff_ne]; exact t8
      have HPP := Lib.hid (properR_par (l := l) HIN.out d8)
      clear t8
      cases hf : findA l x3 with
      | none =>
        have FV := Lib.hid (findV_no hf)
        have F : Hid (properR l false ⟨x0, x1, x2, x3⟩ = false) := by show _ = _; rw [HPP.out, parOk_none hf]
        clear hf
        go_enter Tryz.func67, Tryz.ntmps67
        go_wp2_with fail
        have HFC := Lib.hid (rfind_any l A n c x3 B _ (HR.out.lowg hB (Nat.le_refl _) HB0.out) (by simp only [World.size_alloc]; omega) (by omega))
        refine HFC.out.mono ?_
        rintro e w1 ⟨rfl, hb1⟩
        rw [FV.out]
        have HB1 := Lib.hid (below_two HB0.out hb1)
        have HK1 := Lib.hid (HK.out.below hb1 (by simp))
        obtain ⟨c0, c1, c2, c3⟩ := acc_blk HK1.out
        have hs1 : w.heap.size < w1.heap.size := by have := hb1.size; simp only [World.size_alloc] at this; omega
        clear hb1 HFC
        go_wp2_with fail
        go_ret
        exact ⟨ret_bool (HG.out.trans F.out).symm, HB1.out.alloc (by omega) _⟩
      | some p =>
        have FV := Lib.hid (findV_yes hf)
        have HPO : Hid (properR l false ⟨x0, x1, x2, x3⟩ = ((p.code != x0) && p.kind == x1)) := by show _ = _; rw [HPP.out, parOk_at hf]
        clear hf
        obtain ⟨p0, p1, p2, p3⟩ := p
        simp only [] at FV HPO
        cases e1 : p0 == x0
        · have e1' : (p0 != x0) = true := by rw [bne, e1]; rfl
          cases e2 : p1 == x1
          all_goals
            have F : Hid (properR l false ⟨x0, x1, x2, x3⟩ = (p1 == x1)) := by show _ = _; rw [HPO.out, e1']; rfl
            rw [e2] at F
            have HE1 := Lib.hid e1
            go_enter Tryz.func67, Tryz.ntmps67
            go_wp2_with fail
            have HFC := Lib.hid (rfind_any l A n c x3 B _ (HR.out.lowg hB (Nat.le_refl _) HB0.out) (by simp only [World.size_alloc]; omega) (by omega))
            refine HFC.out.mono ?_
            rintro e w1 ⟨rfl, hb1⟩
            rw [FV.out]
            have HB1 := Lib.hid (below_two HB0.out hb1)
            have HK1 := Lib.hid (HK.out.below hb1 (by simp))
            obtain ⟨c0, c1, c2, c3⟩ := acc_blk HK1.out
            have hs1 : w.heap.size < w1.heap.size := by have := hb1.size; simp only [World.size_alloc] at this; omega
            clear hb1 HFC
            go_wp2_with fail
            go_ret
            exact ⟨ret_bool (HG.out.trans F.out).symm, HB1.out.alloc (by omega) _⟩
        · have e1' : (p0 != x0) = false := by rw [bne, e1]; rfl
          have F : Hid (properR l false ⟨x0, x1, x2, x3⟩ = false) := by show _ = _; rw [HPO.out]; rw [e1']; rfl
          go_enter Tryz.func67, Tryz.ntmps67
          go_wp2_with fail
          have HFC := Lib.hid (rfind_any l A n c x3 B _ (HR.out.lowg hB (Nat.le_refl _) HB0.out) (by simp only [World.size_alloc]; omega) (by omega))
          refine HFC.out.mono ?_
          rintro e w1 ⟨rfl, hb1⟩
          rw [FV.out]
          have HB1 := Lib.hid (below_two HB0.out hb1)
          have HK1 := Lib.hid (HK.out.below hb1 (by simp))
          obtain ⟨c0, c1, c2, c3⟩ := acc_blk HK1.out
          have hs1 : w.heap.size < w1.heap.size := by have := hb1.size; simp only [World.size_alloc] at this; omega
          clear hb1 HFC
          go_wp2_with fail
          go_ret
          exact ⟨ret_bool (HG.out.trans F.out).symm, HB1.out.alloc (by omega) _⟩
  case true =>
    by_cases t5 : x2 < 1
    · have d5 : (decide (x2 < 1)) = true := by rw [decide_eq_true_eq]; omega
      have F := Lib.hid (properR_no (l := l) (accIn_no (g := true) (a := ⟨x0, x1, x2, x3⟩) (by dsimp only; rintro ⟨_, _, _, _, h, _⟩; have := h rfl; omega)))
      go_enter Tryz.func67, Tryz.ntmps67
      go_wp2_with fail
      go_ret
      exact ⟨ret_bool (HG.out.trans F.out).symm, HB0.out⟩
    have d5 : (decide (x2 < 1)) = false := by rw [decide_eq_false_iff_not]; omega
    by_cases t6 : 3 < x2
    · have d6 : (decide (3 < x2)) = true := by rw [decide_eq_true_eq]; omega
      have F := Lib.hid (properR_no (l := l) (accIn_no (g := true) (a := ⟨x0, x1, x2, x3⟩) (by dsimp only; rintro ⟨_, _, _, _, h, _⟩; have := h rfl; omega)))
      go_enter Tryz.func67, Tryz.ntmps67
      go_wp2_with fail
      go_ret
      exact ⟨ret_bool (HG.out.trans F.out).symm, HB0.out⟩
    have d6 : (decide (3 < x2)) = false := by rw [decide_eq_false_iff_not]; omega
    have HIN := Lib.hid ((accIn_iff (g := true) (a := ⟨x0, x1, x2, x3⟩)).2 (by dsimp only; exact ⟨by omega, by omega, by omega, by omega, (fun _ => ⟨by omega, by omega⟩), (fun h => by cases h)⟩))
    by_cases t8 : x3 = 0
    · have d8 : (x3 == 0) = true := by rw [beq_iff_eq]; exact t8
      have F := Lib.hid (properR_0 (l := l) HIN.out t8)
      clear t8
      go_enter Tryz.func67, Tryz.ntmps67
      go_wp2_with fail
      go_ret
      exact ⟨ret_bool (HG.out.trans F.out).symm, HB0.out⟩
    have d8 : (x3 == 0) = false := by rw [beq_eq_false_iff_ne]; exact t8
    have HPP := Lib.hid (properR_par (l := l) HIN.out d8)
    clear t8
    cases hf : findA l x3 with
    | none =>
      have FV := Lib.hid (findV_no hf)
      have F : Hid (properR l true ⟨x0, x1, x2, x3⟩ = false) := by show _ = _; rw [HPP.out, parOk_none hf]
      clear hf
      go_enter Tryz.func67, Tryz.ntmps67
      go_wp2_with fail
      have HFC := Lib.hid (rfind_any l A n c x3 B _ (HR.out.lowg hB (Nat.le_refl _) HB0.out) (by simp only [World.size_alloc]; omega) (by omega))
      refine HFC.out.mono ?_
      rintro e w1 ⟨rfl, hb1⟩
      rw [FV.out]
      have HB1 := Lib.hid (below_two HB0.out hb1)
      have HK1 := Lib.hid (HK.out.below hb1 (by simp))
      obtain ⟨c0, c1, c2, c3⟩ := acc_blk HK1.out
      have hs1 : w.heap.size < w1.heap.size := by have := hb1.size; simp only [World.size_alloc] at this; omega
      clear hb1 HFC
      go_wp2_with fail
      go_ret
      exact ⟨ret_bool (HG.out.trans F.out).symm, HB1.out.alloc (by omega) _⟩
    | some p =>
      have FV := Lib.hid (findV_yes hf)
      have HPO : Hid (properR l true ⟨x0, x1, x2, x3⟩ = ((p.code != x0) && p.kind == x1)) := by show _ = _; rw [HPP.out, parOk_at hf]
      clear hf
      obtain ⟨p0, p1, p2, p3⟩ := p
      simp only [] at FV HPO
      cases e1 : p0 == x0
      · have e1' : (p0 != x0) = true := by rw [bne, e1]; rfl
        cases e2 : p1 == x1
        all_goals
          have F : Hid (properR l true ⟨x0, x1, x2, x3⟩ = (p1 == x1)) := by show _ = _; rw [HPO.out, e1']; rfl
          rw [e2] at F
          have HE1 := Lib.hid e1
          go_enter Tryz.func67, Tryz.ntmps67
          go_wp2_with fail
          have HFC := Lib.hid (rfind_any l A n c x3 B _ (HR.out.lowg hB (Nat.le_refl _) HB0.out) (by simp only [World.size_alloc]; omega) (by omega))
          refine HFC.out.mono ?_
          rintro e w1 ⟨rfl, hb1⟩
          rw [FV.out]
          have HB1 := Lib.hid (below_two HB0.out hb1)
          have HK1 := Lib.hid (HK.out.below hb1 (by simp))
          obtain ⟨c0, c1, c2, c3⟩ := acc_blk HK1.out
          have hs1 : w.heap.size < w1.heap.size := by have := hb1.size; simp only [World.size_alloc] at this; omega
          clear hb1 HFC
          go_wp2_with fail
          go_ret
          exact ⟨ret_bool (HG.out.trans F.out).symm, HB1.out.alloc (by omega) _⟩
      · have e1' : (p0 != x0) = false := by rw [bne, e1]; rfl
        have F : Hid (properR l true ⟨x0, x1, x2, x3⟩ = false) := by show _ = _; rw [HPO.out]; rw [e1']; rfl
        go_enter Tryz.func67, Tryz.ntmps67
        go_wp2_with fail
        have HFC := Lib.hid (rfind_any l A n c x3 B _ (HR.out.lowg hB (Nat.le_refl _) HB0.out) (by simp only [World.size_alloc]; omega) (by omega))
        refine HFC.out.mono ?_
        rintro e w1 ⟨rfl, hb1⟩
        rw [FV.out]
        have HB1 := Lib.hid (below_two HB0.out hb1)
        have HK1 := Lib.hid (HK.out.below hb1 (by simp))
        obtain ⟨c0, c1, c2, c3⟩ := acc_blk HK1.out
        have hs1 : w.heap.size < w1.heap.size := by have := hb1.size; simp only [World.size_alloc] at this; omega
        clear hb1 HFC
        go_wp2_with fail
        go_ret
        exact ⟨ret_bool (HG.out.trans F.out).symm, HB1.out.alloc (by omega) _⟩
set_option maxRecDepth 100000 in
set_option maxHeartbeats 8000000 in
theorem proper_anyP (l : List SAcc) (A : Option Addr) (n c : Nat) (a : SAcc) (g : Bool) (B : Nat) (w : World) (hr : Reads w B 4 A n (accsC l)) (hB : B ≤ w.heap.size) (hn : n ≤ 1000) (hok : ∀ x ∈ l, AccOk x) (hil : ∃ b, findA l a.code = some b) (hx : okI a.code) :
    Calls Tryz.prog 107 #[.slice A n c, accV a, .bool g] w fun e w' => e = .returned (.bool (properP l g a)) ∧ Below w.heap.size w w' := by
  obtain ⟨x0, x1, x2, x3⟩ := a
  unfold accV
  simp only [] at hil hx ⊢
  have HL := Lib.hid (accs_len hr)
  have HR := Lib.hid hr
  have HOK := Lib.hid hok
  have HIL := Lib.hid hil
  have HX := Lib.hid hx
  clear hok hil hx
  have hb0 := (Below.refl w.heap.size w).alloc (Nat.le_refl _) (.cells #[.int .i64 x0, .int .i64 x1, .int .i64 x2, .int .i64 x3] 42)
  have HB0 := Lib.hid hb0
  have HK := Lib.hid (Blk.new w 42 #[.int .i64 x0, .int .i64 x1, .int .i64 x2, .int .i64 x3])
  clear hr hb0
  generalize hgo : properP l g ⟨x0, x1, x2, x3⟩ = ok
  have HG := Lib.hid hgo.symm
  clear hgo
  by_cases t1 : x0 < 1
  · have d1 : (decide (x0 < 1)) = true := by rw [decide_eq_true_eq]; omega
    have F := Lib.hid (properP_no (l := l) (accIn_no (g := g) (a := ⟨x0, x1, x2, x3⟩) (by dsimp only; rintro ⟨h, _⟩; omega)))
    go_enter Tryz.func107, Tryz.ntmps107
    go_wp2_with fail
    go_ret
    exact ⟨ret_bool (HG.out.trans F.out).symm, HB0.out⟩
  have d1 : (decide (x0 < 1)) = false := by rw [decide_eq_false_iff_not]; omega
  by_cases t2 : 99999 < x0
  · have d2 : (decide (99999 < x0)) = true := by rw [decide_eq_true_eq]; omega
    have F := Lib.hid (properP_no (l := l) (accIn_no (g := g) (a := ⟨x0, x1, x2, x3⟩) (by dsimp only; rintro ⟨_, h, _⟩; omega)))
    go_enter Tryz.func107, Tryz.ntmps107
    go_wp2_with fail
    go_ret
    exact ⟨ret_bool (HG.out.trans F.out).symm, HB0.out⟩
  have d2 : (decide (99999 < x0)) = false := by rw [decide_eq_false_iff_not]; omega
  by_cases t3 : x1 < 1
  · have d3 : (decide (x1 < 1)) = true := by rw [decide_eq_true_eq]; omega
    have F := Lib.hid (properP_no (l := l) (accIn_no (g := g) (a := ⟨x0, x1, x2, x3⟩) (by dsimp only; rintro ⟨_, _, h, _⟩; omega)))
    go_enter Tryz.func107, Tryz.ntmps107
    go_wp2_with fail
    go_ret
    exact ⟨ret_bool (HG.out.trans F.out).symm, HB0.out⟩
  have d3 : (decide (x1 < 1)) = false := by rw [decide_eq_false_iff_not]; omega
  by_cases t4 : 5 < x1
  · have d4 : (decide (5 < x1)) = true := by rw [decide_eq_true_eq]; omega
    have F := Lib.hid (properP_no (l := l) (accIn_no (g := g) (a := ⟨x0, x1, x2, x3⟩) (by dsimp only; rintro ⟨_, _, _, h, _⟩; omega)))
    go_enter Tryz.func107, Tryz.ntmps107
    go_wp2_with fail
    go_ret
    exact ⟨ret_bool (HG.out.trans F.out).symm, HB0.out⟩
  have d4 : (decide (5 < x1)) = false := by rw [decide_eq_false_iff_not]; omega
  cases g
  case false =>
    by_cases t7 : x2 = 0
    case neg =>
      have d7 : (x2 != 0) = true := by rw [bne_iff_ne]; exact t7
      have F := Lib.hid (properP_no (l := l) (accIn_no (g := false) (a := ⟨x0, x1, x2, x3⟩) (by dsimp only; rintro ⟨_, _, _, _, _, h⟩; have := h rfl; omega)))
      go_enter Tryz.func107, Tryz.ntmps107
      go_wp2_with fail
      go_ret
      exact ⟨ret_bool (HG.out.trans F.out).symm, HB0.out⟩
    case pos =>
      have d7 : (x2 != 0) = false := by rw [bne_eq_false_iff_eq]; exact t7
      have t7a : 0 ≤ x2 := by omega
      have t7b : x2 ≤ 0 := by omega
      clear t7
      have HIN := Lib.hid ((accIn_iff (g := false) (a := ⟨x0, x1, x2, x3⟩)).2 (by dsimp only; exact ⟨by omega, by omega, by omega, by omega, (fun h => by cases h), (fun _ => by omega)⟩))
      by_cases t8 : x3 = 0
      · have d8 : (x3 == 0) = true := by rw [beq_iff_eq]; exact t8
        have F := Lib.hid (properP_0 (l := l) HIN.out t8)
        clear t8
        go_enter Tryz.func107, Tryz.ntmps107
        go_wp2_with fail
        go_ret
        exact ⟨ret_bool (HG.out.trans F.out).symm, HB0.out⟩
      have d8 : (x3 == 0) = false := by rw [beq_eq_false_iff_ne]; exact t8
      have HPP := Lib.hid (properP_par (l := l) HIN.out d8)
      clear t8
      cases hf : findA l x3 with
      | none =>
        have FV := Lib.hid (findV_no hf)
        have F : Hid (properP l false ⟨x0, x1, x2, x3⟩ = false) := by show _ = _; rw [HPP.out, parOk_none hf]; rfl
        clear hf
        go_enter Tryz.func107, Tryz.ntmps107
        go_wp2_with fail
        have HFC := Lib.hid (find_any l A n c x3 B _ (HR.out.lowg hB (Nat.le_refl _) HB0.out) (by simp only [World.size_alloc]; omega) (by omega))
        refine HFC.out.mono ?_
        rintro e w1 ⟨rfl, hb1⟩
        rw [FV.out]
        have HB1 := Lib.hid (below_two HB0.out hb1)
        have HK1 := Lib.hid (HK.out.below hb1 (by simp))
        obtain ⟨c0, c1, c2, c3⟩ := acc_blk HK1.out
        have hs1 : w.heap.size < w1.heap.size := by have := hb1.size; simp only [World.size_alloc] at this; omega
        clear hb1 HFC
        go_wp2_with fail
        go_ret
        exact ⟨ret_bool (HG.out.trans F.out).symm, HB1.out.alloc (by omega) _⟩
      | some p =>
        have FV := Lib.hid (findV_yes hf)
        have HPO : Hid (properP l false ⟨x0, x1, x2, x3⟩ = (((p.code != x0) && p.kind == x1) && (topA l x0).parent == 0)) := by show _ = _; rw [HPP.out, parOk_at hf]
        clear hf
        obtain ⟨p0, p1, p2, p3⟩ := p
        simp only [] at FV HPO
        cases e1 : p0 == x0
        case true =>
          have e1' : (p0 != x0) = false := by rw [bne, e1]; rfl
          have F : Hid (properP l false ⟨x0, x1, x2, x3⟩ = false) := by show _ = _; rw [HPO.out]; rw [e1']; rfl
          go_enter Tryz.func107, Tryz.ntmps107
          go_wp2_with fail
          have HFC := Lib.hid (find_any l A n c x3 B _ (HR.out.lowg hB (Nat.le_refl _) HB0.out) (by simp only [World.size_alloc]; omega) (by omega))
          refine HFC.out.mono ?_
          rintro e w1 ⟨rfl, hb1⟩
          rw [FV.out]
          have HB1 := Lib.hid (below_two HB0.out hb1)
          have HK1 := Lib.hid (HK.out.below hb1 (by simp))
          obtain ⟨c0, c1, c2, c3⟩ := acc_blk HK1.out
          have hs1 : w.heap.size < w1.heap.size := by have := hb1.size; simp only [World.size_alloc] at this; omega
          clear hb1 HFC
          go_wp2_with fail
          go_ret
          exact ⟨ret_bool (HG.out.trans F.out).symm, HB1.out.alloc (by omega) _⟩
        case false =>
          have e1' : (p0 != x0) = true := by rw [bne, e1]; rfl
          cases e2 : p1 == x1
          case false =>
            have e2' : (p1 != x1) = true := by rw [bne, e2]; rfl
            have F : Hid (properP l false ⟨x0, x1, x2, x3⟩ = false) := by show _ = _; rw [HPO.out]; rw [e1', e2]; rfl
            go_enter Tryz.func107, Tryz.ntmps107
            go_wp2_with fail
            have HFC := Lib.hid (find_any l A n c x3 B _ (HR.out.lowg hB (Nat.le_refl _) HB0.out) (by simp only [World.size_alloc]; omega) (by omega))
            refine HFC.out.mono ?_
            rintro e w1 ⟨rfl, hb1⟩
            rw [FV.out]
            have HB1 := Lib.hid (below_two HB0.out hb1)
            have HK1 := Lib.hid (HK.out.below hb1 (by simp))
            obtain ⟨c0, c1, c2, c3⟩ := acc_blk HK1.out
            have hs1 : w.heap.size < w1.heap.size := by have := hb1.size; simp only [World.size_alloc] at this; omega
            clear hb1 HFC
            go_wp2_with fail
            go_ret
            exact ⟨ret_bool (HG.out.trans F.out).symm, HB1.out.alloc (by omega) _⟩
          case true =>
            have e2' : (p1 != x1) = false := by rw [bne, e2]; rfl
            have F : Hid (properP l false ⟨x0, x1, x2, x3⟩ = ((topA l x0).parent == 0)) := by show _ = _; rw [HPO.out, e1', e2]; simp
            have HE := Lib.hid (And.intro e1 (And.intro e2 (And.intro e1' e2')))
            go_enter Tryz.func107, Tryz.ntmps107
            go_wp2_with fail
            have HFC := Lib.hid (find_any l A n c x3 B _ (HR.out.lowg hB (Nat.le_refl _) HB0.out) (by simp only [World.size_alloc]; omega) (by omega))
            refine HFC.out.mono ?_
            rintro e w1 ⟨rfl, hb1⟩
            rw [FV.out]
            have HB1 := Lib.hid (below_two HB0.out hb1)
            have HK1 := Lib.hid (HK.out.below hb1 (by simp))
            obtain ⟨c0, c1, c2, c3⟩ := acc_blk HK1.out
            have hs1 : w.heap.size < w1.heap.size := by have := hb1.size; simp only [World.size_alloc] at this; omega
            clear hb1 HFC
            go_wp2_with fail
            have HB2 := Lib.hid (HB1.out.alloc (by omega) (.cells #[.int .i64 p0, .int .i64 p1, .int .i64 p2, .int .i64 p3] 42))
            have HCC := Lib.hid (climb_any l A n c x0 B _ (HR.out.lowg hB (Nat.le_refl _) HB2.out) (by simp only [World.size_alloc]; omega) hn HOK.out HX.out)
            generalize w1.alloc _ = w2 at *
            have hs2 := HB2.out.size
            refine HCC.out.mono ?_
            rintro e w3 ⟨v, rfl, hown, hb3⟩
            obtain ⟨tt, htt, htp⟩ := climbP_top l (l.length + 1) x0 [] (fun h => absurd rfl h) (by obtain ⟨b, hb⟩ := HIL.out; have := climbP_ne (findA_mem hb); rw [findA_code hb] at this; exact this)
            have HT : Hid (((topA l x0).parent == 0) = (tt.parent == 0)) := by show _ = _; unfold topA; rw [htt]; rfl
            have HNE := climbP_ne (findA_mem HIL.out.choose_spec)
            rw [findA_code HIL.out.choose_spec] at HNE
            have HPN := climbP_ok l (l.length + 1) x0 [] (by simp) (by simp)
            have hpn := nodup_len _ _ HPN.1 HPN.2
            rw [List.length_map] at hpn
            clear HPN
            rw [HL.out] at htt HNE hpn
            have HTT := Lib.hid (findV_yes htt)
            clear htt htp
            generalize (climbP l (n + 1) x0 []).1 = PP at *
            obtain ⟨m, hm⟩ : ∃ m, PP.length = m + 1 := ⟨PP.length - 1, by have := List.length_pos_iff.2 HNE; omega⟩
            have HGL := Lib.hid (getLast_at hm)
            rw [hm] at hown hpn
            obtain ⟨A3, c3', rfl⟩ := own_slice hown
            obtain ⟨ad, rfl, hba, hca⟩ := (Reads.of_own hown).int_at (k := m) (by omega)
            rw [HGL.out] at hca
            have HB3 := Lib.hid (below_two HB2.out hb3)
            generalize PP.getLastD 0 = topc at *
            clear hown hm HNE HGL hb3 hs2 HCC c0 c1 c2 c3
            have hs4 := HB3.out.size
            have HFD := Lib.hid (find_any l A n c topc B w3 (HR.out.lowg hB (Nat.le_refl _) HB3.out) (by omega) (by omega))
            go_wp2_with fail
            refine HFD.out.mono ?_
            rintro e w4 ⟨rfl, hb4⟩
            rw [HTT.out]
            have HB4 := Lib.hid (below_two HB3.out hb4)
            have hs5 := HB4.out.size
            clear hb4 HFD hca
            obtain ⟨q0, q1, q2, q3⟩ := tt
            simp only [] at HT
            go_wp2_with fail
            go_ret
            exact ⟨ret_bool (by rw [HG.out, F.out, HT.out]), HB4.out.alloc (by omega) _⟩
  case true =>
    by_cases t5 : x2 < 1
    · have d5 : (decide (x2 < 1)) = true := by rw [decide_eq_true_eq]; omega
      have F := Lib.hid (properP_no (l := l) (accIn_no (g := true) (a := ⟨x0, x1, x2, x3⟩) (by dsimp only; rintro ⟨_, _, _, _, h, _⟩; have := h rfl; omega)))
      go_enter Tryz.func107, Tryz.ntmps107
      go_wp2_with fail
      go_ret
      exact ⟨ret_bool (HG.out.trans F.out).symm, HB0.out⟩
    have d5 : (decide (x2 < 1)) = false := by rw [decide_eq_false_iff_not]; omega
    by_cases t6 : 3 < x2
    · have d6 : (decide (3 < x2)) = true := by rw [decide_eq_true_eq]; omega
      have F := Lib.hid (properP_no (l := l) (accIn_no (g := true) (a := ⟨x0, x1, x2, x3⟩) (by dsimp only; rintro ⟨_, _, _, _, h, _⟩; have := h rfl; omega)))
      go_enter Tryz.func107, Tryz.ntmps107
      go_wp2_with fail
      go_ret
      exact ⟨ret_bool (HG.out.trans F.out).symm, HB0.out⟩
    have d6 : (decide (3 < x2)) = false := by rw [decide_eq_false_iff_not]; omega
    have HIN := Lib.hid ((accIn_iff (g := true) (a := ⟨x0, x1, x2, x3⟩)).2 (by dsimp only; exact ⟨by omega, by omega, by omega, by omega, (fun _ => ⟨by omega, by omega⟩), (fun h => by cases h)⟩))
    by_cases t8 : x3 = 0
    · have d8 : (x3 == 0) = true := by rw [beq_iff_eq]; exact t8
      have F := Lib.hid (properP_0 (l := l) HIN.out t8)
      clear t8
      go_enter Tryz.func107, Tryz.ntmps107
      go_wp2_with fail
      go_ret
      exact ⟨ret_bool (HG.out.trans F.out).symm, HB0.out⟩
    have d8 : (x3 == 0) = false := by rw [beq_eq_false_iff_ne]; exact t8
    have HPP := Lib.hid (properP_par (l := l) HIN.out d8)
    clear t8
    cases hf : findA l x3 with
    | none =>
      have FV := Lib.hid (findV_no hf)
      have F : Hid (properP l true ⟨x0, x1, x2, x3⟩ = false) := by show _ = _; rw [HPP.out, parOk_none hf]; rfl
      clear hf
      go_enter Tryz.func107, Tryz.ntmps107
      go_wp2_with fail
      have HFC := Lib.hid (find_any l A n c x3 B _ (HR.out.lowg hB (Nat.le_refl _) HB0.out) (by simp only [World.size_alloc]; omega) (by omega))
      refine HFC.out.mono ?_
      rintro e w1 ⟨rfl, hb1⟩
      rw [FV.out]
      have HB1 := Lib.hid (below_two HB0.out hb1)
      have HK1 := Lib.hid (HK.out.below hb1 (by simp))
      obtain ⟨c0, c1, c2, c3⟩ := acc_blk HK1.out
      have hs1 : w.heap.size < w1.heap.size := by have := hb1.size; simp only [World.size_alloc] at this; omega
      clear hb1 HFC
      go_wp2_with fail
      go_ret
      exact ⟨ret_bool (HG.out.trans F.out).symm, HB1.out.alloc (by omega) _⟩
    | some p =>
      have FV := Lib.hid (findV_yes hf)
      have HPO : Hid (properP l true ⟨x0, x1, x2, x3⟩ = (((p.code != x0) && p.kind == x1) && (topA l x0).parent == 0)) := by show _ = _; rw [HPP.out, parOk_at hf]
      clear hf
      obtain ⟨p0, p1, p2, p3⟩ := p
      simp only [] at FV HPO
      cases e1 : p0 == x0
      case true =>
        have e1' : (p0 != x0) = false := by rw [bne, e1]; rfl
        have F : Hid (properP l true ⟨x0, x1, x2, x3⟩ = false) := by show _ = _; rw [HPO.out]; rw [e1']; rfl
        go_enter Tryz.func107, Tryz.ntmps107
        go_wp2_with fail
        have HFC := Lib.hid (find_any l A n c x3 B _ (HR.out.lowg hB (Nat.le_refl _) HB0.out) (by simp only [World.size_alloc]; omega) (by omega))
        refine HFC.out.mono ?_
        rintro e w1 ⟨rfl, hb1⟩
        rw [FV.out]
        have HB1 := Lib.hid (below_two HB0.out hb1)
        have HK1 := Lib.hid (HK.out.below hb1 (by simp))
        obtain ⟨c0, c1, c2, c3⟩ := acc_blk HK1.out
        have hs1 : w.heap.size < w1.heap.size := by have := hb1.size; simp only [World.size_alloc] at this; omega
        clear hb1 HFC
        go_wp2_with fail
        go_ret
        exact ⟨ret_bool (HG.out.trans F.out).symm, HB1.out.alloc (by omega) _⟩
      case false =>
        have e1' : (p0 != x0) = true := by rw [bne, e1]; rfl
        cases e2 : p1 == x1
        case false =>
          have e2' : (p1 != x1) = true := by rw [bne, e2]; rfl
          have F : Hid (properP l true ⟨x0, x1, x2, x3⟩ = false) := by show _ = _; rw [HPO.out]; rw [e1', e2]; rfl
          go_enter Tryz.func107, Tryz.ntmps107
          go_wp2_with fail
          have HFC := Lib.hid (find_any l A n c x3 B _ (HR.out.lowg hB (Nat.le_refl _) HB0.out) (by simp only [World.size_alloc]; omega) (by omega))
          refine HFC.out.mono ?_
          rintro e w1 ⟨rfl, hb1⟩
          rw [FV.out]
          have HB1 := Lib.hid (below_two HB0.out hb1)
          have HK1 := Lib.hid (HK.out.below hb1 (by simp))
          obtain ⟨c0, c1, c2, c3⟩ := acc_blk HK1.out
          have hs1 : w.heap.size < w1.heap.size := by have := hb1.size; simp only [World.size_alloc] at this; omega
          clear hb1 HFC
          go_wp2_with fail
          go_ret
          exact ⟨ret_bool (HG.out.trans F.out).symm, HB1.out.alloc (by omega) _⟩
        case true =>
          have e2' : (p1 != x1) = false := by rw [bne, e2]; rfl
          have F : Hid (properP l true ⟨x0, x1, x2, x3⟩ = ((topA l x0).parent == 0)) := by show _ = _; rw [HPO.out, e1', e2]; simp
          have HE := Lib.hid (And.intro e1 (And.intro e2 (And.intro e1' e2')))
          go_enter Tryz.func107, Tryz.ntmps107
          go_wp2_with fail
          have HFC := Lib.hid (find_any l A n c x3 B _ (HR.out.lowg hB (Nat.le_refl _) HB0.out) (by simp only [World.size_alloc]; omega) (by omega))
          refine HFC.out.mono ?_
          rintro e w1 ⟨rfl, hb1⟩
          rw [FV.out]
          have HB1 := Lib.hid (below_two HB0.out hb1)
          have HK1 := Lib.hid (HK.out.below hb1 (by simp))
          obtain ⟨c0, c1, c2, c3⟩ := acc_blk HK1.out
          have hs1 : w.heap.size < w1.heap.size := by have := hb1.size; simp only [World.size_alloc] at this; omega
          clear hb1 HFC
          go_wp2_with fail
          have HB2 := Lib.hid (HB1.out.alloc (by omega) (.cells #[.int .i64 p0, .int .i64 p1, .int .i64 p2, .int .i64 p3] 42))
          have HCC := Lib.hid (climb_any l A n c x0 B _ (HR.out.lowg hB (Nat.le_refl _) HB2.out) (by simp only [World.size_alloc]; omega) hn HOK.out HX.out)
          generalize w1.alloc _ = w2 at *
          have hs2 := HB2.out.size
          refine HCC.out.mono ?_
          rintro e w3 ⟨v, rfl, hown, hb3⟩
          obtain ⟨tt, htt, htp⟩ := climbP_top l (l.length + 1) x0 [] (fun h => absurd rfl h) (by obtain ⟨b, hb⟩ := HIL.out; have := climbP_ne (findA_mem hb); rw [findA_code hb] at this; exact this)
          have HT : Hid (((topA l x0).parent == 0) = (tt.parent == 0)) := by show _ = _; unfold topA; rw [htt]; rfl
          have HNE := climbP_ne (findA_mem HIL.out.choose_spec)
          rw [findA_code HIL.out.choose_spec] at HNE
          have HPN := climbP_ok l (l.length + 1) x0 [] (by simp) (by simp)
          have hpn := nodup_len _ _ HPN.1 HPN.2
          rw [List.length_map] at hpn
          clear HPN
          rw [HL.out] at htt HNE hpn
          have HTT := Lib.hid (findV_yes htt)
          clear htt htp
          generalize (climbP l (n + 1) x0 []).1 = PP at *
          obtain ⟨m, hm⟩ : ∃ m, PP.length = m + 1 := ⟨PP.length - 1, by have := List.length_pos_iff.2 HNE; omega⟩
          have HGL := Lib.hid (getLast_at hm)
          rw [hm] at hown hpn
          obtain ⟨A3, c3', rfl⟩ := own_slice hown
          obtain ⟨ad, rfl, hba, hca⟩ := (Reads.of_own hown).int_at (k := m) (by omega)
          rw [HGL.out] at hca
          have HB3 := Lib.hid (below_two HB2.out hb3)
          generalize PP.getLastD 0 = topc at *
          clear hown hm HNE HGL hb3 hs2 HCC c0 c1 c2 c3
          have hs4 := HB3.out.size
          have HFD := Lib.hid (find_any l A n c topc B w3 (HR.out.lowg hB (Nat.le_refl _) HB3.out) (by omega) (by omega))
          go_wp2_with fail
          refine HFD.out.mono ?_
          rintro e w4 ⟨rfl, hb4⟩
          rw [HTT.out]
          have HB4 := Lib.hid (below_two HB3.out hb4)
          have hs5 := HB4.out.size
          clear hb4 HFD hca
          obtain ⟨q0, q1, q2, q3⟩ := tt
          simp only [] at HT
          go_wp2_with fail
          go_ret
          exact ⟨ret_bool (by rw [HG.out, F.out, HT.out]), HB4.out.alloc (by omega) _⟩
end Go.Proofs.YtcmmppkmkejniaaGreatDoor
