/-
  The sort of the keys.
  slices.SortedFunc over maps.Keys: the keys of the map, rising.
-/
import Derived.Test.YtfnlddloalineaaGreatDoorRunB
import Derived.Test.YtfnlddloalineaaGreatDoorShelf3
import Derived.Test.YtfnlddloalineaaGreatDoorMpA
namespace Go.Proofs.YtfnlddloalineaaGreatDoor
open Go.RowKit Go.Sort
set_option linter.unusedVariables false
set_option linter.unusedSimpArgs false
set_option maxRecDepth 100000
def cmpK (a b : K5) : Int := cmpL a.l b.l
theorem ltOf_iff (a b : K5) : ltOf cmpK a b = true ↔ ltK a b := by unfold ltOf cmpK ltK; rw [decide_eq_true_eq]
theorem ltOf_no (a b : K5) : ltOf cmpK a b = false ↔ ¬ ltK a b := by rw [← ltOf_iff, Bool.not_eq_true]
theorem swoK : SWO (ltOf cmpK) where
  irrefl x := (ltOf_no x x).2 (ltK_irr x)
  trans x y z h1 h2 := (ltOf_iff x z).2 (ltK_trans ((ltOf_iff x y).1 h1) ((ltOf_iff y z).1 h2))
  ntrans x y z h1 h2 := by
    rw [ltOf_no] at *
    intro h3
    rcases ltK_total x y with e | e | e
    · exact h1 e
    · subst e; exact h2 h3
    · exact h2 (ltK_trans e h3)
theorem agg5 (w : World) : (isAgg 117).run Tryz.prog w = .ok true w := by kernel_rfl
theorem size5 (w : World) : (Go.sizeOf 117).run Tryz.prog w = .ok 5 w := by kernel_rfl
theorem enter_r1 (args : Array Value) (w : World) : (callFunc 63 args).run Tryz.prog w = .ok (.enter 63 args) w := by simp [go_sem]
theorem k5_one (x : K5) : ∀ v ∈ k5C x, v.oneCell' = true := by
  intro u hu
  unfold k5C at hu
  simp only [List.mem_cons, List.not_mem_nil, or_false] at hu
  rcases hu with rfl | rfl | rfl | rfl | rfl <;> rfl
theorem rising_sort (ks : List K5) (hd : ks.Nodup) : (ks.mergeSort fun x y => !(ltOf cmpK) y x).Pairwise ltK := by
  have hp : (ks.mergeSort fun x y => !(ltOf cmpK) y x).Pairwise fun x y => (!(ltOf cmpK) y x) = true := by
    refine List.pairwise_mergeSort (fun a b c h1 h2 => ?_) (fun a b => ?_) ks
    · simp only [Bool.not_eq_true'] at *
      exact swoK.ntrans c b a h2 h1
    · rcases ltK_total a b with e | e | e
      · have : ltOf cmpK b a = false := (ltOf_no b a).2 (fun h => ltK_irr a (ltK_trans e h))
        simp [this]
      · subst e
        simp [(ltOf_no a a).2 (ltK_irr a)]
      · have : ltOf cmpK a b = false := (ltOf_no a b).2 (fun h => ltK_irr b (ltK_trans e h))
        simp [this]
  have hn : (ks.mergeSort fun x y => !(ltOf cmpK) y x).Nodup := (List.mergeSort_perm ks _).nodup_iff.2 hd
  refine (hp.and hn).imp fun {a b} h => ?_
  obtain ⟨h1, h2⟩ := h
  simp only [Bool.not_eq_true'] at h1
  rcases ltK_total a b with e | e | e
  · exact e
  · exact absurd e h2
  · exact absurd e ((ltOf_no b a).1 h1)
theorem sort_any (ks : List K5) (A : Option Addr) (n c b : Nat) (w : World) (ho : w.ownsRow b 117 5 (.slice A n c) n (ks.flatMap k5C)) (hl : ks.length = n) (hn : n ≤ 1000) (hd : ks.Nodup) :
    Calls Tryz.prog 92 #[.slice A n c, .func (.func 63) #[] #[]] w fun e w' => e = .returned (.tuple #[]) ∧ ∃ d : List K5, d.Pairwise ltK ∧ (∀ x, x ∈ d ↔ x ∈ ks) ∧ d.length = n ∧ Reads w' w'.heap.size 5 A n (d.flatMap k5C) ∧ w.grownBy w' (Value.slice A n c).ownBlock := by
  by_cases h0 : n = 0
  · subst h0
    have hks : ks = [] := List.length_eq_zero_iff.1 hl
    subst hks
    refine (Tryz.slices_SortFunc_none (α := K5) A c _ w).mono ?_
    rintro e w' ⟨rfl, rfl⟩
    exact ⟨rfl, [], List.Pairwise.nil, fun x => Iff.rfl, rfl, ⟨rfl, fun h => absurd h (by omega)⟩, ⟨rfl, rfl, rfl, Nat.le_refl _, fun _ _ _ => rfl⟩⟩
  · obtain ⟨_, hh⟩ := ho
    rcases hh with ⟨_, h1⟩ | ⟨g, cap, cur, hv, hbase, hb, h1, h2, h3, h4⟩
    · exact absurd h1 h0
    · simp only [Value.slice.injEq] at hv
      obtain ⟨rfl, _, rfl⟩ := hv
      have hg : g < w.heap.size := (Array.getElem?_eq_some_iff.1 hb).1
      have hH : HoldsK k5C 5 w g 0 ks.toArray := by
        intro j hj
        rw [size_flatK, List.size_toArray] at hj
        have hj5 : j / 5 < ks.length := by omega
        have hc : (ks.flatMap k5C)[j]? = (k5C (ks.getD (j / 5) default))[j % 5]? := by
          have := rows_at (S := 5) k5C (fun _ => rfl) ks (j / 5) (j % 5) hj5 (by omega)
          rwa [show j / 5 * 5 + j % 5 = j by omega] at this
        rw [← h4, List.getElem?_take_of_lt (by omega), Array.getElem?_toList] at hc
        refine ⟨?_, by simp [World.frozen?, hb]⟩
        rw [Nat.zero_add]
        show w.cell? ⟨g, j, none⟩ = some ((flatK k5C 5 ks.toArray)[j]!)
        rw [get_flatK _ _ _ _ (by rw [List.size_toArray]; exact hj)]
        have e1 : ks.toArray[j / 5]! = ks.getD (j / 5) default := by simp [List.getD]
        rw [e1]
        have e2 : w.cell? ⟨g, j, none⟩ = cur[j]? := by simp [World.cell?, hb]
        rw [e2, hc]
        have hlt : j % 5 < (k5C (ks.getD (j / 5) default)).length := by show j % 5 < 5; omega
        rw [List.getElem?_eq_getElem hlt]
        exact congrArg some (getElem!_pos (k5C (ks.getD (j / 5) default)) (j % 5) hlt).symm
      have hcmp : Go.Proofs.CmpLays Tryz.prog 63 #[] k5C 5 cmpK g 0 ks.toArray.size w := fun m os dk _ x y => run1_any x y _
      have hcon := Tryz.slices_SortFunc_total (α := K5) 5 agg5 size5 k5C (fun _ => rfl) k5_one cmpK swoK 63 #[] g 0 c ks.toArray w enter_r1 hcmp hH hg (by rw [List.size_toArray]; omega) (fun x y h h' => by
        rw [ltOf_no] at h h'
        rcases ltK_total x y with e | e | e
        · exact absurd e h
        · exact e
        · exact absurd e h')
      rw [List.size_toArray, hl] at hcon
      refine hcon.mono ?_
      rintro e w' ⟨rfl, m, os, rfl⟩
      have hperm := List.mergeSort_perm ks (fun x y => !(ltOf cmpK) y x)
      have hlen : (ks.mergeSort fun x y => !(ltOf cmpK) y x).length = n := by rw [hperm.length_eq, hl]
      have hH2 : HoldsK k5C 5 (grow (putRowK k5C 5 (Sort.ahead w m) g 0 (ks.mergeSort fun x y => !(ltOf cmpK) y x).toArray) os) g 0 (ks.mergeSort fun x y => !(ltOf cmpK) y x).toArray := by
        refine holdsK_grow (os := os) (hb := ?_) (h := holdsK_putRowK (d := (ks.mergeSort fun x y => !(ltOf cmpK) y x).toArray) (h0 := (show HoldsK k5C 5 (Sort.ahead w m) g 0 ks.toArray from hH)) (hs := by rw [List.size_toArray, List.size_toArray, hlen, hl]))
        show g < (putRow id (Sort.ahead w m) g 0 _).heap.size
        simpa using hg
      refine ⟨rfl, _, rising_sort ks hd, fun x => hperm.mem_iff, hlen, ?_, ?_⟩
      · refine ⟨by rw [rows_len (S := 5) k5C (fun _ => rfl), hlen], fun _ => ⟨⟨g, 0, none⟩, rfl, ?_, fun j u hu => ?_⟩⟩
        · show g < (grow _ os).heap.size
          have : (grow (putRowK k5C 5 (Sort.ahead w m) g 0 (ks.mergeSort fun x y => !(ltOf cmpK) y x).toArray) os).heap.size = w.heap.size + os.size := by
            show (((putRow id (Sort.ahead w m) g 0 _).heap) ++ os).size = _
            rw [Array.size_append]; simp
          show g < (sortWorldK k5C 5 w g 0 m _ os).heap.size
          unfold sortWorldK
          rw [this]; omega
        · generalize (ks.mergeSort fun x y => !(ltOf cmpK) y x) = D at *
          have hjl : j < D.length * 5 := by
            have := (List.getElem?_eq_some_iff.1 hu).1
            rwa [rows_len (S := 5) k5C (fun _ => rfl)] at this
          have hc := (hH2.cell (i := j / 5) (c := j % 5) (by rw [List.size_toArray]; omega) (by omega)).1
          have hr := rows_at (S := 5) k5C (fun _ => rfl) D (j / 5) (j % 5) (by omega) (by omega)
          rw [show j / 5 * 5 + j % 5 = j by omega] at hr
          rw [hr] at hu
          have e3 : (⟨g, 0, none⟩ : Addr).add j = ⟨g, 0 + (j / 5 * 5 + j % 5), none⟩ := by
            rw [show j / 5 * 5 + j % 5 = j by omega]
            unfold Addr.add; split <;> simp_all
          rw [e3]
          have e1 : D.toArray[j / 5]! = D.getD (j / 5) default := by simp [List.getD]
          rw [e1] at hc
          have hlt : j % 5 < (k5C (D.getD (j / 5) default)).length := by show j % 5 < 5; omega
          rw [List.getElem?_eq_getElem hlt] at hu
          rw [getElem!_pos (k5C (D.getD (j / 5) default)) (j % 5) hlt] at hc
          have : w.heap.size = w.heap.size := rfl
          rw [← hu]
          show (sortWorldK k5C 5 w g 0 m D.toArray os).cell? _ = _
          unfold sortWorldK
          first | exact hc | (rw [Nat.zero_add]; exact hc) | (simpa using hc)
      · show w.grownBy (sortWorldK k5C 5 w g 0 m _ os) (some g)
        unfold sortWorldK
        refine ⟨rfl, rfl, rfl, ?_, fun k hk hne => ?_⟩
        · show w.heap.size ≤ (((putRow id (Sort.ahead w m) g 0 _).heap) ++ os).size
          rw [Array.size_append]; simp
        · have : g ≠ k := fun e => hne (by rw [e])
          rw [heap_grow_old _ _ (by show k < (putRow id (Sort.ahead w m) g 0 _).heap.size; simpa using hk)]
          simp [putRowK, putRow, mapBlock, Sort.ahead, Array.getElem?_modify, this]
end Go.Proofs.YtfnlddloalineaaGreatDoor
namespace Go.Proofs.YtfnlddloalineaaGreatDoor
open Go.RowKit
set_option linter.unusedVariables false
set_option linter.unusedSimpArgs false
set_option maxRecDepth 100000
theorem nodup_sub_len {T : Type} [DecidableEq T] : ∀ (a b : List T), a.Nodup → (∀ x ∈ a, x ∈ b) → a.length ≤ b.length := by
  intro a
  induction a with
  | nil => intro b _ _; exact Nat.zero_le _
  | cons x r ih =>
    intro b hd h
    rw [List.nodup_cons] at hd
    have h1 := ih (b.erase x) hd.2 (fun y hy => (List.mem_erase_of_ne (fun e => hd.1 (by rw [← e]; exact hy))).2 (h y (List.mem_cons_of_mem _ hy)))
    have h2 := List.length_erase_of_mem (h x (by simp))
    have h3 : 0 < b.length := List.length_pos_of_mem (h x (by simp))
    rw [List.length_cons]
    omega
set_option maxHeartbeats 4000000 in
theorem sorted_any (Bm b : Nat) (lm : List (K5 × Int)) (w : World) (hBm : Bm < w.heap.size) (hm : w.cell? ⟨Bm, 0, none⟩ = some (.map (some b))) (hown : MapS w b lm) (hl : lm.length ≤ 1000) :
    Calls Tryz.prog 61 #[.func (.func 93) #[] #[.pointer (some ⟨Bm, 0, none⟩)], .func (.func 63) #[] #[]] w fun e w' => ∃ (A : Option Addr) (c : Nat) (d : List K5), e = .returned (.slice A d.length c) ∧ d.Pairwise ltK ∧ (∀ k, k ∈ d ↔ k ∈ lm.map (·.1)) ∧ d.length ≤ lm.length ∧ Reads w' w'.heap.size 5 A d.length (d.flatMap k5C) ∧ Below w.heap.size w w' := by
  have HA := Lib.hid (collect_any Bm b lm w hBm hm hown (by omega))
  have HL := Lib.hid hl
  clear hm hown hl
  go_enter Tryz.func61, Tryz.ntmps61
  go_wp2_with fail
  refine HA.out.mono ?_
  rintro e w1 ⟨v, ss, rfl, ⟨hnd, hmem⟩, hr, hb⟩
  obtain ⟨A, c, rfl⟩ := own_slice hr
  have hlen : ss.length ≤ lm.length := by
    have h := nodup_sub_len ss (lm.map (·.1)) hnd (fun x hx => (hmem x).1 hx)
    rwa [List.length_map] at h
  have HSO := Lib.hid (sort_any ss A ss.length c w.heap.size w1 hr rfl (by have := HL.out; omega) hnd)
  have HF := Lib.hid (And.intro hmem (And.intro hlen (And.intro hb hr)))
  clear hnd hmem hr hb hlen
  go_wp2_with fail
  refine HSO.out.mono ?_
  rintro e w2 ⟨rfl, d, hp, hdm, hdl, hrd, hg⟩
  have HF2 := Lib.hid (And.intro hp (And.intro hdm (And.intro hdl (And.intro hrd hg))))
  clear hp hdm hdl hrd hg
  go_wp2_with fail
  go_ret
  obtain ⟨hmem, hlen, hb, hr⟩ := HF.out
  obtain ⟨hp, hdm, hdl, hrd, hg⟩ := HF2.out
  refine ⟨A, c, d, by rw [hdl]; rfl, hp, fun k => (hdm k).trans (hmem k), by omega, by rw [hdl]; exact hrd, hb.grown hg hb.size (fun r e => own_base hr r e)⟩
end Go.Proofs.YtfnlddloalineaaGreatDoor
