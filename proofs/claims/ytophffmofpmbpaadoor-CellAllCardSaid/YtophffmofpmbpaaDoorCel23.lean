/-
  Cells in memory; the reference's Same and All. (printed by wip/tools/gen_cel23.py)
-/
import Derived.Test.YtophffmofpmbpaaDoorCel18
import Derived.Test.YtophffmofpmbpaaDoorCel20
namespace Go.Proofs.YtophffmofpmbpaaDoor
open Go.RowKit
set_option linter.unusedVariables false
def cellL (c : SCell) : List Value := [.int .i64 c.st, .int .i64 c.en, .int .i64 c.ot, .int .i64 c.pe]
theorem cellsL_at : ∀ (cs : List SCell) (k j : Nat), k < cs.length → j < 4 → (cellsL cs)[k * 4 + j]? = (cellL (cs.getD k default))[j]? := by
  intro cs
  induction cs with
  | nil => intro k j h; simp at h
  | cons c cs ih =>
    intro k j h hj
    show (cellL c ++ cellsL cs)[k * 4 + j]? = _
    cases k with
    | zero =>
      rw [List.getElem?_append_left (by simp [cellL]; omega)]
      simp
    | succ k =>
      rw [List.getElem?_append_right (by simp [cellL]; omega), show (k + 1) * 4 + j - (cellL c).length = k * 4 + j by simp [cellL]; omega, ih k j (by simpa using h) hj]
      simp
theorem add_posC (a : Addr) (n : Nat) (h : n ≠ 0) : a.add n = ⟨a.block, a.off + n, none⟩ := by unfold Addr.add; rw [if_neg h]
theorem Reads.lowC {w w' : World} {B size n : Nat} {A : Option Addr} {xs : List Value} (h : Reads w B size A n xs) (hB : B ≤ w.heap.size) {C : Nat} (hC : w.heap.size ≤ C) (hb : Below C w w') : Reads w' B size A n xs :=
  h.keep fun _ hp => hb.cell (by omega)
theorem Reads.cell_at {w : World} {B n k : Nat} {A : Option Addr} {cs : List SCell} (h : Reads w B 4 A n (cellsL cs)) (hk : k < n) :
    ∃ ad, A = some ad ∧ ad.block < B ∧ w.cell? (ad.add (k * 4)) = some (.int .i64 (cs.getD k default).st) ∧ w.cell? ⟨(ad.add (k * 4)).block, (ad.add (k * 4)).off + 1, none⟩ = some (.int .i64 (cs.getD k default).en) ∧
      w.cell? ⟨(ad.add (k * 4)).block, (ad.add (k * 4)).off + 2, none⟩ = some (.int .i64 (cs.getD k default).ot) ∧ w.cell? ⟨(ad.add (k * 4)).block, (ad.add (k * 4)).off + 3, none⟩ = some (.int .i64 (cs.getD k default).pe) := by
  have hl : k < cs.length := by have := h.1; rw [cellsL_len] at this; omega
  obtain ⟨ad, rfl, hb, hc⟩ := h.2 (by omega)
  have hx : ∀ j, j < 4 → ∀ u, (cellL (cs.getD k default))[j]? = some u → w.cell? (ad.add (k * 4 + j)) = some u := by
    intro j hj u hu
    refine hc _ _ ?_
    rw [cellsL_at cs k j hl hj, hu]
  have g0 := hx 0 (by omega) _ rfl
  have g1 := hx 1 (by omega) _ rfl
  have g2 := hx 2 (by omega) _ rfl
  have g3 := hx 3 (by omega) _ rfl
  rw [← add_of_add, add_posC _ 1 (by omega)] at g1
  rw [← add_of_add, add_posC _ 2 (by omega)] at g2
  rw [← add_of_add, add_posC _ 3 (by omega)] at g3
  exact ⟨ad, rfl, hb, g0, g1, g2, g3⟩
set_option maxRecDepth 100000 in
set_option maxHeartbeats 4000000 in
theorem same_any (cs : List SCell) (A A' : Option Addr) (n c c' : Nat) (B B' : Nat) (w : World) (hr : Reads w B 4 A n (cellsL cs)) (hr' : Reads w B' 4 A' n (cellsL cs)) (hB : B ≤ w.heap.size) (hB' : B' ≤ w.heap.size) (hn : n ≤ 9223372036854775807) :
    Calls Tryd.prog 28 #[.slice A n c, .slice A' n c'] w fun e w' => e = .returned (.bool true) ∧ Below w.heap.size w w' := by
  have HR := Lib.hid hr
  have HR' := Lib.hid hr'
  have qn : (n != n) = false := by simp
  have qn' : ((n : Int) != (n : Int)) = false := by simp
  clear hr hr'
  go_enter Tryd.func28, Tryd.ntmps28
  go_wp2_with fail
  go_loopw [5] (fun i wr => ∃ k : Nat, k ≤ n ∧ i = .int .i64 k ∧ Below w.heap.size w wr) (fun i _ => n - (intOf i).toNat)
  case atStart => exact ⟨0, Nat.zero_le _, rfl, Below.refl _ _⟩
  case round =>
    obtain ⟨k, hk, rfl, hbr⟩ := hrel
    obtain ⟨wo, rfl⟩ : ∃ wo : World, wo = wr := ⟨_, rfl⟩
    by_cases hlt : k < n
    · have k3 : decide ((k : Int) < (n : Int)) = true := by rw [decide_eq_true_eq]; omega
      obtain ⟨ad, rfl, hab, c0, c1, c2, c3⟩ := (HR.out.lowC hB (Nat.le_refl _) hbr).cell_at hlt
      obtain ⟨ad', rfl, hab', d0, d1, d2, d3⟩ := (HR'.out.lowC hB' (Nat.le_refl _) hbr).cell_at hlt
      have b1 : (k : Int) < (n : Int) := by omega
      generalize cs.getD k default = r at *
      obtain ⟨st, en, ot, pe⟩ := r
      simp only [] at c0 c1 c2 c3 d0 d1 d2 d3
      go_wp2_with fail
      go_quiet (fail)
      go_wp2_with fail
      exact ⟨⟨k + 1, by omega, by go_num, below_drewN hbr nq⟩, by simp [intOf]; omega⟩
    · have k3 : decide ((k : Int) < (n : Int)) = false := by rw [decide_eq_false_iff_not]; omega
      go_wp2_with fail
      go_ret
      exact ⟨rfl, hbr⟩
set_option maxRecDepth 100000 in
set_option maxHeartbeats 8000000 in
theorem refAll_any (s m p : Int) (w : World) : Calls Tryd.prog 29 #[.int .i64 s, .int .i64 m, .int .i64 p] w fun e w' => ∃ v, e = .returned v ∧ w'.ownsRow w.heap.size 23 4 v (allC s m p).length (cellsL (allC s m p)) ∧ Below w.heap.size w w' := by
  obtain ⟨i0, hi0, hz0, hz1, hz2⟩ := info_parts info_cell
  have HC : Hid (allC s m p = refAllC s m p 12) := by show _ = _; exact (refAllC_all s m p).symm
  have HKP : Hid (∀ i j, refKeep s m p i j = ((if uE s then decide ((i : Int) < m) else i == 0) && ((if uO s then decide ((j : Int) < m) else j == 0) && validC (ofC s i j p)))) := fun i j => rfl
  have HU := Lib.hid (refUses_any s w)
  go_enter Tryd.func29, Tryd.ntmps29
  go_wp2_with fail
  refine HU.out.mono ?_
  rintro e wx ⟨rfl, rfl⟩
  generalize uE s = A1 at *
  generalize uO s = A2 at *
  generalize uP s = A3 at *
  clear HU
  go_wp2_with fail
  go_loopw [10, 11] (fun v i wr => ∃ e : Nat, e ≤ 12 ∧ i = .int .i64 e ∧ wr.ownsRow w.heap.size 23 4 v (refAllC s m p e).length (cellsL (refAllC s m p e)) ∧ Below w.heap.size w wr) (fun _ i _ => 12 - (intOf i).toNat)
  case atStart => exact ⟨0, Nat.zero_le _, rfl, World.ownsRow_nil _ _ _ _, Below.refl _ _⟩
  case round =>
    obtain ⟨e, he, rfl, hown, hbr⟩ := hrel
    have HO := Lib.hid hown
    have HBR := Lib.hid hbr
    clear hown hbr
    by_cases hlt : e < 12
    · have k3 : decide ((e : Int) < 12) = true := by rw [decide_eq_true_eq]; omega
      have hrm := refAllC_len s m p e
      go_wp2_with fail
      go_loopw [10, 12] (fun v i wr => ∃ o : Nat, o ≤ 12 ∧ i = .int .i64 o ∧ wr.ownsRow w.heap.size 23 4 v (refAllC s m p e ++ refRow s m p e o).length (cellsL (refAllC s m p e ++ refRow s m p e o)) ∧ Below w.heap.size w wr) (fun _ i _ => 12 - (intOf i).toNat)
      case atStart => exact ⟨0, Nat.zero_le _, rfl, by rw [show refRow s m p e 0 = [] from rfl, List.append_nil]; exact HO.out, HBR.out⟩
      case round =>
        clear HO HBR k3
        obtain ⟨o, ho, rfl, hown, hbr⟩ := hrel
        have HO := Lib.hid hown
        have HBR := Lib.hid hbr
        have hro := refRow_len s m p e o
        have hal : (refAllC s m p e ++ refRow s m p e o).length ≤ 160 := by rw [List.length_append]; omega
        clear hown hbr hro
        by_cases hlo : o < 12
        · have k3 : decide ((o : Int) < 12) = true := by rw [decide_eq_true_eq]; omega
          have HY : Hid (refKeep s m p e o = true → refAllC s m p e ++ refRow s m p e (o + 1) = (refAllC s m p e ++ refRow s m p e o) ++ [ofC s e o p]) := fun h => by rw [refRow_yes h, List.append_assoc]
          have HN : Hid (refKeep s m p e o = false → refAllC s m p e ++ refRow s m p e (o + 1) = refAllC s m p e ++ refRow s m p e o) := fun h => by rw [refRow_no h]
          have HK := Lib.hid (HKP.out e o)
          generalize hacc : refAllC s m p e ++ refRow s m p e o = acc at *
          generalize hacd : refAllC s m p e ++ refRow s m p e (o + 1) = acd at *
          clear hacc hrm
          have HACD := Lib.hid hacd
          clear hacd
          have HOF := Lib.hid (refOf_any s e o p)
          generalize ofC s e o p = cc at *
          obtain ⟨st, en, ot, pe⟩ := cc
          unfold cellV at *
          simp only [] at *
          have HVA : Hid (∀ w, Calls Tryd.prog 11 #[.agg #[.int .i64 st, .int .i64 en, .int .i64 ot, .int .i64 pe]] w fun e w' => e = .returned (.bool (validC ⟨st, en, ot, pe⟩)) ∧ Below w.heap.size w w') := fun w => refValid_any ⟨st, en, ot, pe⟩ w
          cases A1
          · by_cases hE : e = 0
            · cases A2
              · by_cases hO : o = 0
                · have HKPP := Lib.hid (And.intro hE hO)
                  have tte : decide ((0 : Int) < (e : Int)) = false := by rw [decide_eq_false_iff_not]; omega
                  have uue : decide (0 < e) = false := by rw [decide_eq_false_iff_not]; omega
                  have tto : decide ((0 : Int) < (o : Int)) = false := by rw [decide_eq_false_iff_not]; omega
                  have uuo : decide (0 < o) = false := by rw [decide_eq_false_iff_not]; omega
                  clear hE hO
                  go_wp2_with fail
                  refine (HOF.out _).mono ?_
                  rintro e' w5 ⟨rfl, hb5⟩
                  have HB5 := Lib.hid (below_two HBR.out hb5)
                  have HO5 := Lib.hid (own_below HO.out hb5)
                  clear HO HBR hb5
                  have HKC := Lib.hid (Blk.new w5 23 #[.int .i64 st, .int .i64 en, .int .i64 ot, .int .i64 pe])
                  have HB6 := Lib.hid (HB5.out.alloc HB5.out.size (.cells (#[.int .i64 st, .int .i64 en, .int .i64 ot, .int .i64 pe] : Array Value) 23))
                  have HO6 := Lib.hid (HO5.out.alloc (.cells (#[.int .i64 st, .int .i64 en, .int .i64 ot, .int .i64 pe] : Array Value) 23))
                  go_wp2_with fail
                  refine (HVA.out _).mono ?_
                  rintro e' w7 ⟨rfl, hb7⟩
                  have HB7 := Lib.hid (below_two HB6.out hb7)
                  have HO7 := Lib.hid (own_below HO6.out hb7)
                  obtain ⟨y0, y1, y2, y3⟩ := st_blk (HKC.out.below hb7 (by simp))
                  clear hb7 HB5 HO5 HKC HB6 HO6
                  cases hv : validC ⟨st, en, ot, pe⟩
                  · have F := Lib.hid (HN.out (by rw [HK.out, hv]; simp))
                    clear hv
                    go_wp2_with fail
                    go_roundw
                    case rel => exact ⟨o + 1, by omega, by go_num, by rw [HACD.out, F.out]; exact HO7.out, HB7.out⟩
                    case measure => simp [intOf]; omega
                  · have F := Lib.hid (HY.out (by rw [HK.out, hv]; simpa using HKPP.out))
                    clear hv
                    go_wp2_with (at_builtin; refine wpList_append_any _ rfl (.tmp 68) (.tmp 70) _ rfl w.heap.size 23 i0 _ 4 32 Tryd.underlying43 hi0 hz0 hz1 hz2 rfl (by omega) _ acc.length (cellsL acc) rfl (HO7.out.alloc _) (w7.heap.size + 1) (some ⟨w7.heap.size, 0, none⟩) 1 1 [.int .i64 st, .int .i64 en, .int .i64 ot, .int .i64 pe] rfl (reads_one w7 #[.int .i64 st, .int .i64 en, .int .i64 ot, .int .i64 pe] 23 4 rfl) (cell_one _ _ _ _) (by simp only [maxLen]; omega) (by omega) (by simp only [World.size_alloc]; have := HB7.out.size; omega) ?_; intro v4 w4 hown4 hg4 hat4)
                    go_wp2_with fail
                    go_roundw
                    case rel =>
                      refine ⟨o + 1, by omega, by go_num, by rw [HACD.out, F.out, List.length_append, cellsL_app]; exact hown4, ?_⟩
                      exact (HB7.out.alloc HB7.out.size _).grown hg4 (by simp only [World.size_alloc]; have := HB7.out.size; omega) (fun k hk => by have := own_base HO7.out k hk; omega)
                    case measure => simp [intOf]; omega
                · have F := Lib.hid (HN.out (by rw [HK.out]; simp; intro _ h; exact absurd h (by omega)))
                  have tte : decide ((0 : Int) < (e : Int)) = false := by rw [decide_eq_false_iff_not]; omega
                  have uue : decide (0 < e) = false := by rw [decide_eq_false_iff_not]; omega
                  have tto : decide ((0 : Int) < (o : Int)) = true := by rw [decide_eq_true_eq]; omega
                  have uuo : decide (0 < o) = true := by rw [decide_eq_true_eq]; omega
                  clear hE hO
                  go_wp2_with fail
                  refine (HOF.out _).mono ?_
                  rintro e' w5 ⟨rfl, hb5⟩
                  have HB5 := Lib.hid (below_two HBR.out hb5)
                  have HO5 := Lib.hid (own_below HO.out hb5)
                  clear HO HBR hb5
                  have HKC := Lib.hid (Blk.new w5 23 #[.int .i64 st, .int .i64 en, .int .i64 ot, .int .i64 pe])
                  have HB6 := Lib.hid (HB5.out.alloc HB5.out.size (.cells (#[.int .i64 st, .int .i64 en, .int .i64 ot, .int .i64 pe] : Array Value) 23))
                  have HO6 := Lib.hid (HO5.out.alloc (.cells (#[.int .i64 st, .int .i64 en, .int .i64 ot, .int .i64 pe] : Array Value) 23))
                  go_wp2_with fail
                  go_roundw
                  case rel => exact ⟨o + 1, by omega, by go_num, by rw [HACD.out, F.out]; exact HO6.out, HB6.out⟩
                  case measure => simp [intOf]; omega
              · by_cases hO : (o : Int) < m
                · have HKPP := Lib.hid (And.intro hE hO)
                  have tte : decide ((0 : Int) < (e : Int)) = false := by rw [decide_eq_false_iff_not]; omega
                  have uue : decide (0 < e) = false := by rw [decide_eq_false_iff_not]; omega
                  have tto : decide (m ≤ (o : Int)) = false := by rw [decide_eq_false_iff_not]; omega
                  clear hE hO
                  go_wp2_with fail
                  refine (HOF.out _).mono ?_
                  rintro e' w5 ⟨rfl, hb5⟩
                  have HB5 := Lib.hid (below_two HBR.out hb5)
                  have HO5 := Lib.hid (own_below HO.out hb5)
                  clear HO HBR hb5
                  have HKC := Lib.hid (Blk.new w5 23 #[.int .i64 st, .int .i64 en, .int .i64 ot, .int .i64 pe])
                  have HB6 := Lib.hid (HB5.out.alloc HB5.out.size (.cells (#[.int .i64 st, .int .i64 en, .int .i64 ot, .int .i64 pe] : Array Value) 23))
                  have HO6 := Lib.hid (HO5.out.alloc (.cells (#[.int .i64 st, .int .i64 en, .int .i64 ot, .int .i64 pe] : Array Value) 23))
                  go_wp2_with fail
                  refine (HVA.out _).mono ?_
                  rintro e' w7 ⟨rfl, hb7⟩
                  have HB7 := Lib.hid (below_two HB6.out hb7)
                  have HO7 := Lib.hid (own_below HO6.out hb7)
                  obtain ⟨y0, y1, y2, y3⟩ := st_blk (HKC.out.below hb7 (by simp))
                  clear hb7 HB5 HO5 HKC HB6 HO6
                  cases hv : validC ⟨st, en, ot, pe⟩
                  · have F := Lib.hid (HN.out (by rw [HK.out, hv]; simp))
                    clear hv
                    go_wp2_with fail
                    go_roundw
                    case rel => exact ⟨o + 1, by omega, by go_num, by rw [HACD.out, F.out]; exact HO7.out, HB7.out⟩
                    case measure => simp [intOf]; omega
                  · have F := Lib.hid (HY.out (by rw [HK.out, hv]; simpa using HKPP.out))
                    clear hv
                    go_wp2_with (at_builtin; refine wpList_append_any _ rfl (.tmp 68) (.tmp 70) _ rfl w.heap.size 23 i0 _ 4 32 Tryd.underlying43 hi0 hz0 hz1 hz2 rfl (by omega) _ acc.length (cellsL acc) rfl (HO7.out.alloc _) (w7.heap.size + 1) (some ⟨w7.heap.size, 0, none⟩) 1 1 [.int .i64 st, .int .i64 en, .int .i64 ot, .int .i64 pe] rfl (reads_one w7 #[.int .i64 st, .int .i64 en, .int .i64 ot, .int .i64 pe] 23 4 rfl) (cell_one _ _ _ _) (by simp only [maxLen]; omega) (by omega) (by simp only [World.size_alloc]; have := HB7.out.size; omega) ?_; intro v4 w4 hown4 hg4 hat4)
                    go_wp2_with fail
                    go_roundw
                    case rel =>
                      refine ⟨o + 1, by omega, by go_num, by rw [HACD.out, F.out, List.length_append, cellsL_app]; exact hown4, ?_⟩
                      exact (HB7.out.alloc HB7.out.size _).grown hg4 (by simp only [World.size_alloc]; have := HB7.out.size; omega) (fun k hk => by have := own_base HO7.out k hk; omega)
                    case measure => simp [intOf]; omega
                · have F := Lib.hid (HN.out (by rw [HK.out]; simp; intro _ h; exact absurd h (by omega)))
                  have tte : decide ((0 : Int) < (e : Int)) = false := by rw [decide_eq_false_iff_not]; omega
                  have uue : decide (0 < e) = false := by rw [decide_eq_false_iff_not]; omega
                  have tto : decide (m ≤ (o : Int)) = true := by rw [decide_eq_true_eq]; omega
                  clear hE hO
                  go_wp2_with fail
                  refine (HOF.out _).mono ?_
                  rintro e' w5 ⟨rfl, hb5⟩
                  have HB5 := Lib.hid (below_two HBR.out hb5)
                  have HO5 := Lib.hid (own_below HO.out hb5)
                  clear HO HBR hb5
                  have HKC := Lib.hid (Blk.new w5 23 #[.int .i64 st, .int .i64 en, .int .i64 ot, .int .i64 pe])
                  have HB6 := Lib.hid (HB5.out.alloc HB5.out.size (.cells (#[.int .i64 st, .int .i64 en, .int .i64 ot, .int .i64 pe] : Array Value) 23))
                  have HO6 := Lib.hid (HO5.out.alloc (.cells (#[.int .i64 st, .int .i64 en, .int .i64 ot, .int .i64 pe] : Array Value) 23))
                  go_wp2_with fail
                  go_roundw
                  case rel => exact ⟨o + 1, by omega, by go_num, by rw [HACD.out, F.out]; exact HO6.out, HB6.out⟩
                  case measure => simp [intOf]; omega
            · have F := Lib.hid (HN.out (by rw [HK.out]; simp; intro h; exact absurd h (by omega)))
              have tte : decide ((0 : Int) < (e : Int)) = true := by rw [decide_eq_true_eq]; omega
              have uue : decide (0 < e) = true := by rw [decide_eq_true_eq]; omega
              clear hE
              go_wp2_with fail
              refine (HOF.out _).mono ?_
              rintro e' w5 ⟨rfl, hb5⟩
              have HB5 := Lib.hid (below_two HBR.out hb5)
              have HO5 := Lib.hid (own_below HO.out hb5)
              clear HO HBR hb5
              have HKC := Lib.hid (Blk.new w5 23 #[.int .i64 st, .int .i64 en, .int .i64 ot, .int .i64 pe])
              have HB6 := Lib.hid (HB5.out.alloc HB5.out.size (.cells (#[.int .i64 st, .int .i64 en, .int .i64 ot, .int .i64 pe] : Array Value) 23))
              have HO6 := Lib.hid (HO5.out.alloc (.cells (#[.int .i64 st, .int .i64 en, .int .i64 ot, .int .i64 pe] : Array Value) 23))
              go_wp2_with fail
              go_roundw
              case rel => exact ⟨o + 1, by omega, by go_num, by rw [HACD.out, F.out]; exact HO6.out, HB6.out⟩
              case measure => simp [intOf]; omega
          · by_cases hE : (e : Int) < m
            · cases A2
              · by_cases hO : o = 0
                · have HKPP := Lib.hid (And.intro hE hO)
                  have tte : decide (m ≤ (e : Int)) = false := by rw [decide_eq_false_iff_not]; omega
                  have tto : decide ((0 : Int) < (o : Int)) = false := by rw [decide_eq_false_iff_not]; omega
                  have uuo : decide (0 < o) = false := by rw [decide_eq_false_iff_not]; omega
                  clear hE hO
                  go_wp2_with fail
                  refine (HOF.out _).mono ?_
                  rintro e' w5 ⟨rfl, hb5⟩
                  have HB5 := Lib.hid (below_two HBR.out hb5)
                  have HO5 := Lib.hid (own_below HO.out hb5)
                  clear HO HBR hb5
                  have HKC := Lib.hid (Blk.new w5 23 #[.int .i64 st, .int .i64 en, .int .i64 ot, .int .i64 pe])
                  have HB6 := Lib.hid (HB5.out.alloc HB5.out.size (.cells (#[.int .i64 st, .int .i64 en, .int .i64 ot, .int .i64 pe] : Array Value) 23))
                  have HO6 := Lib.hid (HO5.out.alloc (.cells (#[.int .i64 st, .int .i64 en, .int .i64 ot, .int .i64 pe] : Array Value) 23))
                  go_wp2_with fail
                  refine (HVA.out _).mono ?_
                  rintro e' w7 ⟨rfl, hb7⟩
                  have HB7 := Lib.hid (below_two HB6.out hb7)
                  have HO7 := Lib.hid (own_below HO6.out hb7)
                  obtain ⟨y0, y1, y2, y3⟩ := st_blk (HKC.out.below hb7 (by simp))
                  clear hb7 HB5 HO5 HKC HB6 HO6
                  cases hv : validC ⟨st, en, ot, pe⟩
                  · have F := Lib.hid (HN.out (by rw [HK.out, hv]; simp))
                    clear hv
                    go_wp2_with fail
                    go_roundw
                    case rel => exact ⟨o + 1, by omega, by go_num, by rw [HACD.out, F.out]; exact HO7.out, HB7.out⟩
                    case measure => simp [intOf]; omega
                  · have F := Lib.hid (HY.out (by rw [HK.out, hv]; simpa using HKPP.out))
                    clear hv
                    go_wp2_with (at_builtin; refine wpList_append_any _ rfl (.tmp 68) (.tmp 70) _ rfl w.heap.size 23 i0 _ 4 32 Tryd.underlying43 hi0 hz0 hz1 hz2 rfl (by omega) _ acc.length (cellsL acc) rfl (HO7.out.alloc _) (w7.heap.size + 1) (some ⟨w7.heap.size, 0, none⟩) 1 1 [.int .i64 st, .int .i64 en, .int .i64 ot, .int .i64 pe] rfl (reads_one w7 #[.int .i64 st, .int .i64 en, .int .i64 ot, .int .i64 pe] 23 4 rfl) (cell_one _ _ _ _) (by simp only [maxLen]; omega) (by omega) (by simp only [World.size_alloc]; have := HB7.out.size; omega) ?_; intro v4 w4 hown4 hg4 hat4)
                    go_wp2_with fail
                    go_roundw
                    case rel =>
                      refine ⟨o + 1, by omega, by go_num, by rw [HACD.out, F.out, List.length_append, cellsL_app]; exact hown4, ?_⟩
                      exact (HB7.out.alloc HB7.out.size _).grown hg4 (by simp only [World.size_alloc]; have := HB7.out.size; omega) (fun k hk => by have := own_base HO7.out k hk; omega)
                    case measure => simp [intOf]; omega
                · have F := Lib.hid (HN.out (by rw [HK.out]; simp; intro _ h; exact absurd h (by omega)))
                  have tte : decide (m ≤ (e : Int)) = false := by rw [decide_eq_false_iff_not]; omega
                  have tto : decide ((0 : Int) < (o : Int)) = true := by rw [decide_eq_true_eq]; omega
                  have uuo : decide (0 < o) = true := by rw [decide_eq_true_eq]; omega
                  clear hE hO
                  go_wp2_with fail
                  refine (HOF.out _).mono ?_
                  rintro e' w5 ⟨rfl, hb5⟩
                  have HB5 := Lib.hid (below_two HBR.out hb5)
                  have HO5 := Lib.hid (own_below HO.out hb5)
                  clear HO HBR hb5
                  have HKC := Lib.hid (Blk.new w5 23 #[.int .i64 st, .int .i64 en, .int .i64 ot, .int .i64 pe])
                  have HB6 := Lib.hid (HB5.out.alloc HB5.out.size (.cells (#[.int .i64 st, .int .i64 en, .int .i64 ot, .int .i64 pe] : Array Value) 23))
                  have HO6 := Lib.hid (HO5.out.alloc (.cells (#[.int .i64 st, .int .i64 en, .int .i64 ot, .int .i64 pe] : Array Value) 23))
                  go_wp2_with fail
                  go_roundw
                  case rel => exact ⟨o + 1, by omega, by go_num, by rw [HACD.out, F.out]; exact HO6.out, HB6.out⟩
                  case measure => simp [intOf]; omega
              · by_cases hO : (o : Int) < m
                · have HKPP := Lib.hid (And.intro hE hO)
                  have tte : decide (m ≤ (e : Int)) = false := by rw [decide_eq_false_iff_not]; omega
                  have tto : decide (m ≤ (o : Int)) = false := by rw [decide_eq_false_iff_not]; omega
                  clear hE hO
                  go_wp2_with fail
                  refine (HOF.out _).mono ?_
                  rintro e' w5 ⟨rfl, hb5⟩
                  have HB5 := Lib.hid (below_two HBR.out hb5)
                  have HO5 := Lib.hid (own_below HO.out hb5)
                  clear HO HBR hb5
                  have HKC := Lib.hid (Blk.new w5 23 #[.int .i64 st, .int .i64 en, .int .i64 ot, .int .i64 pe])
                  have HB6 := Lib.hid (HB5.out.alloc HB5.out.size (.cells (#[.int .i64 st, .int .i64 en, .int .i64 ot, .int .i64 pe] : Array Value) 23))
                  have HO6 := Lib.hid (HO5.out.alloc (.cells (#[.int .i64 st, .int .i64 en, .int .i64 ot, .int .i64 pe] : Array Value) 23))
                  go_wp2_with fail
                  refine (HVA.out _).mono ?_
                  rintro e' w7 ⟨rfl, hb7⟩
                  have HB7 := Lib.hid (below_two HB6.out hb7)
                  have HO7 := Lib.hid (own_below HO6.out hb7)
                  obtain ⟨y0, y1, y2, y3⟩ := st_blk (HKC.out.below hb7 (by simp))
                  clear hb7 HB5 HO5 HKC HB6 HO6
                  cases hv : validC ⟨st, en, ot, pe⟩
                  · have F := Lib.hid (HN.out (by rw [HK.out, hv]; simp))
                    clear hv
                    go_wp2_with fail
                    go_roundw
                    case rel => exact ⟨o + 1, by omega, by go_num, by rw [HACD.out, F.out]; exact HO7.out, HB7.out⟩
                    case measure => simp [intOf]; omega
                  · have F := Lib.hid (HY.out (by rw [HK.out, hv]; simpa using HKPP.out))
                    clear hv
                    go_wp2_with (at_builtin; refine wpList_append_any _ rfl (.tmp 68) (.tmp 70) _ rfl w.heap.size 23 i0 _ 4 32 Tryd.underlying43 hi0 hz0 hz1 hz2 rfl (by omega) _ acc.length (cellsL acc) rfl (HO7.out.alloc _) (w7.heap.size + 1) (some ⟨w7.heap.size, 0, none⟩) 1 1 [.int .i64 st, .int .i64 en, .int .i64 ot, .int .i64 pe] rfl (reads_one w7 #[.int .i64 st, .int .i64 en, .int .i64 ot, .int .i64 pe] 23 4 rfl) (cell_one _ _ _ _) (by simp only [maxLen]; omega) (by omega) (by simp only [World.size_alloc]; have := HB7.out.size; omega) ?_; intro v4 w4 hown4 hg4 hat4)
                    go_wp2_with fail
                    go_roundw
                    case rel =>
                      refine ⟨o + 1, by omega, by go_num, by rw [HACD.out, F.out, List.length_append, cellsL_app]; exact hown4, ?_⟩
                      exact (HB7.out.alloc HB7.out.size _).grown hg4 (by simp only [World.size_alloc]; have := HB7.out.size; omega) (fun k hk => by have := own_base HO7.out k hk; omega)
                    case measure => simp [intOf]; omega
                · have F := Lib.hid (HN.out (by rw [HK.out]; simp; intro _ h; exact absurd h (by omega)))
                  have tte : decide (m ≤ (e : Int)) = false := by rw [decide_eq_false_iff_not]; omega
                  have tto : decide (m ≤ (o : Int)) = true := by rw [decide_eq_true_eq]; omega
                  clear hE hO
                  go_wp2_with fail
                  refine (HOF.out _).mono ?_
                  rintro e' w5 ⟨rfl, hb5⟩
                  have HB5 := Lib.hid (below_two HBR.out hb5)
                  have HO5 := Lib.hid (own_below HO.out hb5)
                  clear HO HBR hb5
                  have HKC := Lib.hid (Blk.new w5 23 #[.int .i64 st, .int .i64 en, .int .i64 ot, .int .i64 pe])
                  have HB6 := Lib.hid (HB5.out.alloc HB5.out.size (.cells (#[.int .i64 st, .int .i64 en, .int .i64 ot, .int .i64 pe] : Array Value) 23))
                  have HO6 := Lib.hid (HO5.out.alloc (.cells (#[.int .i64 st, .int .i64 en, .int .i64 ot, .int .i64 pe] : Array Value) 23))
                  go_wp2_with fail
                  go_roundw
                  case rel => exact ⟨o + 1, by omega, by go_num, by rw [HACD.out, F.out]; exact HO6.out, HB6.out⟩
                  case measure => simp [intOf]; omega
            · have F := Lib.hid (HN.out (by rw [HK.out]; simp; intro h; exact absurd h (by omega)))
              have tte : decide (m ≤ (e : Int)) = true := by rw [decide_eq_true_eq]; omega
              clear hE
              go_wp2_with fail
              refine (HOF.out _).mono ?_
              rintro e' w5 ⟨rfl, hb5⟩
              have HB5 := Lib.hid (below_two HBR.out hb5)
              have HO5 := Lib.hid (own_below HO.out hb5)
              clear HO HBR hb5
              have HKC := Lib.hid (Blk.new w5 23 #[.int .i64 st, .int .i64 en, .int .i64 ot, .int .i64 pe])
              have HB6 := Lib.hid (HB5.out.alloc HB5.out.size (.cells (#[.int .i64 st, .int .i64 en, .int .i64 ot, .int .i64 pe] : Array Value) 23))
              have HO6 := Lib.hid (HO5.out.alloc (.cells (#[.int .i64 st, .int .i64 en, .int .i64 ot, .int .i64 pe] : Array Value) 23))
              go_wp2_with fail
              go_roundw
              case rel => exact ⟨o + 1, by omega, by go_num, by rw [HACD.out, F.out]; exact HO6.out, HB6.out⟩
              case measure => simp [intOf]; omega
        · have k3 : decide ((o : Int) < 12) = false := by rw [decide_eq_false_iff_not]; omega
          obtain rfl : o = 12 := by omega
          go_wp2_with fail
          go_roundw
          case rel => exact ⟨e + 1, by omega, by go_num, by rw [refAllC_step]; exact HO.out, HBR.out⟩
          case measure => simp [intOf]; omega
    · have k3 : decide ((e : Int) < 12) = false := by rw [decide_eq_false_iff_not]; omega
      obtain rfl : e = 12 := by omega
      go_wp2_with fail
      go_ret
      exact ⟨_, rfl, by rw [HC.out]; exact HO.out, HBR.out⟩
end Go.Proofs.YtophffmofpmbpaaDoor
