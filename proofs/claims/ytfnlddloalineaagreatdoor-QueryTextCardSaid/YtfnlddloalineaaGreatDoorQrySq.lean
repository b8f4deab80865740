/-
  strings.SplitSeq at a separator of one byte: its iterator's contract.
-/
import Derived.Test.YtfnlddloalineaaGreatDoorQrySp
import Derived.Test.YtfnlddloalineaaGreatDoorSeq
import Derived.Lib.IndexLaws
import Derived.Shelf.Abstract
import Derived.Shelf.RegionOpen
import Derived.WalkKit
import Derived.OwnWalkIn
import Derived.TacticsInMore
import Derived.LoopNIn
import Derived.LoopIn
namespace Go.Proofs.YtfnlddloalineaaGreatDoor
open Go.RowKit Go.Shelf
attribute [local go_sem] Oper.semAt_some
set_option linter.unusedVariables false
theorem indexByte_no {l : List UInt8} {c : UInt8} (h : c ∉ l) : Lib.indexByte l c = -1 := by
  induction l with
  | nil => rfl
  | cons b r ih =>
    unfold Lib.indexByte
    have h1 : ¬ b = c := fun e => h (by rw [e]; simp)
    have h2 := ih (fun hm => h (by simp [hm]))
    simp [h1, h2]
theorem indexByte_at {a b : List UInt8} {c : UInt8} (h : c ∉ a) : Lib.indexByte (a ++ c :: b) c = a.length := by
  induction a with
  | nil => simp [Lib.indexByte]
  | cons x r ih =>
    rw [List.cons_append]
    unfold Lib.indexByte
    have h1 : ¬ x = c := fun e => h (by rw [e]; simp)
    have h2 := ih (fun hm => h (by simp [hm]))
    have h3 : ¬ ((r.length : Int) = -1) := by omega
    simp [h1, h2, h3]
    try omega
/-- how much the box still holds -/
def boxLen (W : World) (B : Nat) : Nat := match W.cell? ⟨B, 0, none⟩ with
  | some (.string s) => s.size
  | _ => 0
theorem boxLen_eq {W : World} {B : Nat} {T : TypeId} {s : ByteArray} (h : Boxed W B T (.string s)) : boxLen W B = s.size := by
  unfold boxLen
  rw [h.cell]
theorem box_keep {Bs k : Nat} {T : TypeId} {A B : World} {v : Value} (h : Boxed A k T v) (hk : KpBox Bs A B) (h1 : Bs ≤ k) (h2 : k < Bs + 3) : Boxed B k T v := (hk k h1 h2).trans h
set_option maxRecDepth 100000 in
set_option maxHeartbeats 2000000 in
theorem splitSeq1_in (n : Nat) (hn : 1 ≤ n) (l Bs : Nat) (t : List UInt8) (J Jx : List (List UInt8) → World → Prop) (hJ : AbBox Bs J)
    (hY : ∀ pre x W1, J pre W1 → (pre ++ [x]) <+: piecesL 44 t → YieldAt Fence.wide (n - 1) Tryz.prog l #[.string ⟨x.toArray⟩] W1 fun e W' =>
      (e = .returned (.bool true) ∧ J (pre ++ [x]) W' ∧ KpBox Bs W1 W') ∨ (e = .returned (.bool false) ∧ Jx (pre ++ [x]) W'))
    (W : World) (b0 : Boxed W Bs 9 (.string ⟨t.toArray⟩)) (b1 : Boxed W (Bs + 1) 9 (.string ⟨#[44]⟩)) (b2 : Boxed W (Bs + 2) 3 (.int .i64 0)) (ht : t.length ≤ 100000) (h0 : J [] W) :
    CallsIn Fence.wide n Tryz.prog 152 #[.func (.yield l) #[] #[], .pointer (some ⟨Bs + 1, 0, none⟩), .pointer (some ⟨Bs, 0, none⟩), .pointer (some ⟨Bs + 2, 0, none⟩)] W fun e W' =>
      (∃ v, e = .returned v) ∧ (J (piecesL 44 t) W' ∨ ∃ pre, pre <+: piecesL 44 t ∧ Jx pre W') := by
  have c1 := b1.cell
  refine callsIn_of_wp Tryz.func152 rfl trivial ?_ rfl
  simp only [Tryz.ntmps152, List.size_toArray, List.length_cons, List.length_nil, Nat.reduceAdd, Nat.reduceSub, Array.replicate_succ, Array.replicate_zero, List.push_toArray, List.append_toArray, List.nil_append, List.cons_append]
  gi_wp2
  gi_loopw [7] (fun i wr => ∃ (pre : List (List UInt8)) (r : List UInt8), piecesL 44 t = pre ++ piecesL 44 r ∧ r.length ≤ t.length ∧ Boxed wr Bs 9 (.string ⟨r.toArray⟩) ∧ Boxed wr (Bs + 1) 9 (.string ⟨#[44]⟩) ∧ Boxed wr (Bs + 2) 3 (.int .i64 0) ∧ J pre wr) (fun _ wr => boxLen wr Bs)
  case atStart => exact ⟨[], t, rfl, Nat.le_refl _, b0, b1, b2, h0⟩
  case round =>
    obtain ⟨pre, r, hp, hrl, e0, e1, e2, hj⟩ := hrel
    have c0 := e0.cell
    have c1 := e1.cell
    have c2 := e2.cell
    have hix := (callsIn_wide (n := n - 1)).2 (Tryz.strings_Index_one ⟨r.toArray⟩ 44 wr)
    by_cases hm : (44 : UInt8) ∈ r
    · obtain ⟨a, b, hr, ha⟩ := split_at hm
      have hi : Lib.indexByte (⟨r.toArray⟩ : ByteArray).data.toList 44 = (a.length : Int) := by
        show Lib.indexByte r.toArray.toList 44 = _
        rw [List.toList_toArray, hr]; exact indexByte_at ha
      rw [hi] at hix
      have hpa : piecesL 44 t = (pre ++ [a]) ++ piecesL 44 b := by rw [hp, hr, piecesL_at ha]; simp
      obtain ⟨fn, tmps, assign, body, hy, hR⟩ := hY pre a wr hj ⟨piecesL 44 b, hpa.symm⟩
      have hln : r.length = a.length + (b.length + 1) := by rw [hr]; simp
      have hx1 : (⟨r.toArray⟩ : ByteArray).extract 0 a.length = ⟨a.toArray⟩ := by
        rw [ex_mk, hr]; simp
      have hx2 : (⟨r.toArray⟩ : ByteArray).extract (a.length + 1) r.length = ⟨b.toArray⟩ := by
        rw [ex_mk, List.take_length, hr, ← List.drop_drop]; simp
      have HPA := Lib.hid hpa
      have HLN := Lib.hid hln
      have hal : a.length + 1 ≤ r.length := by omega
      have hbl : b.length < r.length := by omega
      clear hr hm hi hp hpa hln ha b0 b1 b2 h0 c1
      have c1 := e1.cell
      have f0 := e0.frozen
      have k1 : decide ((a.length : Int) < 0) = false := by rw [decide_eq_false_iff_not]; omega
      gi_wp2_with fail
      refine ⟨trivial, hix.mono ?_⟩
      rintro e w' ⟨rfl, rfl⟩
      gi_wp2_with fail
      refine hR.mono ?_
      clear hix hy hR c0 c1 c2 f0
      rintro e W3 (⟨rfl, hJ3, hk3⟩ | ⟨rfl, hJx3⟩)
      · have g0 := box_keep e0 hk3 (Nat.le_refl _) (by omega)
        have g1 := box_keep e1 hk3 (by omega) (by omega)
        have g2 := box_keep e2 hk3 (by omega) (by omega)
        have c0 := g0.cell
        have c1 := g1.cell
        have f0 := g0.frozen
        gi_wp2_with fail
        go_roundw
        case rel =>
          exact ⟨pre ++ [a], b, HPA.out, by omega, g0.set _, Boxed.kept g1 (grownBy_setCell' _ _ _) (by intro e; injection e; omega), Boxed.kept g2 (grownBy_setCell' _ _ _) (by intro e; injection e; omega), hJ _ _ _ hJ3 (grownBy_setCell' _ _ _)⟩
        case measure =>
          rw [boxLen_eq (g0.set _), boxLen_eq e0, mk_size, mk_size]; exact hbl
      · gi_wp2_with fail
        refine bodyPost_ret (results_none rfl _ _ _) rfl ?_
        exact ⟨⟨_, rfl⟩, .inr ⟨pre ++ [a], ⟨piecesL 44 b, HPA.out.symm⟩, hJx3⟩⟩
    · have hi : Lib.indexByte (⟨r.toArray⟩ : ByteArray).data.toList 44 = -1 := by
        show Lib.indexByte r.toArray.toList 44 = _
        rw [List.toList_toArray]; exact indexByte_no hm
      rw [hi] at hix
      have hpa : piecesL 44 t = pre ++ [r] := by rw [hp, piecesL_no hm]
      obtain ⟨fn, tmps, assign, body, hy, hR⟩ := hY pre r wr hj ⟨[], by rw [hpa]; simp⟩
      have HPA := Lib.hid hpa
      clear hm hi hp hpa b0 b1 b2 h0
      have c1 := e1.cell
      gi_wp2_with fail
      refine ⟨trivial, hix.mono ?_⟩
      rintro e w' ⟨rfl, rfl⟩
      gi_wp2_with fail
      refine hR.mono ?_
      clear hix hy hR c0 c1 c2
      rintro e W3 (⟨rfl, hJ3, hk3⟩ | ⟨rfl, hJx3⟩)
      · gi_wp2_with fail
        go_end0
        exact ⟨⟨_, rfl⟩, .inl (by rw [HPA.out]; exact hJ3)⟩
      · gi_wp2_with fail
        go_end0
        exact ⟨⟨_, rfl⟩, .inr ⟨pre ++ [r], ⟨[], by rw [HPA.out]; simp⟩, hJx3⟩⟩
end Go.Proofs.YtfnlddloalineaaGreatDoor
