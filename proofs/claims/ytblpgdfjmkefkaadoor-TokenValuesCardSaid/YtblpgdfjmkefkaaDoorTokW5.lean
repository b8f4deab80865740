/-
  The value of a number: token.Value and the reference's.
-/
import Derived.Test.YtblpgdfjmkefkaaDoorTokW4
namespace Go.Proofs.YtblpgdfjmkefkaaDoor
open Go.RowKit
set_option linter.unusedVariables false
def vB (k : Int) (t : List UInt8) : Bool := (k == 2) && valOk t
def vN (k : Int) (t : List UInt8) : Int := if vB k t then decVal t else 0
theorem decVal_take_le (l : List UInt8) (k : Nat) : decVal (l.take k) ≤ decVal l := by
  have key : ∀ (r : List UInt8) (acc : Nat), acc ≤ r.foldl (fun n b => n * 10 + (b.toNat - 48)) acc := by
    intro r
    induction r with
    | nil => intro acc; simp
    | cons b r ih => intro acc; simp only [List.foldl_cons]; have := ih (acc * 10 + (b.toNat - 48)); omega
  have e : decVal l = (l.drop k).foldl (fun n b => n * 10 + (b.toNat - 48)) (decVal (l.take k)) := by
    unfold decVal
    rw [← List.foldl_append, List.take_append_drop]
  rw [e]
  exact key _ _
theorem decVal_step {l : List UInt8} {k : Nat} (h : k < l.length) (hd : isDig (l.getD k 0) = true) : ((decVal (l.take (k + 1)) : Nat) : Int) = 10 * (decVal (l.take k) : Nat) + (((l.getD k 0).toNat : Int) - 48) := by
  rw [List.take_succ_eq_append_getElem h, decVal_snoc]
  have e : l[k] = l.getD k 0 := by simp [List.getD, h]
  rw [e]
  have := isDig_iff.1 hd
  omega
theorem valOk_num {l : List UInt8} (h : isNum l = false) : valOk l = false := by unfold valOk; rw [h]; rfl
theorem valOk_big {l : List UInt8} {k : Nat} (h : 1000000000000 < decVal (l.take k)) : valOk l = false := by
  unfold valOk
  have := decVal_take_le l k
  rw [decide_eq_false (by omega), Bool.and_false]
theorem valOk_yes {l : List UInt8} (h : isNum l = true) (h' : decVal l ≤ 1000000000000) : valOk l = true := by
  unfold valOk; rw [h, decide_eq_true h']; rfl
theorem ret_ib {a b : Int} {c d : Bool} (h : a = b) (h' : c = d) : Ending.returned (.tuple #[.int .i64 a, .bool c]) = .returned (.tuple #[.int .i64 b, .bool d]) := by rw [h, h']
theorem vB_no {k : Int} {t : List UInt8} (h : vB k t = false) : vN k t = 0 ∧ vB k t = false := ⟨by unfold vN; rw [h]; rfl, h⟩
theorem isNum_parts {t : List UInt8} : isNum t = true ↔ t.all isDig = true ∧ t.isEmpty = false := by simp [isNum]
set_option maxHeartbeats 1000000 in
theorem value_any (k : Int) (t : List UInt8) (fr : Int) (w : World) (ht : t.length ≤ 9000) :
    Calls Tryd.prog 15 #[.agg #[.int .i64 k, .string ⟨t.toArray⟩, .int .i64 fr]] w fun e w' => e = .returned (.tuple #[.int .i64 (vN k t), .bool (vB k t)]) ∧ Below w.heap.size w w' := by
  have hB := (Below.refl w.heap.size w).alloc (Nat.le_refl _) (.cells #[.int .i64 k, .string ⟨t.toArray⟩, .int .i64 fr] 34)
  have HB := Lib.hid hB
  clear hB
  cases hk : (k == 2)
  · have F := Lib.hid (vB_no (k := k) (t := t) (by unfold vB; rw [hk]; rfl))
    have hk' : (k != 2) = true := by rw [bne, hk]; rfl
    clear hk
    go_enter Tryd.func15, Tryd.ntmps15
    go_wp2_with fail
    go_quiet (fail)
    go_wp2_with fail
    go_ret2
    exact ⟨ret_ib F.out.1.symm F.out.2.symm, below_drewN HB.out _⟩
  · have hk' : (k != 2) = false := by rw [bne, hk]; rfl
    cases he : t.isEmpty
    · cases hn : t.all isDig
      · have F := Lib.hid (vB_no (k := k) (t := t) (by unfold vB; rw [hk, valOk_num (by unfold isNum; rw [hn]; rfl)]; rfl))
        have hr : runL isDig t < t.length := by
          have h1 := runL_le isDig t
          have h2 : ¬ runL isDig t = t.length := by rw [runL_full, hn]; simp
          omega
        have hd : decide (runL isDig t < t.length) = true := by rw [decide_eq_true_eq]; exact hr
        have he' : (t == []) = false := by cases t <;> simp_all
        clear hk hn hr
        go_enter Tryd.func15, Tryd.ntmps15
        go_wp2_with fail
        go_quiet ((go_at_call 24; exact Calls.quiet_of_same ((run_any _ isDig enter_digit (fun b w => (digit_any _ w).mono (by rintro e wx ⟨rfl, rfl⟩; exact ⟨by rw [digI_of], rfl⟩)) t _ (by omega)).mono (by rintro e wx ⟨rfl, rfl⟩; exact ⟨rfl, rfl⟩))))
        go_wp2_with fail
        go_ret2
        exact ⟨ret_ib F.out.1.symm F.out.2.symm, below_drewN HB.out _⟩
      · have hr : runL isDig t = t.length := runL_full.2 hn
        have hd : decide (runL isDig t < t.length) = false := by rw [decide_eq_false_iff_not]; omega
        have hge : t.length ≤ runL isDig t := by omega
        have he' : (t == []) = false := by cases t <;> simp_all
        have HN := Lib.hid (isNum_parts.2 ⟨hn, he⟩)
        have HK := Lib.hid hk
        clear hk hn hr
        go_enter Tryd.func15, Tryd.ntmps15
        go_wp2_with fail
        go_quiet ((go_at_call 24; exact Calls.quiet_of_same ((run_any _ isDig enter_digit (fun b w => (digit_any _ w).mono (by rintro e wx ⟨rfl, rfl⟩; exact ⟨by rw [digI_of], rfl⟩)) t _ (by omega)).mono (by rintro e wx ⟨rfl, rfl⟩; exact ⟨rfl, rfl⟩))))
        have hBn := below_drewN HB.out nq
        have cT : ((w.alloc (.cells #[.int .i64 k, .string ⟨t.toArray⟩, .int .i64 fr] 34)).drewN nq).cell? ⟨w.heap.size, 1, none⟩ = some (.string ⟨t.toArray⟩) := ((Blk.new w _ _).drewN nq).cell 1
        generalize (w.alloc (.cells #[.int .i64 k, .string ⟨t.toArray⟩, .int .i64 fr] 34)).drewN nq = W at *
        have HBN := Lib.hid hBn
        have hBi : ∀ p, Below w.heap.size w (W.iter ⟨t.toArray⟩ p) := fun p => HBN.out.alloc HBN.out.size _
        have HBI := Lib.hid hBi
        clear hBn hBi HB HBN
        go_wp2_with fail
        go_loopw [4] (fun n w' => ∃ pos : Nat, w' = W.iter ⟨t.toArray⟩ pos ∧ pos ≤ t.length ∧ n = .int .i64 ((decVal (t.take pos) : Nat) : Int) ∧ decVal (t.take pos) ≤ 1000000000000) (fun _ w' => t.length - w'.iterPos W.heap.size)
        case atStart => exact ⟨0, rfl, by omega, rfl, by simp [decVal]⟩
        case round =>
          obtain ⟨pos, rfl, hle, rfl, hm⟩ := hrel
          by_cases hlt : pos < t.length
          · obtain ⟨r, wd, hnx, hr⟩ := next_step W t pos hlt
            have hdig : isDig (t.getD pos 0) = true := by
              have := List.all_eq_true.1 (isNum_parts.1 HN.out).1 (t.getD pos 0) (by simp [List.getD, hlt])
              exact this
            have hst := decVal_step hlt hdig
            have hbd := isDig_iff.1 hdig
            obtain ⟨e1, r1, r2, e2⟩ : r = (t.getD pos 0).toNat ∧ 48 ≤ r ∧ r ≤ 57 ∧ wd = 1 := by
              rcases hr with h | h
              · exact ⟨h.1, by omega, by omega, h.2.2⟩
              · have := h.2.2.2 0 (by omega)
                rw [Nat.add_zero] at this
                omega
            rw [← e1] at hst
            clear hr hbd e1 hdig
            subst e2
            generalize hM : decVal (t.take pos) = m at *
            have HST := Lib.hid hst
            clear hst hM
            have hm0 : (0 : Int) ≤ (m : Int) := by omega
            have hm1 : (m : Int) ≤ 1000000000000 := by omega
            by_cases hbig : 1000000000000 < 10 * (m : Int) + (r - 48)
            · have F := Lib.hid (vB_no (k := k) (t := t) (by unfold vB; rw [valOk_big (l := t) (k := pos + 1) (by have := HST.out; omega), Bool.and_false]))
              go_wp2_with fail
              go_ret2
              exact ⟨ret_ib F.out.1.symm F.out.2.symm, HBI.out _⟩
            · have hb2 : decide (1000000000000 < 10 * (m : Int) + (r - 48)) = false := by rw [decide_eq_false_iff_not]; exact hbig
              go_wp2_with fail
              go_roundw
              case rel => exact ⟨pos + 1, rfl, by omega, by rw [HST.out], by have := HST.out; omega⟩
              case measure => simp; omega
          · have hnx : ∀ ty, (Instr.next (.pointer (some ⟨W.heap.size, 0, none⟩)) true ty).run Tryd.prog (W.iter ⟨t.toArray⟩ pos) = _ := fun ty => run_next_end W ⟨t.toArray⟩ pos ty (by rw [mk_size]; exact hlt)
            have F : Hid (((decVal (t.take pos) : Nat) : Int) = vN k t ∧ true = vB k t) := by
              show _ ∧ _
              have e : t.take pos = t := List.take_of_length_le (by omega)
              rw [e] at hm ⊢
              have : vB k t = true := by unfold vB; rw [HK.out, valOk_yes HN.out hm]; rfl
              unfold vN
              rw [this]
              exact ⟨rfl, rfl⟩
            generalize decVal (t.take pos) = m at *
            go_wp2_with fail
            go_ret2
            exact ⟨ret_ib F.out.1 F.out.2, HBI.out _⟩
    · obtain rfl : t = [] := by simpa using he
      have F := Lib.hid (vB_no (k := k) (t := []) (by unfold vB; rw [hk]; rfl))
      clear hk he
      go_enter Tryd.func15, Tryd.ntmps15
      go_wp2_with fail
      go_quiet (fail)
      go_wp2_with fail
      go_ret2
      exact ⟨ret_ib F.out.1.symm F.out.2.symm, below_drewN HB.out _⟩
end Go.Proofs.YtblpgdfjmkefkaaDoor
