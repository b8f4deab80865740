/-
  The reference's Parse.
-/
import Derived.Test.YtklpeibmjiolhaaDoorDecW19
import Derived.Test.YtklpeibmjiolhaaDoorDecPz3
namespace Go.Proofs.YtklpeibmjiolhaaDoor
open Go.RowKit
set_option linter.unusedVariables false
set_option maxRecDepth 100000 in
theorem form_nil (w : World) : Calls Tryd.prog 45 #[.string ⟨([] : List UInt8).toArray⟩] w (FormSays [] w) := by
  go_enter Tryd.func45, Tryd.ntmps45
  go_wp2_with fail
  refine (refDig_any [] _ (by simp)).mono ?_
  rintro e wx ⟨rfl, rfl⟩
  rw [show runL isDig [] = 0 from rfl]
  go_wp2_with fail
  go_quiet (fail)
  go_wp2_with fail
  (try simp only [Exit.inBlock, Exit.then])
  refine bodyPost_ret (results_tmp4 rfl _ _ _) rfl ?_
  exact says_bad rfl (below_drewN (Below.refl _ _) _)
theorem form_any (l : List UInt8) (w : World) (hl : l.length ≤ 60) :
    Calls Tryd.prog 45 #[.string ⟨l.toArray⟩] w (FormSays l w) := by
  cases l with
  | nil => exact form_nil w
  | cons a r =>
    by_cases h : a = 45
    · subst h; exact form_neg r w hl
    · exact form_pos (a :: r) w hl (by simp) (by simpa using h)
theorem form_yes (l : List UInt8) (w : World) (hl : l.length ≤ 60) (h : fmB l = true) :
    Calls Tryd.prog 45 #[.string ⟨l.toArray⟩] w fun e w' => e = .returned (.tuple #[.bool (negB l), .string ⟨(whL l).toArray⟩, .string ⟨(ptL l).toArray⟩, .bool true]) ∧ Below w.heap.size w w' := by
  refine (form_any l w hl).mono ?_
  rintro e w' ⟨a, b, c, rfl, h2, hb⟩
  obtain ⟨rfl, rfl, rfl⟩ := h2 h
  rw [h]
  exact ⟨rfl, hb⟩
theorem form_no (l : List UInt8) (w : World) (hl : l.length ≤ 60) (h : fmB l = false) :
    Calls Tryd.prog 45 #[.string ⟨l.toArray⟩] w fun e w' => ∃ (a : Bool) (b c : List UInt8), e = .returned (.tuple #[.bool a, .string ⟨b.toArray⟩, .string ⟨c.toArray⟩, .bool false]) ∧ Below w.heap.size w w' := by
  refine (form_any l w hl).mono ?_
  rintro e w' ⟨a, b, c, rfl, h2, hb⟩
  rw [h]
  exact ⟨a, b, c, rfl, hb⟩
theorem decVal_take_le (l : List UInt8) (i : Nat) : decVal (l.take i) ≤ decVal l := by
  have h := decVal_app (l.take i) (l.drop i)
  rw [List.take_append_drop] at h
  have h1 := Nat.one_le_pow (l.drop i).length 10 (by omega)
  have h2 := Nat.mul_le_mul_left (decVal (l.take i)) h1
  omega
theorem decVal_take_succ {l : List UInt8} {i : Nat} (h : i < l.length) : decVal (l.take (i + 1)) = decVal (l.take i) * 10 + ((l.getD i 0).toNat - 48) := by
  rw [List.take_succ_eq_append_getElem h, decVal_snoc]
  simp [List.getD, h]
set_option maxRecDepth 100000 in
set_option maxHeartbeats 8000000 in
theorem refParse_any (l : List UInt8) (sc : Int) (w : World) (hl : l.length ≤ 60) :
    Calls Tryd.prog 27 #[.string ⟨l.toArray⟩, .int .i64 sc] w fun e w' => e = .returned (.tuple #[.int .i64 (pzV l sc), .int .i64 (pzE l sc)]) ∧ Below w.heap.size w w' := by
  generalize hPV : pzV l sc = PV
  generalize hPE : pzE l sc = PE
  have HPV := Lib.hid hPV
  have HPE := Lib.hid hPE
  clear hPV hPE
  by_cases hs0 : sc < 0
  · have e1 : PE = 1 := by rw [← HPE.out]; unfold pzE; rw [decide_eq_false (show ¬ 0 ≤ sc by omega)]; rfl
    have e2 : PV = 0 := by rw [← HPV.out]; unfold pzV; rw [HPE.out, if_neg (by omega)]
    have E := Lib.hid (And.intro e1 e2)
    have hd : decide (sc < 0) = true := by rw [decide_eq_true_eq]; omega
    clear e1 e2
    go_enter Tryd.func27, Tryd.ntmps27
    go_wp2_with fail
    go_ret2
    exact ⟨pair_int E.out.2.symm E.out.1.symm, Below.refl _ _⟩
  by_cases hs9 : 9 < sc
  · have e1 : PE = 1 := by rw [← HPE.out]; unfold pzE; rw [decide_eq_false (show ¬ sc ≤ 9 by omega), Bool.and_false]; rfl
    have e2 : PV = 0 := by rw [← HPV.out]; unfold pzV; rw [HPE.out, if_neg (by omega)]
    have E := Lib.hid (And.intro e1 e2)
    have hd : decide (sc < 0) = false := by rw [decide_eq_false_iff_not]; omega
    have hd9 : decide (9 < sc) = true := by rw [decide_eq_true_eq]; omega
    clear e1 e2
    go_enter Tryd.func27, Tryd.ntmps27
    go_wp2_with fail
    go_ret2
    exact ⟨pair_int E.out.2.symm E.out.1.symm, Below.refl _ _⟩
  have hd : decide (sc < 0) = false := by rw [decide_eq_false_iff_not]; omega
  have hd9 : decide (9 < sc) = false := by rw [decide_eq_false_iff_not]; omega
  have hPE' : PE = if fmB l then (if pzB l sc then 0 else 2) else 3 := by rw [← HPE.out]; unfold pzE; rw [decide_eq_true (show 0 ≤ sc by omega), decide_eq_true (show sc ≤ 9 by omega)]; rfl
  have hPV' : PV = if PE = 0 then (if negB l then -(pzN l sc : Int) else pzN l sc) else 0 := by rw [← HPV.out, ← HPE.out]; rfl
  cases hf : fmB l
  · have e1 : PE = 3 := by rw [hPE', hf]; rfl
    have e2 : PV = 0 := by rw [hPV', if_neg (by omega)]
    have E := Lib.hid (And.intro e1 e2)
    have HF := Lib.hid hf
    clear e1 e2 hPE' hPV' hf hs0 hs9
    go_enter Tryd.func27, Tryd.ntmps27
    go_wp2_with fail
    refine (form_no l _ hl HF.out).mono ?_
    rintro e w1 ⟨a, b, c, rfl, hb⟩
    go_wp2_with fail
    go_ret2
    exact ⟨pair_int E.out.2.symm E.out.1.symm, hb⟩
  · have hcl := @cut_lens l
    have HFY := Lib.hid (form_yes l w hl hf)
    have hfo : fmOf (negB l) (pnB l) (whL l) (ptL l) = true := hf
    rw [hf] at hPE'
    unfold pzB pzN at hPE'
    unfold pzN at hPV'
    have hpn := @cut_pn l
    unfold fmOf at hfo
    simp only [Bool.and_eq_true] at hfo
    have hdg := all_digs (sc.toNat - (ptL l).length) hfo.1.1.1 hfo.1.2 hpn
    clear hfo hpn hf HPE HPV
    have HP1 := Lib.hid hPE'
    have HP2 := Lib.hid hPV'
    have HDG := Lib.hid hdg
    clear hPE' hPV' hdg
    generalize whL l = wh at *
    generalize ptL l = pt at *
    generalize negB l = ng at *
    have hwl : wh.length ≤ 60 := by omega
    have hpl : pt.length ≤ 60 := by omega
    have s0 : 0 ≤ sc := by omega
    have s9 : sc ≤ 9 := by omega
    clear hs0 hs9
    go_enter Tryd.func27, Tryd.ntmps27
    go_wp2_with fail
    refine HFY.out.mono ?_
    rintro e w1 ⟨rfl, hb⟩
    have HB := Lib.hid hb
    clear hb HFY
    by_cases h1 : (pt.length : Int) ≤ sc
    · have d1 : decide (sc < (pt.length : Int)) = false := by rw [decide_eq_false_iff_not]; omega
      by_cases h2 : wh.length ≤ 16
      · have d2 : decide (16 < (wh.length : Int)) = false := by rw [decide_eq_false_iff_not]; omega
        go_wp2_with fail
        go_loop [8] (fun p => ∃ (j : Nat) (q : List UInt8), q = pt ++ List.replicate j 48 ∧ pt.length + j ≤ sc.toNat ∧ p = .string ⟨q.toArray⟩) (fun p => 9 - strLen p)
        case atStart => exact ⟨0, pt, by simp, by omega, rfl⟩
        case round =>
          obtain ⟨j, q, hq, hj, rfl⟩ := hrel
          have hql : q.length = pt.length + j := by rw [hq]; simp
          have hqb : q.length ≤ 9 := by omega
          have HQ := Lib.hid hq
          clear hq
          by_cases hlt : (q.length : Int) < sc
          · have hdl : decide ((q.length : Int) < sc) = true := by rw [decide_eq_true_eq]; exact hlt
            have F : Hid (q ++ [48] = pt ++ List.replicate (j + 1) 48) := by
              show _ = _
              rw [HQ.out, List.replicate_succ', List.append_assoc]
            have hcat : (⟨q.toArray⟩ ++ ⟨#[48]⟩ : ByteArray) = ⟨(q ++ [48]).toArray⟩ := cat_mk q [48]
            have hl1 : (q ++ [48]).length = q.length + 1 := by simp
            generalize q ++ [48] = q1 at *
            have HL1 := Lib.hid hl1
            clear hl1
            have HQL := Lib.hid hql
            clear hql
            go_wp2_with fail
            go_round
            case rel => exact ⟨j + 1, q1, F.out, by have := HQL.out; omega, rfl⟩
            case measure => simp only [strLen_mk]; have := HL1.out; omega
          · have hdl : decide ((q.length : Int) < sc) = false := by rw [decide_eq_false_iff_not]; exact hlt
            have hqe : q = pt ++ List.replicate (sc.toNat - pt.length) 48 := by rw [HQ.out]; congr 2; omega
            have hcat : (⟨wh.toArray⟩ ++ ⟨q.toArray⟩ : ByteArray) = ⟨(wh ++ q).toArray⟩ := cat_mk wh q
            have hLl : (wh ++ q).length ≤ 60 := by rw [List.length_append]; omega
            have hLe : wh ++ pt ++ List.replicate (sc.toNat - pt.length) 48 = wh ++ q := by rw [hqe, List.append_assoc]
            rw [hLe] at HDG HP1 HP2
            clear hqe hLe HQ
            generalize wh ++ q = L at *
            clear hql
            go_wp2_with fail
            go_loop [10, 11] (fun n i => ∃ k : Nat, k ≤ L.length ∧ i = .int .i64 k ∧ n = .int .i64 (decVal (L.take k) : Nat) ∧ decVal (L.take k) ≤ 1000000000000000) (fun _ i => L.length - (intOf i).toNat)
            case atStart => exact ⟨0, Nat.zero_le _, rfl, rfl, by simp [decVal]⟩
            case round =>
              obtain ⟨k, hk, rfl, rfl, hm⟩ := hrel
              by_cases hlt2 : k < L.length
              · have hli : decide ((k : Int) < (L.length : Int)) = true := by rw [decide_eq_true_eq]; omega
                have hsz : k < (⟨L.toArray⟩ : ByteArray).size := by rw [mk_size]; exact hlt2
                obtain ⟨b1, b2⟩ := dig_at HDG.out hlt2
                have hst := decVal_take_succ hlt2
                have hle := decVal_take_le L (k + 1)
                rw [← mk_getD L k hsz] at b1 b2 hst
                have c1 : (48 : Int) ≤ ((⟨L.toArray⟩ : ByteArray)[k].toNat : Int) := by omega
                have c2 : ((⟨L.toArray⟩ : ByteArray)[k].toNat : Int) ≤ 57 := by omega
                generalize decVal (L.take k) = m at *
                generalize hm1 : decVal (L.take (k + 1)) = m1 at *
                have HM1 := Lib.hid hm1
                clear hm1
                have F : Hid ((10 * (m : Int) + (((⟨L.toArray⟩ : ByteArray)[k].toNat : Int) - 48)) = (m1 : Int)) := by
                  show _ = _
                  omega
                by_cases hbig : 1000000000000000 < m1
                · have hdb : decide ((1000000000000000 : Int) < 10 * (m : Int) + (((⟨L.toArray⟩ : ByteArray)[k].toNat : Int) - 48)) = true := by rw [F.out, decide_eq_true_eq]; omega
                  have e1 : PE = 2 := by rw [HP1.out, decide_eq_false (show ¬ decVal L ≤ 1000000000000000 by omega)]; simp
                  have e2 : PV = 0 := by rw [HP2.out, if_neg (by omega)]
                  have E := Lib.hid (And.intro e1 e2)
                  clear e1 e2 HP1 HP2 hst hle b1 b2
                  go_wp2_with fail
                  go_ret2
                  exact ⟨pair_int E.out.2.symm E.out.1.symm, HB.out⟩
                · have hdb : decide ((1000000000000000 : Int) < 10 * (m : Int) + (((⟨L.toArray⟩ : ByteArray)[k].toNat : Int) - 48)) = false := by rw [F.out, decide_eq_false_iff_not]; omega
                  clear hst hle b1 b2
                  have HBG := Lib.hid hbig
                  clear hbig
                  go_wp2_with fail
                  go_round
                  case rel => exact ⟨k + 1, by omega, by go_num, by rw [F.out, HM1.out], by rw [HM1.out]; have := HBG.out; omega⟩
                  case measure => simp [intOf]; omega
              · have hli : decide ((k : Int) < (L.length : Int)) = false := by rw [decide_eq_false_iff_not]; omega
                rw [List.take_of_length_le (show L.length ≤ k by omega)] at hm ⊢
                have e1 : PE = 0 := by rw [HP1.out, decide_eq_true h1, decide_eq_true h2, decide_eq_true hm]; rfl
                have e2 : PV = (if ng then -(decVal L : Int) else decVal L) := by rw [HP2.out, if_pos e1]
                have E := Lib.hid (And.intro e1 e2)
                clear e1 e2 HP1 HP2 HDG
                generalize decVal L = m at *
                cases ng
                · go_wp2_with fail
                  go_ret2
                  exact ⟨pair_int (by rw [E.out.2]; simp) E.out.1.symm, HB.out⟩
                · go_wp2_with fail
                  go_ret2
                  exact ⟨pair_int (by rw [E.out.2]; simp) E.out.1.symm, HB.out⟩
      · have d2 : decide (16 < (wh.length : Int)) = true := by rw [decide_eq_true_eq]; omega
        have e1 : PE = 2 := by rw [HP1.out, decide_eq_false h2]; simp
        have e2 : PV = 0 := by rw [HP2.out, if_neg (by omega)]
        have E := Lib.hid (And.intro e1 e2)
        clear e1 e2 HP1 HP2 h2
        go_wp2_with fail
        go_ret2
        exact ⟨pair_int E.out.2.symm E.out.1.symm, HB.out⟩
    · have d1 : decide (sc < (pt.length : Int)) = true := by rw [decide_eq_true_eq]; omega
      have e1 : PE = 2 := by rw [HP1.out, decide_eq_false h1]; simp
      have e2 : PV = 0 := by rw [HP2.out, if_neg (by omega)]
      have E := Lib.hid (And.intro e1 e2)
      clear e1 e2 HP1 HP2 h1
      go_wp2_with fail
      go_ret2
      exact ⟨pair_int E.out.2.symm E.out.1.symm, HB.out⟩
end Go.Proofs.YtklpeibmjiolhaaDoor
