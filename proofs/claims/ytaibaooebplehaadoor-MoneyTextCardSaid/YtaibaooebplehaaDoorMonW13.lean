/-
  The reference's Parse, and the laws MoneyText and MoneyParse.
-/
import Derived.Test.YtaibaooebplehaaDoorMonW12
namespace Go.Proofs.YtaibaooebplehaaDoor
open Go.RowKit
set_option linter.unusedVariables false
theorem range_succ_all {p : Nat → Bool} {k : Nat} (h : (List.range k).all p = true) (h' : p k = true) : (List.range (k + 1)).all p = true := by
  rw [List.range_succ, List.all_append, h]; simp [h']
theorem range_not {p : Nat → Bool} {n k : Nat} (hk : k < n) (h : p k = false) : (List.range n).all p = false := by
  rw [List.all_eq_false]; exact ⟨k, by simpa using hk, by rw [h]; simp⟩
set_option maxHeartbeats 2000000 in
theorem form_any (t : List UInt8) (w : World) (hl : t.length ≤ 200) : Calls Tryd.prog 38 #[.string ⟨t.toArray⟩] w fun e w' => e = .returned (.bool (formB t)) ∧ w = w' := by
  by_cases h4 : t.length < 4
  · have F : formB t = false := by unfold formB; rw [decide_eq_false (by omega)]; rfl
    rw [F]
    clear F
    have h4i : (t.length : Int) - 3 < 1 := by omega
    go_enter Tryd.func38, Tryd.ntmps38
    go_wp2_with fail
    go_ret
    exact ⟨rfl, rfl⟩
  have h4i : decide ((t.length : Int) - 3 < 1) = false := by rw [decide_eq_false_iff_not]; omega
  have h4n : 4 ≤ t.length := by omega
  have hsz : t.length - 3 < (⟨t.toArray⟩ : ByteArray).size := by rw [mk_size]; omega
  have hsz0 : 0 < (⟨t.toArray⟩ : ByteArray).size := by rw [mk_size]; omega
  have hgk := mk_getD t (t.length - 3) hsz
  have hg0 := mk_getD t 0 hsz0
  clear h4
  cases hp : (t.getD (t.length - 3) 0 == 46)
  · have F : formB t = false := by unfold formB; rw [hp]; simp
    rw [F]
    have hpi : (((⟨t.toArray⟩ : ByteArray)[t.length - 3].toNat : Int) != 46) = true := by
      rw [bne_iff_ne, hgk]
      intro e
      rw [beq_eq_false_iff_ne] at hp
      exact hp (UInt8.toNat_inj.1 (by rw [show (46 : UInt8).toNat = 46 from rfl]; omega))
    clear F hp hgk hg0
    go_enter Tryd.func38, Tryd.ntmps38
    go_wp2_with fail
    go_ret
    exact ⟨rfl, rfl⟩
  have hpi : (((⟨t.toArray⟩ : ByteArray)[t.length - 3].toNat : Int) != 46) = false := by
    rw [bne_eq_false_iff_eq, hgk]
    rw [beq_iff_eq] at hp
    rw [hp]; rfl
  cases h0 : ((t.getD 0 0 == 48) && decide (4 < t.length))
  rotate_left
  · have F : formB t = false := by unfold formB; rw [h0]; simp
    rw [F]
    simp only [Bool.and_eq_true, beq_iff_eq, decide_eq_true_eq] at h0
    have h0i : (((⟨t.toArray⟩ : ByteArray)[0].toNat : Int) == 48) = true := by rw [hg0, h0.1]; rfl
    have h1i : (1 : Int) < (t.length : Int) - 3 := by omega
    clear F hp hgk hg0 h0
    go_enter Tryd.func38, Tryd.ntmps38
    go_wp2_with fail
    go_ret
    exact ⟨rfl, rfl⟩
  have FB : formB t = (List.range t.length).all (formAt t) := by unfold formB; rw [decide_eq_true h4n, hp, h0]; simp
  have HF := Lib.hid FB
  have main : ∀ b : Bool, (((⟨t.toArray⟩ : ByteArray)[0].toNat : Int) == 48) = b → (b = true → decide ((1 : Int) < (t.length : Int) - 3) = false) →
      Calls Tryd.prog 38 #[.string ⟨t.toArray⟩] w fun e w' => e = .returned (.bool (formB t)) ∧ w = w' := by
    intro b hb hb2
    clear FB h0 hp hgk hg0
    cases b
    · clear hb2
      go_enter Tryd.func38, Tryd.ntmps38
      go_wp2_with fail
      go_loop [4] (fun i => ∃ k : Nat, k ≤ t.length ∧ i = .int .i64 k ∧ (List.range k).all (formAt t) = true) (fun i => t.length - (intOf i).toNat)
      case atStart => exact ⟨0, Nat.zero_le _, rfl, rfl⟩
      case round =>
        obtain ⟨k, hk, rfl, hd⟩ := hrel
        have HD := Lib.hid hd
        clear hd
        by_cases hlt : k < t.length
        · have hszk : k < (⟨t.toArray⟩ : ByteArray).size := by rw [mk_size]; exact hlt
          have hg := mk_getD t k hszk
          by_cases hkk : k = t.length - 3
          · have F := Lib.hid (range_succ_all HD.out (show formAt t k = true by unfold formAt; rw [hkk]; simp))
            have hne : ((k : Int) != (t.length : Int) - 3) = false := by rw [bne_eq_false_iff_eq]; omega
            clear hkk hg
            go_wp2_with fail
            go_round
            case rel => exact ⟨k + 1, by omega, by go_num, F.out⟩
            case measure => simp [intOf]; omega
          · have hne : ((k : Int) != (t.length : Int) - 3) = true := by rw [bne_iff_ne]; omega
            have hbe : (k == t.length - 3) = false := by simpa using hkk
            cases hc : isDig (t.getD k 0)
            · have F := Lib.hid (HF.out.trans (range_not hlt (show formAt t k = false by unfold formAt; rw [hbe, hc]; rfl)))
              have hno := isDig_no hc
              rw [← hg] at hno
              clear hg hc hkk hbe
              rcases hno with g1 | g1
              · have g2 : ((⟨t.toArray⟩ : ByteArray)[k].toNat : Int) < 48 := by omega
                clear g1
                go_wp2_with fail
                go_ret
                exact ⟨ret_bool F.out.symm, rfl⟩
              · have g2 : (57 : Int) < ((⟨t.toArray⟩ : ByteArray)[k].toNat : Int) := by omega
                have g3 : decide (((⟨t.toArray⟩ : ByteArray)[k].toNat : Int) < 48) = false := by rw [decide_eq_false_iff_not]; omega
                clear g1
                go_wp2_with fail
                go_ret
                exact ⟨ret_bool F.out.symm, rfl⟩
            · have F := Lib.hid (range_succ_all HD.out (show formAt t k = true by unfold formAt; rw [hc]; simp))
              have h12 := isDig_iff.1 hc
              rw [← hg] at h12
              have g1 : (48 : Int) ≤ ((⟨t.toArray⟩ : ByteArray)[k].toNat : Int) := by omega
              have g2 : ((⟨t.toArray⟩ : ByteArray)[k].toNat : Int) ≤ 57 := by omega
              clear hg hc h12 hkk hbe
              go_wp2_with fail
              go_round
              case rel => exact ⟨k + 1, by omega, by go_num, F.out⟩
              case measure => simp [intOf]; omega
        · have F := Lib.hid (show formB t = true by rw [HF.out]; have := HD.out; rwa [show k = t.length by omega] at this)
          go_wp2_with fail
          go_ret
          exact ⟨ret_bool F.out.symm, rfl⟩
    · have hb3 := hb2 rfl
      clear hb2
      go_enter Tryd.func38, Tryd.ntmps38
      go_wp2_with fail
      go_loop [4] (fun i => ∃ k : Nat, k ≤ t.length ∧ i = .int .i64 k ∧ (List.range k).all (formAt t) = true) (fun i => t.length - (intOf i).toNat)
      case atStart => exact ⟨0, Nat.zero_le _, rfl, rfl⟩
      case round =>
        obtain ⟨k, hk, rfl, hd⟩ := hrel
        have HD := Lib.hid hd
        clear hd
        by_cases hlt : k < t.length
        · have hszk : k < (⟨t.toArray⟩ : ByteArray).size := by rw [mk_size]; exact hlt
          have hg := mk_getD t k hszk
          by_cases hkk : k = t.length - 3
          · have F := Lib.hid (range_succ_all HD.out (show formAt t k = true by unfold formAt; rw [hkk]; simp))
            have hne : ((k : Int) != (t.length : Int) - 3) = false := by rw [bne_eq_false_iff_eq]; omega
            clear hkk hg
            go_wp2_with fail
            go_round
            case rel => exact ⟨k + 1, by omega, by go_num, F.out⟩
            case measure => simp [intOf]; omega
          · have hne : ((k : Int) != (t.length : Int) - 3) = true := by rw [bne_iff_ne]; omega
            have hbe : (k == t.length - 3) = false := by simpa using hkk
            cases hc : isDig (t.getD k 0)
            · have F := Lib.hid (HF.out.trans (range_not hlt (show formAt t k = false by unfold formAt; rw [hbe, hc]; rfl)))
              have hno := isDig_no hc
              rw [← hg] at hno
              clear hg hc hkk hbe
              rcases hno with g1 | g1
              · have g2 : ((⟨t.toArray⟩ : ByteArray)[k].toNat : Int) < 48 := by omega
                clear g1
                go_wp2_with fail
                go_ret
                exact ⟨ret_bool F.out.symm, rfl⟩
              · have g2 : (57 : Int) < ((⟨t.toArray⟩ : ByteArray)[k].toNat : Int) := by omega
                have g3 : decide (((⟨t.toArray⟩ : ByteArray)[k].toNat : Int) < 48) = false := by rw [decide_eq_false_iff_not]; omega
                clear g1
                go_wp2_with fail
                go_ret
                exact ⟨ret_bool F.out.symm, rfl⟩
            · have F := Lib.hid (range_succ_all HD.out (show formAt t k = true by unfold formAt; rw [hc]; simp))
              have h12 := isDig_iff.1 hc
              rw [← hg] at h12
              have g1 : (48 : Int) ≤ ((⟨t.toArray⟩ : ByteArray)[k].toNat : Int) := by omega
              have g2 : ((⟨t.toArray⟩ : ByteArray)[k].toNat : Int) ≤ 57 := by omega
              clear hg hc h12 hkk hbe
              go_wp2_with fail
              go_round
              case rel => exact ⟨k + 1, by omega, by go_num, F.out⟩
              case measure => simp [intOf]; omega
        · have F := Lib.hid (show formB t = true by rw [HF.out]; have := HD.out; rwa [show k = t.length by omega] at this)
          go_wp2_with fail
          go_ret
          exact ⟨ret_bool F.out.symm, rfl⟩
  by_cases hx : t.getD 0 0 = 48
  · refine main true (by rw [hg0, hx]; rfl) (fun _ => ?_)
    rw [hx] at h0
    rw [decide_eq_false_iff_not]
    have : ¬ 4 < t.length := by simpa using h0
    omega
  · refine main false ?_ (fun h => by cases h)
    rw [beq_eq_false_iff_ne, hg0]
    intro e
    exact hx (UInt8.toNat_inj.1 (by rw [show (48 : UInt8).toNat = 48 from rfl]; omega))
theorem form_bytes {t : List UInt8} (h : formB t = true) : ∀ k, k < t.length → t.getD k 0 = 46 ∨ isDig (t.getD k 0) = true := by
  unfold formB at h
  simp only [Bool.and_eq_true, decide_eq_true_eq, beq_iff_eq, List.all_eq_true, List.mem_range] at h
  obtain ⟨⟨⟨_, hp⟩, _⟩, hall⟩ := h
  intro k hk
  have := hall k hk
  unfold formAt at this
  simp only [Bool.or_eq_true, beq_iff_eq] at this
  rcases this with e | e
  · left; rw [e]; exact hp
  · exact .inr e
theorem sat_succ {t : List UInt8} {k : Nat} (hk : k < t.length) : (t.take (k + 1)).foldl satStep 0 = satStep ((t.take k).foldl satStep 0) (t.getD k 0) := by
  rw [List.take_succ_eq_append_getElem hk, List.foldl_append]
  simp [List.getD, hk]
theorem sat_bd {t : List UInt8} (hA : ∀ k, k < t.length → t.getD k 0 = 46 ∨ isDig (t.getD k 0) = true) (k : Nat) (hk : k ≤ t.length) : 0 ≤ (t.take k).foldl satStep 0 ∧ (t.take k).foldl satStep 0 ≤ 1000000000001 := by
  induction k with
  | zero => simp
  | succ k ih =>
    have h := ih (by omega)
    rw [sat_succ (by omega)]
    generalize (t.take k).foldl satStep 0 = S at *
    unfold satStep
    rcases hA k (by omega) with e | e
    · rw [e]; exact h
    · have hd := isDig_iff.1 e
      split
      · exact h
      · omega
set_option maxRecDepth 100000 in
set_option maxHeartbeats 4000000 in
theorem refParse_any (l : List UInt8) (w : World) (hl : l.length ≤ 200) :
    Calls Tryd.prog 25 #[.string ⟨l.toArray⟩] w fun e w' => e = .returned (.tuple #[.int .i64 (pz1 l), .int .i64 (pz2 l)]) ∧ ∃ k, w' = w.drewN k := by
  have hdl : (mD l).length ≤ 200 := by have : (mD l).length ≤ l.length := Lib.trimPrefix_le l [45]; omega
  rcases strip_of l with ⟨hpre, hcons⟩ | ⟨hpre, hmD⟩
  · have hpos : 0 < l.length := by rw [hcons]; simp
    have hposi : (0 : Int) < (l.length : Int) := by omega
    have hsz0 : 0 < (⟨l.toArray⟩ : ByteArray).size := by rw [mk_size]; exact hpos
    have h0i : (((⟨l.toArray⟩ : ByteArray)[0].toNat : Int) == 45) = true := by
      rw [mk_getD l 0 hsz0, hcons]; rfl
    have hex : (⟨l.toArray⟩ : ByteArray).extract 1 l.length = ⟨(mD l).toArray⟩ := by
      rw [ex_mk, List.take_length]
      refine mk_congr ?_
      conv => lhs; rw [hcons]
      rfl
    clear hcons
    cases hfm : (formB (mD l))
    · have hok : mOk l = false := by rw [← form_ok, hfm]; rfl
      have e1 : pz1 l = 0 := by unfold pz1; rw [hok]; rfl
      have e2 : pz2 l = 3 := by unfold pz2; rw [hok]; rfl
      rw [e1, e2]
      clear e1 e2 hok
      go_enter Tryd.func25, Tryd.ntmps25
      go_wp2_with fail
      go_quiet (fail)
      go_wp2_with fail
      refine (form_any _ _ (by omega)).mono ?_
      rintro e w' ⟨rfl, rfl⟩
      go_wp2_with fail
      go_ret2
      exact ⟨rfl, by first | exact ⟨_, rfl⟩ | exact ⟨0, rfl⟩⟩
    cases hz : (l == [45, 48, 46, 48, 48])
    rotate_left
    · have hok : mOk l = false := by rw [← form_ok, hz]; simp
      have e1 : pz1 l = 0 := by unfold pz1; rw [hok]; rfl
      have e2 : pz2 l = 3 := by unfold pz2; rw [hok]; rfl
      rw [e1, e2]
      clear e1 e2 hok
      go_enter Tryd.func25, Tryd.ntmps25
      go_wp2_with fail
      go_quiet (fail)
      go_wp2_with fail
      refine (form_any _ _ (by omega)).mono ?_
      rintro e w' ⟨rfl, rfl⟩
      go_wp2_with fail
      go_ret2
      exact ⟨rfl, by first | exact ⟨_, rfl⟩ | exact ⟨0, rfl⟩⟩
    have hok : mOk l = true := by rw [← form_ok, hfm, hz]; rfl
    by_cases h30 : 30 < l.length
    · have e1 : pz1 l = 0 := by unfold pz1 mLong; rw [hok, decide_eq_true h30]; rfl
      have e2 : pz2 l = 2 := by unfold pz2 mLong; rw [hok, decide_eq_true h30]; rfl
      rw [e1, e2]
      have h30i : (30 : Int) < (l.length : Int) := by omega
      clear e1 e2 hok
      go_enter Tryd.func25, Tryd.ntmps25
      go_wp2_with fail
      go_quiet (fail)
      go_wp2_with fail
      refine (form_any _ _ (by omega)).mono ?_
      rintro e w' ⟨rfl, rfl⟩
      go_wp2_with fail
      go_ret2
      exact ⟨rfl, by first | exact ⟨_, rfl⟩ | exact ⟨0, rfl⟩⟩
    have h30i : decide ((30 : Int) < (l.length : Int)) = false := by rw [decide_eq_false_iff_not]; omega
    have R := ref_parse l hok h30
    rw [hpre] at R
    simp only [if_true] at R
    rw [R.1, R.2]
    have hat := form_bytes hfm
    clear R hok h30
    go_enter Tryd.func25, Tryd.ntmps25
    go_wp2_with fail
    go_quiet (fail)
    go_wp2_with fail
    refine (form_any _ _ (by omega)).mono ?_
    rintro e w' ⟨rfl, rfl⟩
    go_wp2_with fail
    generalize hT : mD l = t at *
    have HT := Lib.hid hT
    clear hT hex
    have HA := Lib.hid hat
    clear hat
    go_loop [6, 7] (fun n i => ∃ k : Nat, k ≤ t.length ∧ i = .int .i64 k ∧ n = .int .i64 ((t.take k).foldl satStep 0)) (fun _ i => t.length - (intOf i).toNat)
    case atStart => exact ⟨0, Nat.zero_le _, rfl, rfl⟩
    case round =>
      obtain ⟨k, hk, rfl, rfl⟩ := hrel
      have hbd := sat_bd HA.out k hk
      by_cases hlt : k < t.length
      · have hszk : k < (⟨t.toArray⟩ : ByteArray).size := by rw [mk_size]; exact hlt
        have hg := mk_getD t k hszk
        have hs := sat_succ hlt
        rw [← hg] at hs
        have hb := HA.out k hlt
        rw [← hg] at hb
        generalize (t.take k).foldl satStep 0 = S at *
        by_cases h46 : (⟨t.toArray⟩ : ByteArray)[k] = 46
        · have h46i : (((⟨t.toArray⟩ : ByteArray)[k].toNat : Int) != 46) = false := by rw [h46]; rfl
          have Hs := Lib.hid (hs.trans (show satStep S _ = S by rw [h46]; rfl))
          clear hs hb hg h46
          go_wp2_with fail
          go_round
          case rel => exact ⟨k + 1, by omega, by go_num, by rw [Hs.out]⟩
          case measure => simp [intOf]; omega
        · have h46i : (((⟨t.toArray⟩ : ByteArray)[k].toNat : Int) != 46) = true := by
            rw [bne_iff_ne]
            intro e
            exact h46 (UInt8.toNat_inj.1 (by rw [show (46 : UInt8).toNat = 46 from rfl]; omega))
          have hd := isDig_iff.1 (hb.resolve_left h46)
          have g1 : (48 : Int) ≤ ((⟨t.toArray⟩ : ByteArray)[k].toNat : Int) := by omega
          have g2 : ((⟨t.toArray⟩ : ByteArray)[k].toNat : Int) ≤ 57 := by omega
          have Hs := Lib.hid (hs.trans (show satStep S _ = min (10 * S + (((⟨t.toArray⟩ : ByteArray)[k].toNat : Int) - 48)) 1000000000001 by unfold satStep; rw [show ((⟨t.toArray⟩ : ByteArray)[k] == 46) = false from by simpa using h46]; rfl))
          clear hs hb hg h46 hd
          go_wp2_with fail
          go_round
          case rel => exact ⟨k + 1, by omega, by go_num, by rw [Hs.out]⟩
          case measure => simp [intOf]; omega
      · have hT2 : t.take k = t := List.take_of_length_le (by omega)
        have HT2 := Lib.hid hT2
        clear hT2
        go_wp2_with fail
        refine (refChecked_any _ _).mono ?_
        rintro e w' ⟨rfl, rfl⟩
        go_wp2_with fail
        go_ret2
        exact ⟨pair_int (by rw [HT2.out, ← HT.out]; simp [satVal]) (by rw [HT2.out, ← HT.out]; simp [satVal]), by first | exact ⟨_, rfl⟩ | exact ⟨0, rfl⟩⟩
  · have HMD := Lib.hid hmD
    clear hmD
    by_cases hpos : 0 < l.length
    · have hposi : (0 : Int) < (l.length : Int) := by omega
      have hsz0 : 0 < (⟨l.toArray⟩ : ByteArray).size := by rw [mk_size]; exact hpos
      have h0i : (((⟨l.toArray⟩ : ByteArray)[0].toNat : Int) == 45) = false := by
        rw [mk_getD l 0 hsz0, beq_eq_false_iff_ne]
        intro e
        rw [Go.Proofs.YtaibaooebplehaaDoor.hasPrefix_one] at hpre
        cases l with
        | nil => simp at hpos
        | cons b r =>
          have hb : b = 45 := UInt8.toNat_inj.1 (by rw [show (45 : UInt8).toNat = 45 from rfl]; simp only [List.getD_cons_zero] at e; omega)
          rw [hb] at hpre
          simp at hpre
      cases hfm : (formB (l))
      · have hok : mOk l = false := by rw [← form_ok, ← HMD.out, hfm]; rfl
        have e1 : pz1 l = 0 := by unfold pz1; rw [hok]; rfl
        have e2 : pz2 l = 3 := by unfold pz2; rw [hok]; rfl
        rw [e1, e2]
        clear e1 e2 hok
        go_enter Tryd.func25, Tryd.ntmps25
        go_wp2_with fail
        refine (form_any _ _ (by omega)).mono ?_
        rintro e w' ⟨rfl, rfl⟩
        go_wp2_with fail
        go_ret2
        exact ⟨rfl, by first | exact ⟨_, rfl⟩ | exact ⟨0, rfl⟩⟩
      cases hz : (l == [45, 48, 46, 48, 48])
      rotate_left
      · have hok : mOk l = false := by rw [← form_ok, hz]; simp
        have e1 : pz1 l = 0 := by unfold pz1; rw [hok]; rfl
        have e2 : pz2 l = 3 := by unfold pz2; rw [hok]; rfl
        rw [e1, e2]
        clear e1 e2 hok
        go_enter Tryd.func25, Tryd.ntmps25
        go_wp2_with fail
        refine (form_any _ _ (by omega)).mono ?_
        rintro e w' ⟨rfl, rfl⟩
        go_wp2_with fail
        go_ret2
        exact ⟨rfl, by first | exact ⟨_, rfl⟩ | exact ⟨0, rfl⟩⟩
      have hok : mOk l = true := by rw [← form_ok, ← HMD.out, hfm, hz]; rfl
      by_cases h30 : 30 < l.length
      · have e1 : pz1 l = 0 := by unfold pz1 mLong; rw [hok, decide_eq_true h30]; rfl
        have e2 : pz2 l = 2 := by unfold pz2 mLong; rw [hok, decide_eq_true h30]; rfl
        rw [e1, e2]
        have h30i : (30 : Int) < (l.length : Int) := by omega
        clear e1 e2 hok
        go_enter Tryd.func25, Tryd.ntmps25
        go_wp2_with fail
        refine (form_any _ _ (by omega)).mono ?_
        rintro e w' ⟨rfl, rfl⟩
        go_wp2_with fail
        go_ret2
        exact ⟨rfl, by first | exact ⟨_, rfl⟩ | exact ⟨0, rfl⟩⟩
      have h30i : decide ((30 : Int) < (l.length : Int)) = false := by rw [decide_eq_false_iff_not]; omega
      have R := ref_parse l hok h30
      rw [hpre, ← HMD.out] at R
      simp only [Bool.false_eq_true, if_false] at R
      rw [R.1, R.2]
      have hat := form_bytes hfm
      clear R hok h30
      go_enter Tryd.func25, Tryd.ntmps25
      go_wp2_with fail
      refine (form_any _ _ (by omega)).mono ?_
      rintro e w' ⟨rfl, rfl⟩
      go_wp2_with fail
      have HA := Lib.hid hat
      clear hat
      go_loop [6, 7] (fun n i => ∃ k : Nat, k ≤ l.length ∧ i = .int .i64 k ∧ n = .int .i64 ((l.take k).foldl satStep 0)) (fun _ i => l.length - (intOf i).toNat)
      case atStart => exact ⟨0, Nat.zero_le _, rfl, rfl⟩
      case round =>
        obtain ⟨k, hk, rfl, rfl⟩ := hrel
        have hbd := sat_bd HA.out k hk
        by_cases hlt : k < l.length
        · have hszk : k < (⟨l.toArray⟩ : ByteArray).size := by rw [mk_size]; exact hlt
          have hg := mk_getD l k hszk
          have hs := sat_succ hlt
          rw [← hg] at hs
          have hb := HA.out k hlt
          rw [← hg] at hb
          generalize (l.take k).foldl satStep 0 = S at *
          by_cases h46 : (⟨l.toArray⟩ : ByteArray)[k] = 46
          · have h46i : (((⟨l.toArray⟩ : ByteArray)[k].toNat : Int) != 46) = false := by rw [h46]; rfl
            have Hs := Lib.hid (hs.trans (show satStep S _ = S by rw [h46]; rfl))
            clear hs hb hg h46
            go_wp2_with fail
            go_round
            case rel => exact ⟨k + 1, by omega, by go_num, by rw [Hs.out]⟩
            case measure => simp [intOf]; omega
          · have h46i : (((⟨l.toArray⟩ : ByteArray)[k].toNat : Int) != 46) = true := by
              rw [bne_iff_ne]
              intro e
              exact h46 (UInt8.toNat_inj.1 (by rw [show (46 : UInt8).toNat = 46 from rfl]; omega))
            have hd := isDig_iff.1 (hb.resolve_left h46)
            have g1 : (48 : Int) ≤ ((⟨l.toArray⟩ : ByteArray)[k].toNat : Int) := by omega
            have g2 : ((⟨l.toArray⟩ : ByteArray)[k].toNat : Int) ≤ 57 := by omega
            have Hs := Lib.hid (hs.trans (show satStep S _ = min (10 * S + (((⟨l.toArray⟩ : ByteArray)[k].toNat : Int) - 48)) 1000000000001 by unfold satStep; rw [show ((⟨l.toArray⟩ : ByteArray)[k] == 46) = false from by simpa using h46]; rfl))
            clear hs hb hg h46 hd
            go_wp2_with fail
            go_round
            case rel => exact ⟨k + 1, by omega, by go_num, by rw [Hs.out]⟩
            case measure => simp [intOf]; omega
        · have hT2 : l.take k = l := List.take_of_length_le (by omega)
          have HT2 := Lib.hid hT2
          clear hT2
          go_wp2_with fail
          refine (refChecked_any _ _).mono ?_
          rintro e w' ⟨rfl, rfl⟩
          go_wp2_with fail
          go_ret2
          exact ⟨pair_int (by rw [HT2.out]; simp [satVal]) (by rw [HT2.out]; simp [satVal]), by first | exact ⟨_, rfl⟩ | exact ⟨0, rfl⟩⟩
    · have hposi : decide ((0 : Int) < (l.length : Int)) = false := by rw [decide_eq_false_iff_not]; omega
      cases hfm : (formB (l))
      · have hok : mOk l = false := by rw [← form_ok, ← HMD.out, hfm]; rfl
        have e1 : pz1 l = 0 := by unfold pz1; rw [hok]; rfl
        have e2 : pz2 l = 3 := by unfold pz2; rw [hok]; rfl
        rw [e1, e2]
        clear e1 e2 hok
        go_enter Tryd.func25, Tryd.ntmps25
        go_wp2_with fail
        refine (form_any _ _ (by omega)).mono ?_
        rintro e w' ⟨rfl, rfl⟩
        go_wp2_with fail
        go_ret2
        exact ⟨rfl, by first | exact ⟨_, rfl⟩ | exact ⟨0, rfl⟩⟩
      cases hz : (l == [45, 48, 46, 48, 48])
      rotate_left
      · have hok : mOk l = false := by rw [← form_ok, hz]; simp
        have e1 : pz1 l = 0 := by unfold pz1; rw [hok]; rfl
        have e2 : pz2 l = 3 := by unfold pz2; rw [hok]; rfl
        rw [e1, e2]
        clear e1 e2 hok
        go_enter Tryd.func25, Tryd.ntmps25
        go_wp2_with fail
        refine (form_any _ _ (by omega)).mono ?_
        rintro e w' ⟨rfl, rfl⟩
        go_wp2_with fail
        go_ret2
        exact ⟨rfl, by first | exact ⟨_, rfl⟩ | exact ⟨0, rfl⟩⟩
      have hok : mOk l = true := by rw [← form_ok, ← HMD.out, hfm, hz]; rfl
      by_cases h30 : 30 < l.length
      · have e1 : pz1 l = 0 := by unfold pz1 mLong; rw [hok, decide_eq_true h30]; rfl
        have e2 : pz2 l = 2 := by unfold pz2 mLong; rw [hok, decide_eq_true h30]; rfl
        rw [e1, e2]
        have h30i : (30 : Int) < (l.length : Int) := by omega
        clear e1 e2 hok
        go_enter Tryd.func25, Tryd.ntmps25
        go_wp2_with fail
        refine (form_any _ _ (by omega)).mono ?_
        rintro e w' ⟨rfl, rfl⟩
        go_wp2_with fail
        go_ret2
        exact ⟨rfl, by first | exact ⟨_, rfl⟩ | exact ⟨0, rfl⟩⟩
      have h30i : decide ((30 : Int) < (l.length : Int)) = false := by rw [decide_eq_false_iff_not]; omega
      have R := ref_parse l hok h30
      rw [hpre, ← HMD.out] at R
      simp only [Bool.false_eq_true, if_false] at R
      rw [R.1, R.2]
      have hat := form_bytes hfm
      clear R hok h30
      go_enter Tryd.func25, Tryd.ntmps25
      go_wp2_with fail
      refine (form_any _ _ (by omega)).mono ?_
      rintro e w' ⟨rfl, rfl⟩
      go_wp2_with fail
      have HA := Lib.hid hat
      clear hat
      go_loop [6, 7] (fun n i => ∃ k : Nat, k ≤ l.length ∧ i = .int .i64 k ∧ n = .int .i64 ((l.take k).foldl satStep 0)) (fun _ i => l.length - (intOf i).toNat)
      case atStart => exact ⟨0, Nat.zero_le _, rfl, rfl⟩
      case round =>
        obtain ⟨k, hk, rfl, rfl⟩ := hrel
        have hbd := sat_bd HA.out k hk
        by_cases hlt : k < l.length
        · have hszk : k < (⟨l.toArray⟩ : ByteArray).size := by rw [mk_size]; exact hlt
          have hg := mk_getD l k hszk
          have hs := sat_succ hlt
          rw [← hg] at hs
          have hb := HA.out k hlt
          rw [← hg] at hb
          generalize (l.take k).foldl satStep 0 = S at *
          by_cases h46 : (⟨l.toArray⟩ : ByteArray)[k] = 46
          · have h46i : (((⟨l.toArray⟩ : ByteArray)[k].toNat : Int) != 46) = false := by rw [h46]; rfl
            have Hs := Lib.hid (hs.trans (show satStep S _ = S by rw [h46]; rfl))
            clear hs hb hg h46
            go_wp2_with fail
            go_round
            case rel => exact ⟨k + 1, by omega, by go_num, by rw [Hs.out]⟩
            case measure => simp [intOf]; omega
          · have h46i : (((⟨l.toArray⟩ : ByteArray)[k].toNat : Int) != 46) = true := by
              rw [bne_iff_ne]
              intro e
              exact h46 (UInt8.toNat_inj.1 (by rw [show (46 : UInt8).toNat = 46 from rfl]; omega))
            have hd := isDig_iff.1 (hb.resolve_left h46)
            have g1 : (48 : Int) ≤ ((⟨l.toArray⟩ : ByteArray)[k].toNat : Int) := by omega
            have g2 : ((⟨l.toArray⟩ : ByteArray)[k].toNat : Int) ≤ 57 := by omega
            have Hs := Lib.hid (hs.trans (show satStep S _ = min (10 * S + (((⟨l.toArray⟩ : ByteArray)[k].toNat : Int) - 48)) 1000000000001 by unfold satStep; rw [show ((⟨l.toArray⟩ : ByteArray)[k] == 46) = false from by simpa using h46]; rfl))
            clear hs hb hg h46 hd
            go_wp2_with fail
            go_round
            case rel => exact ⟨k + 1, by omega, by go_num, by rw [Hs.out]⟩
            case measure => simp [intOf]; omega
        · have hT2 : l.take k = l := List.take_of_length_le (by omega)
          have HT2 := Lib.hid hT2
          clear hT2
          go_wp2_with fail
          refine (refChecked_any _ _).mono ?_
          rintro e w' ⟨rfl, rfl⟩
          go_wp2_with fail
          go_ret2
          exact ⟨pair_int (by rw [HT2.out]; simp [satVal]) (by rw [HT2.out]; simp [satVal]), by first | exact ⟨_, rfl⟩ | exact ⟨0, rfl⟩⟩
end Go.Proofs.YtaibaooebplehaaDoor
