/-
  The reference's Form.
-/
import Derived.Test.YtklpeibmjiolhaaDoorDecW18
import Derived.Test.YtklpeibmjiolhaaDoorDecPz4
import Derived.BigQuiet
namespace Go.Proofs.YtklpeibmjiolhaaDoor
open Go.RowKit
set_option linter.unusedVariables false
theorem results_tmp4 {fn : Func} {t u v x : Tmp} (h : fn.results = #[.tmp t, .tmp u, .tmp v, .tmp x]) (tmps : Array Value) (P : Program) (w : World) :
    (results fn tmps).run P w = .ok (.tuple #[tmps.getD t undef, tmps.getD u undef, tmps.getD v undef, tmps.getD x undef]) w := by
  simp [results, h]
def FormSays (l : List UInt8) (w : World) (e : Ending) (w' : World) : Prop :=
  ∃ (a : Bool) (b c : List UInt8), e = .returned (.tuple #[.bool a, .string ⟨b.toArray⟩, .string ⟨c.toArray⟩, .bool (fmB l)]) ∧ (fmB l = true → a = negB l ∧ b = whL l ∧ c = ptL l) ∧ Below w.heap.size w w'
theorem says_bad {l : List UInt8} {w w' : World} (h : fmB l = false) (hb : Below w.heap.size w w') : FormSays l w (.returned (.tuple #[.bool false, .string ⟨#[]⟩, .string ⟨#[]⟩, .bool false])) w' :=
  ⟨false, [], [], by rw [h], (fun e => by rw [h] at e; cases e), hb⟩
theorem says_good {l b c : List UInt8} {a d : Bool} {w w' : World} (h : fmB l = d) (ha : negB l = a) (hb' : whL l = b) (hc : ptL l = c) (hb : Below w.heap.size w w') : FormSays l w (.returned (.tuple #[.bool a, .string ⟨b.toArray⟩, .string ⟨c.toArray⟩, .bool d])) w' :=
  ⟨a, b, c, by rw [h], (fun _ => ⟨ha.symm, hb'.symm, hc.symm⟩), hb⟩
theorem zeros_step {l : List UInt8} {j : Nat} (h : j < l.length) : zerosB (l.take (j + 1)) = (zerosB (l.take j) && (l.getD j 0 == 48)) := by
  unfold zerosB
  rw [List.take_succ_eq_append_getElem h, List.all_append]
  simp [List.getD, h]
theorem byte48 (b : UInt8) : (((b.toNat : Nat) : Int) == 48) = (b == 48) := by
  rw [Bool.eq_iff_iff, beq_iff_eq, beq_iff_eq]
  constructor
  · intro h; exact UInt8.toNat_inj.1 (by rw [show (48 : UInt8).toNat = 48 from rfl]; omega)
  · intro h; rw [h]; rfl
theorem take_first {u : List UInt8} {k : Nat} (h : 0 < k) : (u.take k).getD 0 0 = u.getD 0 0 := by
  cases u with
  | nil => simp
  | cons a r =>
    obtain ⟨j, rfl⟩ : ∃ j, k = j + 1 := ⟨k - 1, by omega⟩
    rfl
set_option maxRecDepth 100000 in
set_option maxHeartbeats 8000000 in
theorem form_neg (u : List UInt8) (w : World) (hl : (45 :: u).length ≤ 60) :
    Calls Tryd.prog 45 #[.string ⟨(45 :: u).toArray⟩] w (FormSays (45 :: u) w) := by
  have hsz : 0 < (⟨(45 :: u).toArray⟩ : ByteArray).size := by rw [mk_size]; simp
  have t45 : (((⟨(45 :: u).toArray⟩ : ByteArray)[0].toNat : Int) == 45) = true := by rw [mk_getD]; rfl
  have hlen : (45 :: u).length = u.length + 1 := rfl
  have hex : ∀ n, n = u.length + 1 → (⟨(45 :: u).toArray⟩ : ByteArray).extract 1 n = ⟨u.toArray⟩ := by
    intro n hn
    rw [ex_mk, hn]
    congr 1
    simp
  have hu : unS (45 :: u) = u := by simp [unS, negB]
  have hn : negB (45 :: u) = true := by simp [negB]
  have hxs : (45 :: u : List UInt8) = 45 :: u := rfl
  generalize hx : (45 :: u : List UInt8) = x at *
  clear hx hxs
  have HU := Lib.hid hu
  have HN := Lib.hid hn
  clear hu hn
  have hul : u.length ≤ 60 := by omega
  go_enter Tryd.func45, Tryd.ntmps45
  go_wp2_with fail
  refine (refDig_any u _ (by omega)).mono ?_
  rintro e wx ⟨rfl, rfl⟩
  have hkl := runL_le isDig u
  generalize hk : runL isDig u = k at *
  have HK := Lib.hid hk
  clear hk
  have he1 : (⟨u.toArray⟩ : ByteArray).extract 0 k = ⟨(u.take k).toArray⟩ := by rw [ex_mk]; simp
  have he2 : ∀ n, n = u.length → (⟨u.toArray⟩ : ByteArray).extract k n = ⟨(u.drop k).toArray⟩ := by
    intro n hn
    rw [ex_mk, hn, List.take_length]
  have hki : (k : Int) ≤ (u.length : Int) := by omega
  go_wp2_with fail
  go_quiet (fail)
  have hB := Lib.hid (below_drewN (Below.refl w.heap.size w) nq)
  generalize w.drewN nq = wq at *
  clear hex t45 he1 he2 hsz
  by_cases k0 : k = 0
  · have F : Hid (fmB x = false) := by
      show _ = _
      apply fm_bad
      rw [HU.out, HK.out, k0]; rfl
    subst k0
    go_wp2_with fail
    (try simp only [Exit.inBlock, Exit.then])
    refine bodyPost_ret (results_tmp4 rfl _ _ _) rfl ?_
    exact says_bad F.out hB.out
  · have hkz : ((k : Int) == 0) = false := by rw [beq_eq_false_iff_ne]; omega
    have htl : (u.take k).length = k := by rw [List.length_take]; omega
    have hus : 0 < (⟨(u.take k).toArray⟩ : ByteArray).size := by rw [mk_size]; omega
    have t48 : (((⟨(u.take k).toArray⟩ : ByteArray)[0].toNat : Int) == 48) = (u.getD 0 0 == 48) := by
      rw [mk_getD, take_first (by omega)]; exact byte48 _
    by_cases k1 : 1 < k
    · have h1 : decide (1 < (k : Int)) = true := by rw [decide_eq_true_eq]; omega
      cases h48 : (u.getD 0 0 == 48)
      · have hgood : Hid ((decide (0 < k) && !(decide (1 < k) && (u.getD 0 0 == 48))) = true) := by
          show _ = _
          rw [h48, decide_eq_true (show 0 < k by omega), Bool.and_false]; rfl
        rw [h48] at t48
        clear h48
        cases hR : u.drop k with
        | nil =>
          obtain ⟨f1, f2, f3⟩ := fm_end (l := x) (by rw [HU.out, HK.out]; exact hR)
          rw [HU.out, HK.out] at f1 f3
          rw [hgood.out, HN.out] at f3
          have F1 := Lib.hid f1
          have F2 := Lib.hid f2
          have F3 := Lib.hid f3
          clear f1 f2 f3 hR hgood
          generalize u.take k = W at *
          go_wp2_with fail
          have hcat : (⟨W.toArray⟩ ++ ⟨#[]⟩ : ByteArray) = ⟨(W ++ []).toArray⟩ := cat_mk W []
          have hLl : (W ++ []).length ≤ 120 := by rw [List.length_append]; first | omega | (simp; omega)
          generalize W ++ [] = L at *
          go_loop [11, 12] (fun z i => ∃ j : Nat, j ≤ L.length ∧ i = .int .i64 j ∧ z = .bool (zerosB (L.take j))) (fun _ i => L.length - (intOf i).toNat)
          case atStart => exact ⟨0, Nat.zero_le _, rfl, rfl⟩
          case round =>
            obtain ⟨j, hj, rfl, rfl⟩ := hrel
            by_cases hlt : j < L.length
            · have hli : decide ((j : Int) < (L.length : Int)) = true := by rw [decide_eq_true_eq]; omega
              have hsz : j < (⟨L.toArray⟩ : ByteArray).size := by rw [mk_size]; exact hlt
              have hg : (((⟨L.toArray⟩ : ByteArray)[j].toNat : Int) == 48) = (L.getD j 0 == 48) := by rw [mk_getD]; exact byte48 _
              have hst := zeros_step hlt
              cases hz : zerosB (L.take j)
              · have F : Hid (zerosB (L.take (j + 1)) = false) := by
                  show _ = _
                  rw [hst, hz]; rfl
                clear hst hz hg
                go_wp2_with fail
                go_round
                case rel => exact ⟨j + 1, by omega, by go_num, by rw [F.out]⟩
                case measure => simp [intOf]; omega
              · have F : Hid (zerosB (L.take (j + 1)) = (L.getD j 0 == 48)) := by
                  show _ = _
                  rw [hst, hz]; rfl
                generalize (L.getD j 0 == 48) = b at *
                clear hst hz
                go_wp2_with fail
                go_round
                case rel => exact ⟨j + 1, by omega, by go_num, by rw [F.out]⟩
                case measure => simp [intOf]; omega
            · have hli : decide ((j : Int) < (L.length : Int)) = false := by rw [decide_eq_false_iff_not]; omega
              rw [List.take_of_length_le (show L.length ≤ j by omega)]
              have FF := Lib.hid F3.out
              clear F3
              generalize zerosB L = zb at *
              cases zb
              · go_wp2_with fail
                (try simp only [Exit.inBlock, Exit.then])
                refine bodyPost_ret (results_tmp4 rfl _ _ _) rfl ?_
                exact says_good FF.out HN.out F1.out F2.out hB.out
              · go_wp2_with fail
                (try simp only [Exit.inBlock, Exit.then])
                refine bodyPost_ret (results_tmp4 rfl _ _ _) rfl ?_
                exact says_good FF.out HN.out F1.out F2.out hB.out
        | cons c p =>
          by_cases hc : c = 46
          · subst hc
            obtain ⟨f1, f2, f3⟩ := fm_point (l := x) (p := p) (by rw [HU.out, HK.out]; exact hR)
            rw [HU.out, HK.out] at f1 f3
            rw [hgood.out, HN.out, Bool.true_and, num_run] at f3
            have hpl : p.length ≤ 60 := by
              have := congrArg List.length hR
              rw [List.length_drop] at this
              simp at this
              omega
            have F1 := Lib.hid f1
            have F2 := Lib.hid f2
            have F3 := Lib.hid f3
            have r0 : 0 < (⟨(46 :: p).toArray⟩ : ByteArray).size := by rw [mk_size]; simp
            have r46 : (((⟨(46 :: p).toArray⟩ : ByteArray)[0].toNat : Int) != 46) = false := by
              rw [mk_getD]; rfl
            have rex : ∀ n, n = p.length + 1 → (⟨(46 :: p).toArray⟩ : ByteArray).extract 1 n = ⟨p.toArray⟩ := by
              intro n hn
              rw [ex_mk, hn]
              congr 1
              simp
            have rlen : (46 :: p).length = p.length + 1 := rfl
            clear f1 f2 f3 hgood
            generalize u.take k = W at *
            generalize 46 :: p = R at *
            clear hR
            cases hp : (p == [])
            · cases hq : (runL isDig p == p.length)
              · have F : Hid (fmB x = false) := by
                  show _ = _
                  rw [F3.out, hq, Bool.and_false]; rfl
                have hqi : ((runL isDig p : Int) != (p.length : Int)) = true := by
                  rw [beq_eq_false_iff_ne] at hq
                  rw [bne_iff_ne]; omega
                clear hq F3
                go_wp2_with fail
                refine (refDig_any p _ hpl).mono ?_
                rintro e wx ⟨rfl, rfl⟩
                generalize runL isDig p = kp at *
                go_wp2_with fail
                (try simp only [Exit.inBlock, Exit.then])
                refine bodyPost_ret (results_tmp4 rfl _ _ _) rfl ?_
                exact says_bad F.out hB.out
              · have F3' : Hid (fmB x = !(true && zerosB (W ++ p))) := by
                  show _ = _
                  rw [F3.out, hq, hp]; rfl
                have hqi : (runL isDig p : Int) = (p.length : Int) := by
                  rw [beq_iff_eq] at hq
                  omega
                have HQ := Lib.hid hqi
                clear hq hqi F3
                go_wp2_with fail
                refine (refDig_any p _ hpl).mono ?_
                rintro e wx ⟨rfl, rfl⟩
                rw [HQ.out]
                go_wp2_with fail
                have hcat : (⟨W.toArray⟩ ++ ⟨p.toArray⟩ : ByteArray) = ⟨(W ++ p).toArray⟩ := cat_mk W p
                have hLl : (W ++ p).length ≤ 120 := by rw [List.length_append]; first | omega | (simp; omega)
                generalize W ++ p = L at *
                go_loop [11, 12] (fun z i => ∃ j : Nat, j ≤ L.length ∧ i = .int .i64 j ∧ z = .bool (zerosB (L.take j))) (fun _ i => L.length - (intOf i).toNat)
                case atStart => exact ⟨0, Nat.zero_le _, rfl, rfl⟩
                case round =>
                  obtain ⟨j, hj, rfl, rfl⟩ := hrel
                  by_cases hlt : j < L.length
                  · have hli : decide ((j : Int) < (L.length : Int)) = true := by rw [decide_eq_true_eq]; omega
                    have hsz : j < (⟨L.toArray⟩ : ByteArray).size := by rw [mk_size]; exact hlt
                    have hg : (((⟨L.toArray⟩ : ByteArray)[j].toNat : Int) == 48) = (L.getD j 0 == 48) := by rw [mk_getD]; exact byte48 _
                    have hst := zeros_step hlt
                    cases hz : zerosB (L.take j)
                    · have F : Hid (zerosB (L.take (j + 1)) = false) := by
                        show _ = _
                        rw [hst, hz]; rfl
                      clear hst hz hg
                      go_wp2_with fail
                      go_round
                      case rel => exact ⟨j + 1, by omega, by go_num, by rw [F.out]⟩
                      case measure => simp [intOf]; omega
                    · have F : Hid (zerosB (L.take (j + 1)) = (L.getD j 0 == 48)) := by
                        show _ = _
                        rw [hst, hz]; rfl
                      generalize (L.getD j 0 == 48) = b at *
                      clear hst hz
                      go_wp2_with fail
                      go_round
                      case rel => exact ⟨j + 1, by omega, by go_num, by rw [F.out]⟩
                      case measure => simp [intOf]; omega
                  · have hli : decide ((j : Int) < (L.length : Int)) = false := by rw [decide_eq_false_iff_not]; omega
                    rw [List.take_of_length_le (show L.length ≤ j by omega)]
                    have FF := Lib.hid F3'.out
                    clear F3'
                    generalize zerosB L = zb at *
                    cases zb
                    · go_wp2_with fail
                      (try simp only [Exit.inBlock, Exit.then])
                      refine bodyPost_ret (results_tmp4 rfl _ _ _) rfl ?_
                      exact says_good FF.out HN.out F1.out F2.out hB.out
                    · go_wp2_with fail
                      (try simp only [Exit.inBlock, Exit.then])
                      refine bodyPost_ret (results_tmp4 rfl _ _ _) rfl ?_
                      exact says_good FF.out HN.out F1.out F2.out hB.out
            · have F : Hid (fmB x = false) := by
                show _ = _
                rw [F3.out, hp]; rfl
              obtain rfl : p = [] := by simpa using hp
              clear F3 hp
              go_wp2_with fail
              (try simp only [Exit.inBlock, Exit.then])
              refine bodyPost_ret (results_tmp4 rfl _ _ _) rfl ?_
              exact says_bad F.out hB.out
          · have F : Hid (fmB x = false) := by
              show _ = _
              exact fm_other (by rw [HU.out, HK.out]; exact hR) hc
            have r0 : 0 < (⟨(c :: p).toArray⟩ : ByteArray).size := by rw [mk_size]; simp
            have r46 : (((⟨(c :: p).toArray⟩ : ByteArray)[0].toNat : Int) != 46) = true := by
              rw [mk_getD, bne_iff_ne]
              intro h
              exact hc (UInt8.toNat_inj.1 (by rw [show (46 : UInt8).toNat = 46 from rfl]; exact Int.ofNat_inj.1 h))
            have rex : ∀ n, n = p.length + 1 → (⟨(c :: p).toArray⟩ : ByteArray).extract 1 n = ⟨p.toArray⟩ := by
              intro n hn
              rw [ex_mk, hn]
              congr 1
              simp
            have rlen : (c :: p).length = p.length + 1 := rfl
            generalize u.take k = W at *
            generalize c :: p = R at *
            clear hR hgood
            go_wp2_with fail
            (try simp only [Exit.inBlock, Exit.then])
            refine bodyPost_ret (results_tmp4 rfl _ _ _) rfl ?_
            exact says_bad F.out hB.out
      · have F : Hid (fmB x = false) := by
          show _ = _
          apply fm_bad
          rw [HU.out, HK.out, h48, decide_eq_true k1]; simp
        rw [h48] at t48
        clear h48
        generalize u.take k = W at *
        generalize u.drop k = R at *
        go_wp2_with fail
        (try simp only [Exit.inBlock, Exit.then])
        refine bodyPost_ret (results_tmp4 rfl _ _ _) rfl ?_
        exact says_bad F.out hB.out
    · have h1 : decide (1 < (k : Int)) = false := by rw [decide_eq_false_iff_not]; omega
      have hgood : Hid ((decide (0 < k) && !(decide (1 < k) && (u.getD 0 0 == 48))) = true) := by
        show _ = _
        rw [decide_eq_true (show 0 < k by omega), decide_eq_false k1]; rfl
      clear t48
      cases hR : u.drop k with
      | nil =>
        obtain ⟨f1, f2, f3⟩ := fm_end (l := x) (by rw [HU.out, HK.out]; exact hR)
        rw [HU.out, HK.out] at f1 f3
        rw [hgood.out, HN.out] at f3
        have F1 := Lib.hid f1
        have F2 := Lib.hid f2
        have F3 := Lib.hid f3
        clear f1 f2 f3 hR hgood
        generalize u.take k = W at *
        go_wp2_with fail
        have hcat : (⟨W.toArray⟩ ++ ⟨#[]⟩ : ByteArray) = ⟨(W ++ []).toArray⟩ := cat_mk W []
        have hLl : (W ++ []).length ≤ 120 := by rw [List.length_append]; first | omega | (simp; omega)
        generalize W ++ [] = L at *
        go_loop [11, 12] (fun z i => ∃ j : Nat, j ≤ L.length ∧ i = .int .i64 j ∧ z = .bool (zerosB (L.take j))) (fun _ i => L.length - (intOf i).toNat)
        case atStart => exact ⟨0, Nat.zero_le _, rfl, rfl⟩
        case round =>
          obtain ⟨j, hj, rfl, rfl⟩ := hrel
          by_cases hlt : j < L.length
          · have hli : decide ((j : Int) < (L.length : Int)) = true := by rw [decide_eq_true_eq]; omega
            have hsz : j < (⟨L.toArray⟩ : ByteArray).size := by rw [mk_size]; exact hlt
            have hg : (((⟨L.toArray⟩ : ByteArray)[j].toNat : Int) == 48) = (L.getD j 0 == 48) := by rw [mk_getD]; exact byte48 _
            have hst := zeros_step hlt
            cases hz : zerosB (L.take j)
            · have F : Hid (zerosB (L.take (j + 1)) = false) := by
                show _ = _
                rw [hst, hz]; rfl
              clear hst hz hg
              go_wp2_with fail
              go_round
              case rel => exact ⟨j + 1, by omega, by go_num, by rw [F.out]⟩
              case measure => simp [intOf]; omega
            · have F : Hid (zerosB (L.take (j + 1)) = (L.getD j 0 == 48)) := by
                show _ = _
                rw [hst, hz]; rfl
              generalize (L.getD j 0 == 48) = b at *
              clear hst hz
              go_wp2_with fail
              go_round
              case rel => exact ⟨j + 1, by omega, by go_num, by rw [F.out]⟩
              case measure => simp [intOf]; omega
          · have hli : decide ((j : Int) < (L.length : Int)) = false := by rw [decide_eq_false_iff_not]; omega
            rw [List.take_of_length_le (show L.length ≤ j by omega)]
            have FF := Lib.hid F3.out
            clear F3
            generalize zerosB L = zb at *
            cases zb
            · go_wp2_with fail
              (try simp only [Exit.inBlock, Exit.then])
              refine bodyPost_ret (results_tmp4 rfl _ _ _) rfl ?_
              exact says_good FF.out HN.out F1.out F2.out hB.out
            · go_wp2_with fail
              (try simp only [Exit.inBlock, Exit.then])
              refine bodyPost_ret (results_tmp4 rfl _ _ _) rfl ?_
              exact says_good FF.out HN.out F1.out F2.out hB.out
      | cons c p =>
        by_cases hc : c = 46
        · subst hc
          obtain ⟨f1, f2, f3⟩ := fm_point (l := x) (p := p) (by rw [HU.out, HK.out]; exact hR)
          rw [HU.out, HK.out] at f1 f3
          rw [hgood.out, HN.out, Bool.true_and, num_run] at f3
          have hpl : p.length ≤ 60 := by
            have := congrArg List.length hR
            rw [List.length_drop] at this
            simp at this
            omega
          have F1 := Lib.hid f1
          have F2 := Lib.hid f2
          have F3 := Lib.hid f3
          have r0 : 0 < (⟨(46 :: p).toArray⟩ : ByteArray).size := by rw [mk_size]; simp
          have r46 : (((⟨(46 :: p).toArray⟩ : ByteArray)[0].toNat : Int) != 46) = false := by
            rw [mk_getD]; rfl
          have rex : ∀ n, n = p.length + 1 → (⟨(46 :: p).toArray⟩ : ByteArray).extract 1 n = ⟨p.toArray⟩ := by
            intro n hn
            rw [ex_mk, hn]
            congr 1
            simp
          have rlen : (46 :: p).length = p.length + 1 := rfl
          clear f1 f2 f3 hgood
          generalize u.take k = W at *
          generalize 46 :: p = R at *
          clear hR
          cases hp : (p == [])
          · cases hq : (runL isDig p == p.length)
            · have F : Hid (fmB x = false) := by
                show _ = _
                rw [F3.out, hq, Bool.and_false]; rfl
              have hqi : ((runL isDig p : Int) != (p.length : Int)) = true := by
                rw [beq_eq_false_iff_ne] at hq
                rw [bne_iff_ne]; omega
              clear hq F3
              go_wp2_with fail
              refine (refDig_any p _ hpl).mono ?_
              rintro e wx ⟨rfl, rfl⟩
              generalize runL isDig p = kp at *
              go_wp2_with fail
              (try simp only [Exit.inBlock, Exit.then])
              refine bodyPost_ret (results_tmp4 rfl _ _ _) rfl ?_
              exact says_bad F.out hB.out
            · have F3' : Hid (fmB x = !(true && zerosB (W ++ p))) := by
                show _ = _
                rw [F3.out, hq, hp]; rfl
              have hqi : (runL isDig p : Int) = (p.length : Int) := by
                rw [beq_iff_eq] at hq
                omega
              have HQ := Lib.hid hqi
              clear hq hqi F3
              go_wp2_with fail
              refine (refDig_any p _ hpl).mono ?_
              rintro e wx ⟨rfl, rfl⟩
              rw [HQ.out]
              go_wp2_with fail
              have hcat : (⟨W.toArray⟩ ++ ⟨p.toArray⟩ : ByteArray) = ⟨(W ++ p).toArray⟩ := cat_mk W p
              have hLl : (W ++ p).length ≤ 120 := by rw [List.length_append]; first | omega | (simp; omega)
              generalize W ++ p = L at *
              go_loop [11, 12] (fun z i => ∃ j : Nat, j ≤ L.length ∧ i = .int .i64 j ∧ z = .bool (zerosB (L.take j))) (fun _ i => L.length - (intOf i).toNat)
              case atStart => exact ⟨0, Nat.zero_le _, rfl, rfl⟩
              case round =>
                obtain ⟨j, hj, rfl, rfl⟩ := hrel
                by_cases hlt : j < L.length
                · have hli : decide ((j : Int) < (L.length : Int)) = true := by rw [decide_eq_true_eq]; omega
                  have hsz : j < (⟨L.toArray⟩ : ByteArray).size := by rw [mk_size]; exact hlt
                  have hg : (((⟨L.toArray⟩ : ByteArray)[j].toNat : Int) == 48) = (L.getD j 0 == 48) := by rw [mk_getD]; exact byte48 _
                  have hst := zeros_step hlt
                  cases hz : zerosB (L.take j)
                  · have F : Hid (zerosB (L.take (j + 1)) = false) := by
                      show _ = _
                      rw [hst, hz]; rfl
                    clear hst hz hg
                    go_wp2_with fail
                    go_round
                    case rel => exact ⟨j + 1, by omega, by go_num, by rw [F.out]⟩
                    case measure => simp [intOf]; omega
                  · have F : Hid (zerosB (L.take (j + 1)) = (L.getD j 0 == 48)) := by
                      show _ = _
                      rw [hst, hz]; rfl
                    generalize (L.getD j 0 == 48) = b at *
                    clear hst hz
                    go_wp2_with fail
                    go_round
                    case rel => exact ⟨j + 1, by omega, by go_num, by rw [F.out]⟩
                    case measure => simp [intOf]; omega
                · have hli : decide ((j : Int) < (L.length : Int)) = false := by rw [decide_eq_false_iff_not]; omega
                  rw [List.take_of_length_le (show L.length ≤ j by omega)]
                  have FF := Lib.hid F3'.out
                  clear F3'
                  generalize zerosB L = zb at *
                  cases zb
                  · go_wp2_with fail
                    (try simp only [Exit.inBlock, Exit.then])
                    refine bodyPost_ret (results_tmp4 rfl _ _ _) rfl ?_
                    exact says_good FF.out HN.out F1.out F2.out hB.out
                  · go_wp2_with fail
                    (try simp only [Exit.inBlock, Exit.then])
                    refine bodyPost_ret (results_tmp4 rfl _ _ _) rfl ?_
                    exact says_good FF.out HN.out F1.out F2.out hB.out
          · have F : Hid (fmB x = false) := by
              show _ = _
              rw [F3.out, hp]; rfl
            obtain rfl : p = [] := by simpa using hp
            clear F3 hp
            go_wp2_with fail
            (try simp only [Exit.inBlock, Exit.then])
            refine bodyPost_ret (results_tmp4 rfl _ _ _) rfl ?_
            exact says_bad F.out hB.out
        · have F : Hid (fmB x = false) := by
            show _ = _
            exact fm_other (by rw [HU.out, HK.out]; exact hR) hc
          have r0 : 0 < (⟨(c :: p).toArray⟩ : ByteArray).size := by rw [mk_size]; simp
          have r46 : (((⟨(c :: p).toArray⟩ : ByteArray)[0].toNat : Int) != 46) = true := by
            rw [mk_getD, bne_iff_ne]
            intro h
            exact hc (UInt8.toNat_inj.1 (by rw [show (46 : UInt8).toNat = 46 from rfl]; exact Int.ofNat_inj.1 h))
          have rex : ∀ n, n = p.length + 1 → (⟨(c :: p).toArray⟩ : ByteArray).extract 1 n = ⟨p.toArray⟩ := by
            intro n hn
            rw [ex_mk, hn]
            congr 1
            simp
          have rlen : (c :: p).length = p.length + 1 := rfl
          generalize u.take k = W at *
          generalize c :: p = R at *
          clear hR hgood
          go_wp2_with fail
          (try simp only [Exit.inBlock, Exit.then])
          refine bodyPost_ret (results_tmp4 rfl _ _ _) rfl ?_
          exact says_bad F.out hB.out
set_option maxRecDepth 100000 in
set_option maxHeartbeats 8000000 in
theorem form_pos (u : List UInt8) (w : World) (hul : u.length ≤ 60) (h0 : 0 < u.length) (hne : u.getD 0 0 ≠ 45) :
    Calls Tryd.prog 45 #[.string ⟨u.toArray⟩] w (FormSays u w) := by
  have hsz : 0 < (⟨u.toArray⟩ : ByteArray).size := by rw [mk_size]; exact h0
  have t45 : (((⟨u.toArray⟩ : ByteArray)[0].toNat : Int) == 45) = false := by
    rw [mk_getD, beq_eq_false_iff_ne]
    intro h
    exact hne (UInt8.toNat_inj.1 (by rw [show (45 : UInt8).toNat = 45 from rfl]; omega))
  have hn : negB u = false := by
    unfold negB
    cases u with
    | nil => rfl
    | cons a r => simpa using hne
  have hu : unS u = u := by unfold unS; rw [hn]; rfl
  have HU := Lib.hid hu
  have HN := Lib.hid hn
  have hex := True.intro
  clear hu hn hne
  go_enter Tryd.func45, Tryd.ntmps45
  go_wp2_with fail
  refine (refDig_any u _ (by omega)).mono ?_
  rintro e wx ⟨rfl, rfl⟩
  have hkl := runL_le isDig u
  generalize hk : runL isDig u = k at *
  have HK := Lib.hid hk
  clear hk
  have he1 : (⟨u.toArray⟩ : ByteArray).extract 0 k = ⟨(u.take k).toArray⟩ := by rw [ex_mk]; simp
  have he2 : ∀ n, n = u.length → (⟨u.toArray⟩ : ByteArray).extract k n = ⟨(u.drop k).toArray⟩ := by
    intro n hn
    rw [ex_mk, hn, List.take_length]
  have hki : (k : Int) ≤ (u.length : Int) := by omega
  go_wp2_with fail
  go_quiet (fail)
  have hB := Lib.hid (below_drewN (Below.refl w.heap.size w) nq)
  generalize w.drewN nq = wq at *
  clear hex t45 he1 he2 hsz
  by_cases k0 : k = 0
  · have F : Hid (fmB u = false) := by
      show _ = _
      apply fm_bad
      rw [HU.out, HK.out, k0]; rfl
    subst k0
    go_wp2_with fail
    (try simp only [Exit.inBlock, Exit.then])
    refine bodyPost_ret (results_tmp4 rfl _ _ _) rfl ?_
    exact says_bad F.out hB.out
  · have hkz : ((k : Int) == 0) = false := by rw [beq_eq_false_iff_ne]; omega
    have htl : (u.take k).length = k := by rw [List.length_take]; omega
    have hus : 0 < (⟨(u.take k).toArray⟩ : ByteArray).size := by rw [mk_size]; omega
    have t48 : (((⟨(u.take k).toArray⟩ : ByteArray)[0].toNat : Int) == 48) = (u.getD 0 0 == 48) := by
      rw [mk_getD, take_first (by omega)]; exact byte48 _
    by_cases k1 : 1 < k
    · have h1 : decide (1 < (k : Int)) = true := by rw [decide_eq_true_eq]; omega
      cases h48 : (u.getD 0 0 == 48)
      · have hgood : Hid ((decide (0 < k) && !(decide (1 < k) && (u.getD 0 0 == 48))) = true) := by
          show _ = _
          rw [h48, decide_eq_true (show 0 < k by omega), Bool.and_false]; rfl
        rw [h48] at t48
        clear h48
        cases hR : u.drop k with
        | nil =>
          obtain ⟨f1, f2, f3⟩ := fm_end (l := u) (by rw [HU.out, HK.out]; exact hR)
          rw [HU.out, HK.out] at f1 f3
          rw [hgood.out, HN.out] at f3
          have F1 := Lib.hid f1
          have F2 := Lib.hid f2
          have F3 := Lib.hid f3
          clear f1 f2 f3 hR hgood
          generalize u.take k = W at *
          go_wp2_with fail
          have hcat : (⟨W.toArray⟩ ++ ⟨#[]⟩ : ByteArray) = ⟨(W ++ []).toArray⟩ := cat_mk W []
          have hLl : (W ++ []).length ≤ 120 := by rw [List.length_append]; first | omega | (simp; omega)
          generalize W ++ [] = L at *
          go_loop [11, 12] (fun z i => ∃ j : Nat, j ≤ L.length ∧ i = .int .i64 j ∧ z = .bool (zerosB (L.take j))) (fun _ i => L.length - (intOf i).toNat)
          case atStart => exact ⟨0, Nat.zero_le _, rfl, rfl⟩
          case round =>
            obtain ⟨j, hj, rfl, rfl⟩ := hrel
            by_cases hlt : j < L.length
            · have hli : decide ((j : Int) < (L.length : Int)) = true := by rw [decide_eq_true_eq]; omega
              have hsz : j < (⟨L.toArray⟩ : ByteArray).size := by rw [mk_size]; exact hlt
              have hg : (((⟨L.toArray⟩ : ByteArray)[j].toNat : Int) == 48) = (L.getD j 0 == 48) := by rw [mk_getD]; exact byte48 _
              have hst := zeros_step hlt
              cases hz : zerosB (L.take j)
              · have F : Hid (zerosB (L.take (j + 1)) = false) := by
                  show _ = _
                  rw [hst, hz]; rfl
                clear hst hz hg
                go_wp2_with fail
                go_round
                case rel => exact ⟨j + 1, by omega, by go_num, by rw [F.out]⟩
                case measure => simp [intOf]; omega
              · have F : Hid (zerosB (L.take (j + 1)) = (L.getD j 0 == 48)) := by
                  show _ = _
                  rw [hst, hz]; rfl
                generalize (L.getD j 0 == 48) = b at *
                clear hst hz
                go_wp2_with fail
                go_round
                case rel => exact ⟨j + 1, by omega, by go_num, by rw [F.out]⟩
                case measure => simp [intOf]; omega
            · have hli : decide ((j : Int) < (L.length : Int)) = false := by rw [decide_eq_false_iff_not]; omega
              rw [List.take_of_length_le (show L.length ≤ j by omega)]
              have FF := Lib.hid F3.out
              clear F3
              generalize zerosB L = zb at *
              cases zb
              · go_wp2_with fail
                (try simp only [Exit.inBlock, Exit.then])
                refine bodyPost_ret (results_tmp4 rfl _ _ _) rfl ?_
                exact says_good FF.out HN.out F1.out F2.out hB.out
              · go_wp2_with fail
                (try simp only [Exit.inBlock, Exit.then])
                refine bodyPost_ret (results_tmp4 rfl _ _ _) rfl ?_
                exact says_good FF.out HN.out F1.out F2.out hB.out
        | cons c p =>
          by_cases hc : c = 46
          · subst hc
            obtain ⟨f1, f2, f3⟩ := fm_point (l := u) (p := p) (by rw [HU.out, HK.out]; exact hR)
            rw [HU.out, HK.out] at f1 f3
            rw [hgood.out, HN.out, Bool.true_and, num_run] at f3
            have hpl : p.length ≤ 60 := by
              have := congrArg List.length hR
              rw [List.length_drop] at this
              simp at this
              omega
            have F1 := Lib.hid f1
            have F2 := Lib.hid f2
            have F3 := Lib.hid f3
            have r0 : 0 < (⟨(46 :: p).toArray⟩ : ByteArray).size := by rw [mk_size]; simp
            have r46 : (((⟨(46 :: p).toArray⟩ : ByteArray)[0].toNat : Int) != 46) = false := by
              rw [mk_getD]; rfl
            have rex : ∀ n, n = p.length + 1 → (⟨(46 :: p).toArray⟩ : ByteArray).extract 1 n = ⟨p.toArray⟩ := by
              intro n hn
              rw [ex_mk, hn]
              congr 1
              simp
            have rlen : (46 :: p).length = p.length + 1 := rfl
            clear f1 f2 f3 hgood
            generalize u.take k = W at *
            generalize 46 :: p = R at *
            clear hR
            cases hp : (p == [])
            · cases hq : (runL isDig p == p.length)
              · have F : Hid (fmB u = false) := by
                  show _ = _
                  rw [F3.out, hq, Bool.and_false]; rfl
                have hqi : ((runL isDig p : Int) != (p.length : Int)) = true := by
                  rw [beq_eq_false_iff_ne] at hq
                  rw [bne_iff_ne]; omega
                clear hq F3
                go_wp2_with fail
                refine (refDig_any p _ hpl).mono ?_
                rintro e wx ⟨rfl, rfl⟩
                generalize runL isDig p = kp at *
                go_wp2_with fail
                (try simp only [Exit.inBlock, Exit.then])
                refine bodyPost_ret (results_tmp4 rfl _ _ _) rfl ?_
                exact says_bad F.out hB.out
              · have F3' : Hid (fmB u = !(false && zerosB (W ++ p))) := by
                  show _ = _
                  rw [F3.out, hq, hp]; rfl
                have hqi : (runL isDig p : Int) = (p.length : Int) := by
                  rw [beq_iff_eq] at hq
                  omega
                have HQ := Lib.hid hqi
                clear hq hqi F3
                go_wp2_with fail
                refine (refDig_any p _ hpl).mono ?_
                rintro e wx ⟨rfl, rfl⟩
                rw [HQ.out]
                go_wp2_with fail
                have hcat : (⟨W.toArray⟩ ++ ⟨p.toArray⟩ : ByteArray) = ⟨(W ++ p).toArray⟩ := cat_mk W p
                have hLl : (W ++ p).length ≤ 120 := by rw [List.length_append]; first | omega | (simp; omega)
                generalize W ++ p = L at *
                go_loop [11, 12] (fun z i => ∃ j : Nat, j ≤ L.length ∧ i = .int .i64 j ∧ z = .bool (zerosB (L.take j))) (fun _ i => L.length - (intOf i).toNat)
                case atStart => exact ⟨0, Nat.zero_le _, rfl, rfl⟩
                case round =>
                  obtain ⟨j, hj, rfl, rfl⟩ := hrel
                  by_cases hlt : j < L.length
                  · have hli : decide ((j : Int) < (L.length : Int)) = true := by rw [decide_eq_true_eq]; omega
                    have hsz : j < (⟨L.toArray⟩ : ByteArray).size := by rw [mk_size]; exact hlt
                    have hg : (((⟨L.toArray⟩ : ByteArray)[j].toNat : Int) == 48) = (L.getD j 0 == 48) := by rw [mk_getD]; exact byte48 _
                    have hst := zeros_step hlt
                    cases hz : zerosB (L.take j)
                    · have F : Hid (zerosB (L.take (j + 1)) = false) := by
                        show _ = _
                        rw [hst, hz]; rfl
                      clear hst hz hg
                      go_wp2_with fail
                      go_round
                      case rel => exact ⟨j + 1, by omega, by go_num, by rw [F.out]⟩
                      case measure => simp [intOf]; omega
                    · have F : Hid (zerosB (L.take (j + 1)) = (L.getD j 0 == 48)) := by
                        show _ = _
                        rw [hst, hz]; rfl
                      generalize (L.getD j 0 == 48) = b at *
                      clear hst hz
                      go_wp2_with fail
                      go_round
                      case rel => exact ⟨j + 1, by omega, by go_num, by rw [F.out]⟩
                      case measure => simp [intOf]; omega
                  · have hli : decide ((j : Int) < (L.length : Int)) = false := by rw [decide_eq_false_iff_not]; omega
                    rw [List.take_of_length_le (show L.length ≤ j by omega)]
                    have FF := Lib.hid F3'.out
                    clear F3'
                    generalize zerosB L = zb at *
                    cases zb
                    · go_wp2_with fail
                      (try simp only [Exit.inBlock, Exit.then])
                      refine bodyPost_ret (results_tmp4 rfl _ _ _) rfl ?_
                      exact says_good FF.out HN.out F1.out F2.out hB.out
                    · go_wp2_with fail
                      (try simp only [Exit.inBlock, Exit.then])
                      refine bodyPost_ret (results_tmp4 rfl _ _ _) rfl ?_
                      exact says_good FF.out HN.out F1.out F2.out hB.out
            · have F : Hid (fmB u = false) := by
                show _ = _
                rw [F3.out, hp]; rfl
              obtain rfl : p = [] := by simpa using hp
              clear F3 hp
              go_wp2_with fail
              (try simp only [Exit.inBlock, Exit.then])
              refine bodyPost_ret (results_tmp4 rfl _ _ _) rfl ?_
              exact says_bad F.out hB.out
          · have F : Hid (fmB u = false) := by
              show _ = _
              exact fm_other (by rw [HU.out, HK.out]; exact hR) hc
            have r0 : 0 < (⟨(c :: p).toArray⟩ : ByteArray).size := by rw [mk_size]; simp
            have r46 : (((⟨(c :: p).toArray⟩ : ByteArray)[0].toNat : Int) != 46) = true := by
              rw [mk_getD, bne_iff_ne]
              intro h
              exact hc (UInt8.toNat_inj.1 (by rw [show (46 : UInt8).toNat = 46 from rfl]; exact Int.ofNat_inj.1 h))
            have rex : ∀ n, n = p.length + 1 → (⟨(c :: p).toArray⟩ : ByteArray).extract 1 n = ⟨p.toArray⟩ := by
              intro n hn
              rw [ex_mk, hn]
              congr 1
              simp
            have rlen : (c :: p).length = p.length + 1 := rfl
            generalize u.take k = W at *
            generalize c :: p = R at *
            clear hR hgood
            go_wp2_with fail
            (try simp only [Exit.inBlock, Exit.then])
            refine bodyPost_ret (results_tmp4 rfl _ _ _) rfl ?_
            exact says_bad F.out hB.out
      · have F : Hid (fmB u = false) := by
          show _ = _
          apply fm_bad
          rw [HU.out, HK.out, h48, decide_eq_true k1]; simp
        rw [h48] at t48
        clear h48
        generalize u.take k = W at *
        generalize u.drop k = R at *
        go_wp2_with fail
        (try simp only [Exit.inBlock, Exit.then])
        refine bodyPost_ret (results_tmp4 rfl _ _ _) rfl ?_
        exact says_bad F.out hB.out
    · have h1 : decide (1 < (k : Int)) = false := by rw [decide_eq_false_iff_not]; omega
      have hgood : Hid ((decide (0 < k) && !(decide (1 < k) && (u.getD 0 0 == 48))) = true) := by
        show _ = _
        rw [decide_eq_true (show 0 < k by omega), decide_eq_false k1]; rfl
      clear t48
      cases hR : u.drop k with
      | nil =>
        obtain ⟨f1, f2, f3⟩ := fm_end (l := u) (by rw [HU.out, HK.out]; exact hR)
        rw [HU.out, HK.out] at f1 f3
        rw [hgood.out, HN.out] at f3
        have F1 := Lib.hid f1
        have F2 := Lib.hid f2
        have F3 := Lib.hid f3
        clear f1 f2 f3 hR hgood
        generalize u.take k = W at *
        go_wp2_with fail
        have hcat : (⟨W.toArray⟩ ++ ⟨#[]⟩ : ByteArray) = ⟨(W ++ []).toArray⟩ := cat_mk W []
        have hLl : (W ++ []).length ≤ 120 := by rw [List.length_append]; first | omega | (simp; omega)
        generalize W ++ [] = L at *
        go_loop [11, 12] (fun z i => ∃ j : Nat, j ≤ L.length ∧ i = .int .i64 j ∧ z = .bool (zerosB (L.take j))) (fun _ i => L.length - (intOf i).toNat)
        case atStart => exact ⟨0, Nat.zero_le _, rfl, rfl⟩
        case round =>
          obtain ⟨j, hj, rfl, rfl⟩ := hrel
          by_cases hlt : j < L.length
          · have hli : decide ((j : Int) < (L.length : Int)) = true := by rw [decide_eq_true_eq]; omega
            have hsz : j < (⟨L.toArray⟩ : ByteArray).size := by rw [mk_size]; exact hlt
            have hg : (((⟨L.toArray⟩ : ByteArray)[j].toNat : Int) == 48) = (L.getD j 0 == 48) := by rw [mk_getD]; exact byte48 _
            have hst := zeros_step hlt
            cases hz : zerosB (L.take j)
            · have F : Hid (zerosB (L.take (j + 1)) = false) := by
                show _ = _
                rw [hst, hz]; rfl
              clear hst hz hg
              go_wp2_with fail
              go_round
              case rel => exact ⟨j + 1, by omega, by go_num, by rw [F.out]⟩
              case measure => simp [intOf]; omega
            · have F : Hid (zerosB (L.take (j + 1)) = (L.getD j 0 == 48)) := by
                show _ = _
                rw [hst, hz]; rfl
              generalize (L.getD j 0 == 48) = b at *
              clear hst hz
              go_wp2_with fail
              go_round
              case rel => exact ⟨j + 1, by omega, by go_num, by rw [F.out]⟩
              case measure => simp [intOf]; omega
          · have hli : decide ((j : Int) < (L.length : Int)) = false := by rw [decide_eq_false_iff_not]; omega
            rw [List.take_of_length_le (show L.length ≤ j by omega)]
            have FF := Lib.hid F3.out
            clear F3
            generalize zerosB L = zb at *
            cases zb
            · go_wp2_with fail
              (try simp only [Exit.inBlock, Exit.then])
              refine bodyPost_ret (results_tmp4 rfl _ _ _) rfl ?_
              exact says_good FF.out HN.out F1.out F2.out hB.out
            · go_wp2_with fail
              (try simp only [Exit.inBlock, Exit.then])
              refine bodyPost_ret (results_tmp4 rfl _ _ _) rfl ?_
              exact says_good FF.out HN.out F1.out F2.out hB.out
      | cons c p =>
        by_cases hc : c = 46
        · subst hc
          obtain ⟨f1, f2, f3⟩ := fm_point (l := u) (p := p) (by rw [HU.out, HK.out]; exact hR)
          rw [HU.out, HK.out] at f1 f3
          rw [hgood.out, HN.out, Bool.true_and, num_run] at f3
          have hpl : p.length ≤ 60 := by
            have := congrArg List.length hR
            rw [List.length_drop] at this
            simp at this
            omega
          have F1 := Lib.hid f1
          have F2 := Lib.hid f2
          have F3 := Lib.hid f3
          have r0 : 0 < (⟨(46 :: p).toArray⟩ : ByteArray).size := by rw [mk_size]; simp
          have r46 : (((⟨(46 :: p).toArray⟩ : ByteArray)[0].toNat : Int) != 46) = false := by
            rw [mk_getD]; rfl
          have rex : ∀ n, n = p.length + 1 → (⟨(46 :: p).toArray⟩ : ByteArray).extract 1 n = ⟨p.toArray⟩ := by
            intro n hn
            rw [ex_mk, hn]
            congr 1
            simp
          have rlen : (46 :: p).length = p.length + 1 := rfl
          clear f1 f2 f3 hgood
          generalize u.take k = W at *
          generalize 46 :: p = R at *
          clear hR
          cases hp : (p == [])
          · cases hq : (runL isDig p == p.length)
            · have F : Hid (fmB u = false) := by
                show _ = _
                rw [F3.out, hq, Bool.and_false]; rfl
              have hqi : ((runL isDig p : Int) != (p.length : Int)) = true := by
                rw [beq_eq_false_iff_ne] at hq
                rw [bne_iff_ne]; omega
              clear hq F3
              go_wp2_with fail
              refine (refDig_any p _ hpl).mono ?_
              rintro e wx ⟨rfl, rfl⟩
              generalize runL isDig p = kp at *
              go_wp2_with fail
              (try simp only [Exit.inBlock, Exit.then])
              refine bodyPost_ret (results_tmp4 rfl _ _ _) rfl ?_
              exact says_bad F.out hB.out
            · have F3' : Hid (fmB u = !(false && zerosB (W ++ p))) := by
                show _ = _
                rw [F3.out, hq, hp]; rfl
              have hqi : (runL isDig p : Int) = (p.length : Int) := by
                rw [beq_iff_eq] at hq
                omega
              have HQ := Lib.hid hqi
              clear hq hqi F3
              go_wp2_with fail
              refine (refDig_any p _ hpl).mono ?_
              rintro e wx ⟨rfl, rfl⟩
              rw [HQ.out]
              go_wp2_with fail
              have hcat : (⟨W.toArray⟩ ++ ⟨p.toArray⟩ : ByteArray) = ⟨(W ++ p).toArray⟩ := cat_mk W p
              have hLl : (W ++ p).length ≤ 120 := by rw [List.length_append]; first | omega | (simp; omega)
              generalize W ++ p = L at *
              go_loop [11, 12] (fun z i => ∃ j : Nat, j ≤ L.length ∧ i = .int .i64 j ∧ z = .bool (zerosB (L.take j))) (fun _ i => L.length - (intOf i).toNat)
              case atStart => exact ⟨0, Nat.zero_le _, rfl, rfl⟩
              case round =>
                obtain ⟨j, hj, rfl, rfl⟩ := hrel
                by_cases hlt : j < L.length
                · have hli : decide ((j : Int) < (L.length : Int)) = true := by rw [decide_eq_true_eq]; omega
                  have hsz : j < (⟨L.toArray⟩ : ByteArray).size := by rw [mk_size]; exact hlt
                  have hg : (((⟨L.toArray⟩ : ByteArray)[j].toNat : Int) == 48) = (L.getD j 0 == 48) := by rw [mk_getD]; exact byte48 _
                  have hst := zeros_step hlt
                  cases hz : zerosB (L.take j)
                  · have F : Hid (zerosB (L.take (j + 1)) = false) := by
                      show _ = _
                      rw [hst, hz]; rfl
                    clear hst hz hg
                    go_wp2_with fail
                    go_round
                    case rel => exact ⟨j + 1, by omega, by go_num, by rw [F.out]⟩
                    case measure => simp [intOf]; omega
                  · have F : Hid (zerosB (L.take (j + 1)) = (L.getD j 0 == 48)) := by
                      show _ = _
                      rw [hst, hz]; rfl
                    generalize (L.getD j 0 == 48) = b at *
                    clear hst hz
                    go_wp2_with fail
                    go_round
                    case rel => exact ⟨j + 1, by omega, by go_num, by rw [F.out]⟩
                    case measure => simp [intOf]; omega
                · have hli : decide ((j : Int) < (L.length : Int)) = false := by rw [decide_eq_false_iff_not]; omega
                  rw [List.take_of_length_le (show L.length ≤ j by omega)]
                  have FF := Lib.hid F3'.out
                  clear F3'
                  generalize zerosB L = zb at *
                  cases zb
                  · go_wp2_with fail
                    (try simp only [Exit.inBlock, Exit.then])
                    refine bodyPost_ret (results_tmp4 rfl _ _ _) rfl ?_
                    exact says_good FF.out HN.out F1.out F2.out hB.out
                  · go_wp2_with fail
                    (try simp only [Exit.inBlock, Exit.then])
                    refine bodyPost_ret (results_tmp4 rfl _ _ _) rfl ?_
                    exact says_good FF.out HN.out F1.out F2.out hB.out
          · have F : Hid (fmB u = false) := by
              show _ = _
              rw [F3.out, hp]; rfl
            obtain rfl : p = [] := by simpa using hp
            clear F3 hp
            go_wp2_with fail
            (try simp only [Exit.inBlock, Exit.then])
            refine bodyPost_ret (results_tmp4 rfl _ _ _) rfl ?_
            exact says_bad F.out hB.out
        · have F : Hid (fmB u = false) := by
            show _ = _
            exact fm_other (by rw [HU.out, HK.out]; exact hR) hc
          have r0 : 0 < (⟨(c :: p).toArray⟩ : ByteArray).size := by rw [mk_size]; simp
          have r46 : (((⟨(c :: p).toArray⟩ : ByteArray)[0].toNat : Int) != 46) = true := by
            rw [mk_getD, bne_iff_ne]
            intro h
            exact hc (UInt8.toNat_inj.1 (by rw [show (46 : UInt8).toNat = 46 from rfl]; exact Int.ofNat_inj.1 h))
          have rex : ∀ n, n = p.length + 1 → (⟨(c :: p).toArray⟩ : ByteArray).extract 1 n = ⟨p.toArray⟩ := by
            intro n hn
            rw [ex_mk, hn]
            congr 1
            simp
          have rlen : (c :: p).length = p.length + 1 := rfl
          generalize u.take k = W at *
          generalize c :: p = R at *
          clear hR hgood
          go_wp2_with fail
          (try simp only [Exit.inBlock, Exit.then])
          refine bodyPost_ret (results_tmp4 rfl _ _ _) rfl ?_
          exact says_bad F.out hB.out
end Go.Proofs.YtklpeibmjiolhaaDoor
