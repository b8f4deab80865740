/-
  climb of both: the way from an account to the top.
-/
import Derived.Test.YtcmmppkmkejniaaGreatDoorGvFind
import Derived.Test.YtcmmppkmkejniaaGreatDoorMpK
import Derived.WalkMore
import Derived.Test.YtcmmppkmkejniaaGreatDoorStr
namespace Go.Proofs.YtcmmppkmkejniaaGreatDoor
open Go.RowKit
set_option linter.unusedVariables false
def slLen : Value → Nat
  | .slice _ n _ => n
  | _ => 0
theorem info_int : (Tryz.prog.info? 3).map (fun i => (i.zero, i.size, i.bytes)) = some (some (.int .i64 0), 1, 8) := by kernel_rfl
theorem int_one (x : Int) : ∀ u ∈ ([.int .i64 x] : List Value), u.oneCell' = true := by
  intro u hu
  simp at hu
  subst hu
  rfl
theorem acc_ok {l : List SAcc} (h : ∀ x ∈ l, AccOk x) {c : Int} {a : SAcc} (hf : findA l c = some a) : okI a.parent := (h a (findA_mem hf)).2.2.2
theorem contains_snoc (path : List Int) (c x : Int) : (path ++ [c]).contains x = if c = x then true else path.contains x := by
  rw [Bool.eq_iff_iff]
  by_cases h : c = x
  · subst h; simp
  · rw [if_neg h]
    simp only [List.contains_iff_mem, List.mem_append, List.mem_singleton]
    constructor
    · rintro (h1 | h1)
      · exact h1
      · exact absurd h1.symm h
    · exact .inl
theorem own_ne {w : World} {base size n b : Nat} {e : TypeId} {v : Value} {xs : List Value} (h : w.ownsRow base e size v n xs) (hb : b < base) : v.ownBlock = none ∨ v.ownBlock ≠ some b := by
  right
  intro he
  have := own_base h b he
  omega
set_option maxRecDepth 100000 in
set_option maxHeartbeats 4000000 in
theorem climb_any (l : List SAcc) (A : Option Addr) (n c : Nat) (code : Int) (B : Nat) (w : World) (hr : Reads w B 4 A n (accsC l)) (hB : B ≤ w.heap.size) (hn : n ≤ 1000) (hok : ∀ x ∈ l, AccOk x) (hc : okI code) :
    Calls Tryz.prog 126 #[.slice A n c, .int .i64 code] w fun e w' => ∃ v, e = .returned v ∧ w'.ownsRow w.heap.size 3 1 v (climbP l (n + 1) code []).1.length ((climbP l (n + 1) code []).1.map (Value.int .i64)) ∧ Below w.heap.size w w' := by
  obtain ⟨i0, hi0, hz0, hz1, hz2⟩ := info_parts info_int
  have HL := Lib.hid (accs_len hr)
  have HR := Lib.hid hr
  have HOK := Lib.hid hok
  have hm0 := MapB.made (M := MI) w
  have HM0 := Lib.hid hm0
  have hb0 := (Below.refl w.heap.size w).alloc (Nat.le_refl _) (.map #[] 0)
  have HB0 := Lib.hid hb0
  have HC0 := Lib.hid hc
  clear hr hok hm0 hb0 hc
  generalize hP : climbP l (n + 1) code [] = P
  have HP := Lib.hid hP
  clear hP
  have hmm := @run_makeMap Tryz.prog
  go_enter Tryz.func126, Tryz.ntmps126
  go_wp2_with fail
  go_step3
  go_wp2_with fail
  go_step3
  go_wp2_with fail
  go_loopw [1, 5] (fun cv out wr => ∃ (cc : Int) (path : List Int) (m : List (Int × Bool)), cv = .int .i64 cc ∧ wr.ownsRow (w.heap.size + 1) 3 1 out path.length (path.map (Value.int .i64)) ∧ MapB MI wr w.heap.size m ∧ (∀ x, getB m x = path.contains x) ∧ Below w.heap.size w wr ∧
      path.Nodup ∧ (∀ x ∈ path, x ∈ l.map (·.code)) ∧ path.length ≤ n ∧ climbP l (n + 1 - path.length) cc path = P ∧ okI cc) (fun _ out _ => n + 1 - slLen out)
  case atStart => exact ⟨code, [], [], rfl, World.ownsRow_nil _ _ _ _, HM0.out, fun _ => rfl, HB0.out, by simp, by simp, by simp, HP.out, HC0.out⟩
  case round =>
    obtain ⟨cc, path, m, rfl, hown, hm, hg, hbr, hnd, hin, hpl, hcp, hcc⟩ := hrel
    obtain ⟨wo, rfl⟩ : ∃ wo : World, wo = wr := ⟨_, rfl⟩
    obtain ⟨Ao, co, rfl⟩ := own_slice hown
    have HO := Lib.hid hown
    have HM := Lib.hid hm
    have HG := Lib.hid hg
    have HND := Lib.hid hnd
    have HIN := Lib.hid hin
    have HCP := Lib.hid hcp
    have HCC := Lib.hid hcc
    have HF := Lib.hid (find_any l A n c cc wo.heap.size wo ((HR.out.lowg hB (Nat.le_refl _) hbr).more (by have := hbr.size; omega)) (Nat.le_refl _) (by omega))
    have hs1 : w.heap.size ≤ wo.heap.size := hbr.size
    have hml := hm.lt
    clear hown hm hg hnd hin hcp hcc
    cases hf : findA l cc with
    | none =>
      have F := Lib.hid (findV_no hf)
      have FE : Hid (climbP l (n + 1 - path.length) cc path = (path, cc)) := climbP_none hf
      clear hf
      go_wp2_with fail
      refine HF.out.mono ?_
      rintro e w1 ⟨rfl, hb1⟩
      rw [F.out]
      have HO1 := Lib.hid ((own_below HO.out hb1).alloc (.cells #[.int .i64 0, .int .i64 0, .int .i64 0, .int .i64 0] 42))
      have HB1 := Lib.hid ((below_two hbr hb1).alloc (by have := hb1.size; omega) (.cells #[.int .i64 0, .int .i64 0, .int .i64 0, .int .i64 0] 42))
      clear hb1 HF
      go_wp2_with fail
      try rw [Exit.noGoto_ret]
      go_ret
      refine ⟨_, rfl, ?_, HB1.out⟩
      have e1 : P.1 = path := by rw [← HCP.out, FE.out]
      rw [e1]
      exact own_mono HO1.out (by omega)
    | some a =>
      have F := Lib.hid (findV_yes hf)
      have HFA := Lib.hid hf
      have HA := Lib.hid (acc_ok HOK.out hf)
      clear hf
      obtain ⟨a0, a1, a2, a3⟩ := a
      simp only [] at F HFA HA
      cases hs : path.contains cc with
      | true =>
        have FE : Hid (climbP l (n + 1 - path.length) cc path = (path, cc)) := climbP_seen hs
        have HS : Hid (getB m cc = true) := (HG.out cc).trans hs
        clear hs
        go_wp2_with fail
        refine HF.out.mono ?_
        rintro e w1 ⟨rfl, hb1⟩
        rw [F.out]
        have HO1 := Lib.hid ((own_below HO.out hb1).alloc (.cells #[.int .i64 a0, .int .i64 a1, .int .i64 a2, .int .i64 a3] 42))
        have HM1 := Lib.hid ((HM.out.below hb1 hml).alloc (.cells #[.int .i64 a0, .int .i64 a1, .int .i64 a2, .int .i64 a3] 42))
        have HB1 := Lib.hid ((below_two hbr hb1).alloc (by have := hb1.size; omega) (.cells #[.int .i64 a0, .int .i64 a1, .int .i64 a2, .int .i64 a3] 42))
        clear hb1 HF
        go_wp2_with (at_lookup; refine wpList_lookupB_want (M := MI) _ (by first | rfl | simp [Region.wanted, yielded]) _ _ rfl w.heap.size m cc rfl rfl HM1.out HCC.out ?_; rw [HS.out])
        try rw [Exit.noGoto_ret]
        go_ret
        refine ⟨_, rfl, ?_, HB1.out⟩
        have e1 : P.1 = path := by rw [← HCP.out, FE.out]
        rw [e1]
        exact own_mono HO1.out (by omega)
      | false =>
        have HPS := Lib.hid (path_snoc HFA.out hs HND.out HIN.out)
        have HS : Hid (getB m cc = false) := (HG.out cc).trans hs
        have hpl2 : path.length + 1 ≤ n := by have := HPS.out.2.2; rw [HL.out] at this; exact this
        have FE : Hid (climbP l (n + 1 - (path.length + 1)) a3 (path ++ [cc]) = P) := by
          show _ = _
          have := HCP.out
          rw [show n + 1 - path.length = (n + 1 - (path.length + 1)) + 1 by omega, climbP_step HFA.out hs] at this
          exact this
        clear hs
        go_wp2_with fail
        refine HF.out.mono ?_
        rintro e w1 ⟨rfl, hb1⟩
        rw [F.out]
        have HO1 := Lib.hid ((own_below HO.out hb1).alloc (.cells #[.int .i64 a0, .int .i64 a1, .int .i64 a2, .int .i64 a3] 42))
        have HM1 := Lib.hid ((HM.out.below hb1 hml).alloc (.cells #[.int .i64 a0, .int .i64 a1, .int .i64 a2, .int .i64 a3] 42))
        have HB1 := Lib.hid ((below_two hbr hb1).alloc (by have := hb1.size; omega) (.cells #[.int .i64 a0, .int .i64 a1, .int .i64 a2, .int .i64 a3] 42))
        have hs2 : wo.heap.size ≤ w1.heap.size := hb1.size
        have HK1 := Lib.hid (Blk.new w1 42 #[.int .i64 a0, .int .i64 a1, .int .i64 a2, .int .i64 a3])
        clear hb1 HF
        have HNE : Hid (∀ k, (Value.slice Ao path.length co).ownBlock = some k → w.heap.size + 1 ≤ k ∧ k < wo.heap.size) := by
          show ∀ _, _
          intro k hk
          exact ⟨own_base HO.out k hk, own_lt HO.out k hk⟩
        go_wp2_with (first
          | (at_lookup; refine wpList_lookupB_want (M := MI) _ (by first | rfl | simp [Region.wanted, yielded]) _ _ rfl w.heap.size m cc rfl rfl HM1.out HCC.out ?_; rw [HS.out])
          | (at_mapUpdate; refine wpList_storeB (M := MI) _ rfl _ _ _ rfl w.heap.size m cc true rfl rfl rfl HM1.out HCC.out ?_; intro w2 hm2 hg2; have HM2 := Lib.hid hm2; have HG2 := Lib.hid hg2; have HO2 := Lib.hid (HO1.out.kept hg2 (own_ne HO1.out (Nat.lt_succ_self _))); have hs3 := hg2.size; simp only [World.size_alloc] at hs3; clear hm2 hg2)
          | (at_builtin; refine wpList_append_any _ rfl (.tmp 25) (.tmp 27) _ rfl (w.heap.size + 1) 3 i0 _ 1 8 Tryz.underlying49 hi0 hz0 hz1 hz2 rfl (by omega) _ path.length (path.map (Value.int .i64)) rfl (HO2.out.alloc _) (w2.heap.size + 1) (some ⟨w2.heap.size, 0, none⟩) 1 1 [.int .i64 cc] rfl (reads_one w2 #[.int .i64 cc] _ 1 rfl) (int_one cc) (by simp only [maxLen]; omega) (by omega) (by simp only [World.size_alloc]; omega) ?_; intro v4 w4 hown4 hg4 hat4
             have hk4 := ((HK1.out.grown HG2.out (by intro e; have := Option.some.inj e; omega)).alloc (.cells #[.int .i64 cc] 3)).grown hg4 (by intro e; have := (HNE.out _ e.symm).2; omega)
             obtain ⟨y0, y1, y2, y3⟩ := acc_blk hk4
             have HM4 := Lib.hid ((HM2.out.alloc (.cells #[.int .i64 cc] 3)).grown hg4 (by intro e; have := (HNE.out _ e.symm).1; omega))
             have HB4 := Lib.hid (((HB1.out.grown HG2.out (by simp only [World.size_alloc]; omega) (fun k hk => by cases hk; exact Nat.le_refl _)).alloc (by omega) (.cells #[.int .i64 cc] 3)).grown hg4 (by simp only [World.size_alloc]; omega) (fun k hk => by have := (HNE.out k hk).1; omega))
             have HO4 := Lib.hid hown4
             clear hown4 hg4 hat4 hk4))
        refine ⟨⟨a3, path ++ [cc], putB m cc true, rfl, ?_, HM4.out, ?_, HB4.out, HPS.out.1, HPS.out.2.1, by rw [List.length_append, List.length_singleton]; exact hpl2, ?_, HA.out⟩, ?_⟩
        · rw [List.length_append, List.length_singleton, List.map_append]
          exact HO4.out
        · intro x
          rw [getB_putB, contains_snoc, HG.out]
        · rw [List.length_append, List.length_singleton]
          exact FE.out
        · obtain ⟨A4, c4, rfl⟩ := own_slice HO4.out
          simp only [slLen]
          omega
theorem climbR_none {l : List SAcc} {n : Nat} {c : Int} (h : findA l c = none) : climbR l n c = [] := by
  cases n with
  | zero => rfl
  | succ n => unfold climbR; rw [h]
theorem climbR_step {l : List SAcc} {n : Nat} {c : Int} {a : SAcc} (h : findA l c = some a) : climbR l (n + 1) c = c :: climbR l n a.parent := by
  conv => lhs; unfold climbR
  rw [h]
set_option maxRecDepth 100000 in
set_option maxHeartbeats 4000000 in
theorem rclimb_any (l : List SAcc) (A : Option Addr) (n c : Nat) (code : Int) (B : Nat) (w : World) (hr : Reads w B 4 A n (accsC l)) (hB : B ≤ w.heap.size) (hn : n ≤ 1000) :
    Calls Tryz.prog 68 #[.slice A n c, .int .i64 code] w fun e w' => ∃ v, e = .returned v ∧ w'.ownsRow w.heap.size 3 1 v (climbR l (n + 1) code).length ((climbR l (n + 1) code).map (Value.int .i64)) ∧ Below w.heap.size w w' := by
  obtain ⟨i0, hi0, hz0, hz1, hz2⟩ := info_parts info_int
  have HL := Lib.hid (accs_len hr)
  have HR := Lib.hid hr
  clear hr
  generalize hP : climbR l (n + 1) code = P
  have HP := Lib.hid hP
  clear hP
  go_enter Tryz.func68, Tryz.ntmps68
  go_wp2_with fail
  go_loopw [1, 5, 6] (fun cv out iv wr => ∃ (cc : Int) (path : List Int) (k : Nat), cv = .int .i64 cc ∧ iv = .int .i64 k ∧ k ≤ n + 1 ∧ path.length = k ∧ wr.ownsRow w.heap.size 3 1 out path.length (path.map (Value.int .i64)) ∧ Below w.heap.size w wr ∧
      path ++ climbR l (n + 1 - k) cc = P) (fun _ _ iv _ => n + 1 - (intOf iv).toNat)
  case atStart => exact ⟨code, [], 0, rfl, rfl, by omega, rfl, World.ownsRow_nil _ _ _ _, Below.refl _ _, HP.out⟩
  case round =>
    obtain ⟨cc, path, k, rfl, rfl, hk, hpl, hown, hbr, hcp⟩ := hrel
    obtain ⟨wo, rfl⟩ : ∃ wo : World, wo = wr := ⟨_, rfl⟩
    obtain ⟨Ao, co, rfl⟩ := own_slice hown
    have HO := Lib.hid hown
    have HCP := Lib.hid hcp
    have HPL := Lib.hid hpl
    have HF := Lib.hid (rfind_any l A n c cc wo.heap.size wo ((HR.out.lowg hB (Nat.le_refl _) hbr).more (by have := hbr.size; omega)) (Nat.le_refl _) (by omega))
    have hs1 : w.heap.size ≤ wo.heap.size := hbr.size
    have hpk : path.length ≤ n + 1 := by omega
    clear hown hcp hpl
    by_cases hlt : k ≤ n
    · have k3 : decide ((k : Int) ≤ (n : Int)) = true := by rw [decide_eq_true_eq]; omega
      cases hf : findA l cc with
      | none =>
        have F := Lib.hid (findV_no hf)
        have FE : Hid (climbR l (n + 1 - k) cc = []) := climbR_none hf
        clear hf
        go_wp2_with fail
        refine HF.out.mono ?_
        rintro e w1 ⟨rfl, hb1⟩
        rw [F.out]
        have HO1 := Lib.hid ((own_below HO.out hb1).alloc (.cells #[.int .i64 0, .int .i64 0, .int .i64 0, .int .i64 0] 42))
        have HB1 := Lib.hid ((below_two hbr hb1).alloc (by have := hb1.size; omega) (.cells #[.int .i64 0, .int .i64 0, .int .i64 0, .int .i64 0] 42))
        clear hb1 HF
        go_wp2_with fail
        go_ret
        refine ⟨_, rfl, ?_, HB1.out⟩
        have e1 : P = path := by rw [← HCP.out, FE.out, List.append_nil]
        rw [e1]
        exact HO1.out
      | some a =>
        have F := Lib.hid (findV_yes hf)
        have FE : Hid (path ++ [cc] ++ climbR l (n + 1 - (k + 1)) a.parent = P) := by
          show _ = _
          have := HCP.out
          rw [show n + 1 - k = (n + 1 - (k + 1)) + 1 by omega, climbR_step hf] at this
          simpa using this
        clear hf
        obtain ⟨a0, a1, a2, a3⟩ := a
        simp only [] at F FE
        go_wp2_with fail
        refine HF.out.mono ?_
        rintro e w1 ⟨rfl, hb1⟩
        rw [F.out]
        have HO1 := Lib.hid ((own_below HO.out hb1).alloc (.cells #[.int .i64 a0, .int .i64 a1, .int .i64 a2, .int .i64 a3] 42))
        have HB1 := Lib.hid ((below_two hbr hb1).alloc (by have := hb1.size; omega) (.cells #[.int .i64 a0, .int .i64 a1, .int .i64 a2, .int .i64 a3] 42))
        have hs2 : wo.heap.size ≤ w1.heap.size := hb1.size
        have HK1 := Lib.hid (Blk.new w1 42 #[.int .i64 a0, .int .i64 a1, .int .i64 a2, .int .i64 a3])
        clear hb1 HF
        have HNE : Hid (∀ k, (Value.slice Ao path.length co).ownBlock = some k → w.heap.size ≤ k ∧ k < wo.heap.size) := by
          show ∀ _, _
          intro k hk
          exact ⟨own_base HO.out k hk, own_lt HO.out k hk⟩
        go_wp2_with (at_builtin; refine wpList_append_any _ rfl (.tmp 23) (.tmp 25) _ rfl w.heap.size 3 i0 _ 1 8 Tryz.underlying49 hi0 hz0 hz1 hz2 rfl (by omega) _ path.length (path.map (Value.int .i64)) rfl (HO1.out.alloc _) (w1.heap.size + 1 + 1) (some ⟨w1.heap.size + 1, 0, none⟩) 1 1 [.int .i64 cc] rfl (by have := reads_one (w1.alloc (.cells #[.int .i64 a0, .int .i64 a1, .int .i64 a2, .int .i64 a3] 42)) #[.int .i64 cc] 3 1 rfl; rw [World.size_alloc] at this; exact this) (int_one cc) (by simp only [maxLen]; omega) (by omega) (by simp only [World.size_alloc]; omega) ?_; intro v4 w4 hown4 hg4 hat4
                     have hk4 := (HK1.out.alloc (.cells #[.int .i64 cc] 3)).grown hg4 (by intro e; have := (HNE.out _ e.symm).2; omega)
                     obtain ⟨y0, y1, y2, y3⟩ := acc_blk hk4
                     have HB4 := Lib.hid ((HB1.out.alloc (by simp only [World.size_alloc]; omega) (.cells #[.int .i64 cc] 3)).grown hg4 (by simp only [World.size_alloc]; omega) (fun k hk => by have := (HNE.out k hk).1; omega))
                     have HO4 := Lib.hid hown4
                     clear hown4 hg4 hat4 hk4)
        refine ⟨⟨a3, path ++ [cc], k + 1, rfl, by go_num, by omega, by rw [List.length_append, HPL.out]; rfl, ?_, HB4.out, FE.out⟩, by simp [intOf]; omega⟩
        rw [List.length_append, List.length_singleton, List.map_append]
        exact HO4.out
    · have k3 : decide ((k : Int) ≤ (n : Int)) = false := by rw [decide_eq_false_iff_not]; omega
      have hk1 : n + 1 - k = 0 := by omega
      have e1 : Hid (P = path) := by
        show _ = _
        rw [← HCP.out, hk1]
        simp [climbR]
      clear hk1
      go_wp2_with fail
      go_ret
      refine ⟨_, rfl, ?_, hbr⟩
      rw [e1.out]
      exact HO.out
end Go.Proofs.YtcmmppkmkejniaaGreatDoor
