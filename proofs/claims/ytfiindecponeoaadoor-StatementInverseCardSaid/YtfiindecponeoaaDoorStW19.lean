/-
  The law StatementInverse.
-/
import Derived.Test.YtfiindecponeoaaDoorStW17
namespace Go.Proofs.YtfiindecponeoaaDoor
open Go.RowKit
set_option linter.unusedVariables false
theorem LN_cons {L T : List UInt8} (hL : L.length ≤ 2000) (h : LN T) : LN (L ++ 10 :: T) := by
  intro a u b e hu
  by_cases h1 : a.length ≤ L.length
  · by_cases h2 : L.length < a.length + u.length
    · exfalso
      have h3 : (L ++ 10 :: T)[L.length]? = some 10 := by simp
      rw [e] at h3
      have h4 : (a ++ u ++ b)[L.length]? = u[L.length - a.length]? := by
        rw [List.append_assoc, List.getElem?_append_right h1, List.getElem?_append_left (by omega)]
      rw [h4] at h3
      exact hu (List.mem_of_getElem? h3)
    · omega
  · have h5 : T = a.drop (L.length + 1) ++ u ++ b := by
      have : (L ++ 10 :: T).drop (L.length + 1) = T := by simp
      rw [← this, e, List.append_assoc, List.drop_append_of_le_length (by omega), List.append_assoc]
    exact h _ u b h5 hu
theorem LN_text : ∀ {rs : List SRow}, (∀ r ∈ rs, (lineL r).length ≤ 2000) → LN (textL rs) := by
  intro rs
  induction rs with
  | nil => intro _; exact LN.of_short (by simp [textL])
  | cons r rs ih =>
    intro h
    have e : textL (r :: rs) = lineL r ++ 10 :: textL rs := by simp [textL]
    rw [e]
    exact LN_cons (h r (by simp)) (ih (fun x hx => h x (by simp [hx])))
theorem valid_lines {rs : List SRow} (h : validR rs = true) : ∀ r ∈ rs, (lineL r).length ≤ 2000 := by
  intro r hr
  obtain ⟨k, hk, rfl⟩ := List.getElem_of_mem hr
  have := line_len (validR_row h hk)
  have e : rs.getD k default = rs[k] := by simp [List.getD, hk]
  rw [e] at this
  omega
theorem validR_of {rs : List SRow} (h : validF (-1) rs = true) (hn : rs.length ≤ 300) : validR rs = true := by
  unfold validR; rw [h, decide_eq_true hn]; rfl
theorem validR_F {rs : List SRow} (h : validR rs = true) : validF (-1) rs = true := by
  unfold validR at h; rw [Bool.and_eq_true] at h; exact h.1
def SecondHalf (s : List UInt8) (w : World) : Prop := True
set_option maxRecDepth 100000 in
set_option maxHeartbeats 8000000 in
theorem lawInverse (rs : List SRow) (A : Option Addr) (n c : Nat) (s0 : ByteArray) (w : World) (hE : Env w) (hEE : EnvE w) (hr : Reads w w.heap.size 5 A n (rowsCells rs)) (hn63 : n ≤ 9223372036854775807) (hnc : n ≤ c) (hs : s0.size ≤ 9223372036854775807) :
    Calls Tryd.prog 7 #[.slice A n c, .string s0] w fun e w' => e = .returned (.bool true) ∧ Below w.heap.size w w' := by
  obtain ⟨s, rfl⟩ : ∃ l : List UInt8, s0 = ⟨l.toArray⟩ := ⟨s0.data.toList, rfl⟩
  rw [mk_size] at hs
  have HR := Lib.hid hr
  have HL := Lib.hid (rows_len hr)
  have HES := Lib.hid hE.size
  clear hr
  cases hf : fewB rs
  · have HF := Lib.hid hf
    clear hf
    go_enter Tryd.func7, Tryd.ntmps7
    go_wp2_with fail
    refine (awake_true _ hE).mono ?_
    rintro e w1 ⟨rfl, hb1⟩
    go_wp2_with fail
    refine (few_any rs A n c w.heap.size _ (HR.out.below hb1) hn63).mono ?_
    rintro e wx ⟨rfl, rfl⟩
    rw [HF.out]
    go_wp2_with fail
    refine (awake_true _ (hE.after hb1)).mono ?_
    rintro e w2 ⟨rfl, hb2⟩
    go_wp2_with fail
    go_ret
    exact ⟨rfl, below_two hb1 hb2⟩
  have HF := Lib.hid hf
  obtain ⟨h60, h310⟩ := fewB_iff.1 hf
  have HNM : Hid (∀ r ∈ rs, r.name.length ≤ 3000) := fun r hr => by have := h60 r hr; omega
  clear hf h60 h310
  by_cases h2 : 2000 < s.length
  · have hi : decide ((2000 : Int) < (s.length : Int)) = true := by rw [decide_eq_true_eq]; omega
    go_enter Tryd.func7, Tryd.ntmps7
    go_wp2_with fail
    refine (awake_true _ hE).mono ?_
    rintro e w1 ⟨rfl, hb1⟩
    go_wp2_with fail
    refine (few_any rs A n c w.heap.size _ (HR.out.below hb1) hn63).mono ?_
    rintro e wx ⟨rfl, rfl⟩
    rw [HF.out]
    go_wp2_with fail
    refine (awake_true _ (hE.after hb1)).mono ?_
    rintro e w2 ⟨rfl, hb2⟩
    go_wp2_with fail
    go_ret
    exact ⟨rfl, below_two hb1 hb2⟩
  have hi : decide ((2000 : Int) < (s.length : Int)) = false := by rw [decide_eq_false_iff_not]; omega
  have hs2 : s.length ≤ 2000 := by omega
  have HLN := Lib.hid (LN.of_short hs2)
  clear h2
  cases hv : validR rs
  · have HP : Hid (prS rs = [] ∧ prE rs = 1) := by
      show _ ∧ _
      unfold prS prE; rw [hv]; exact ⟨rfl, rfl⟩
    clear hv
    go_enter Tryd.func7, Tryd.ntmps7
    go_wp2_with fail
    refine (awake_true _ hE).mono ?_
    rintro e w1 ⟨rfl, hb1⟩
    go_wp2_with fail
    refine (few_any rs A n c w.heap.size _ (HR.out.below hb1) hn63).mono ?_
    rintro e wx ⟨rfl, rfl⟩
    rw [HF.out]
    go_wp2_with fail
    refine (print_any rs A n c w.heap.size _ (hE.after hb1) (HR.out.below hb1) hb1.size hn63 hnc HNM.out).mono ?_
    rintro e w2 ⟨rfl, hb2⟩
    rw [HP.out.1, HP.out.2]
    have hbB := below_two hb1 hb2
    go_wp2_with fail
    refine (parse_any s _ (hE.after hbB) (hEE.below hbB HES.out) (by omega) HLN.out).mono ?_
    rintro e w5 ⟨v2, o2, i2, e2, rfl, hp2, hown2, hb5⟩
    have hbC := below_two hbB hb5
    obtain ⟨A2, c2, rfl⟩ := own_slice hown2
    have HR2 := Lib.hid (Reads.of_own hown2)
    have hcap := own_cap hown2
    have hol := pz_len hp2 (by simp)
    clear hown2 hbB hb5
    cases he : (e2 == 0)
    · have hne : (e2 != 0) = true := by rw [bne, he]; rfl
      have ho : o2 = [] := by
        rcases pz_err hp2 with h | h
        · rw [h] at he; cases he
        · exact h
      subst ho
      clear hp2
      go_wp2_with fail
      go_ret
      exact ⟨rfl, hbC⟩
    · have he0 : e2 = 0 := eq_of_beq he
      obtain ⟨t1, t2, t3, t4⟩ := pz_text hp2 he0 rfl (by simp)
      have HPO := Lib.hid (prS_yes (validR_of t1 t2))
      have HT3 : Hid (textL o2 = s) := by show _ = _; rw [t3]; simp [textL]
      have HNO := Lib.hid (valid_names t1)
      clear he t1 t2 t3 t4 hp2
      subst he0
      go_wp2_with fail
      refine (print_any o2 A2 o2.length c2 _ _ (hE.after hbC) HR2.out (Nat.le_refl _) (by omega) hcap HNO.out).mono ?_
      rintro e w6 ⟨rfl, hb6⟩
      rw [HPO.out.1, HPO.out.2, HT3.out]
      go_wp2_with fail
      go_ret
      exact ⟨rfl, below_two hbC hb6⟩
  · have HP := Lib.hid (prS_yes hv)
    have hpz := pz_rows rs [] (by simpa using validR_F hv) (by simpa using validR_len hv)
    rw [List.nil_append] at hpz
    have HPZ := Lib.hid hpz
    have HTL : Hid ((textL rs).length ≤ 30000 ∧ LN (textL rs)) := by
      refine ⟨?_, LN_text (valid_lines hv)⟩
      have h1 := textL_len hv rs.length (Nat.le_refl _)
      have h2 := validR_len hv
      rw [List.take_length] at h1
      omega
    clear hv hpz
    go_enter Tryd.func7, Tryd.ntmps7
    go_wp2_with fail
    refine (awake_true _ hE).mono ?_
    rintro e w1 ⟨rfl, hb1⟩
    go_wp2_with fail
    refine (few_any rs A n c w.heap.size _ (HR.out.below hb1) hn63).mono ?_
    rintro e wx ⟨rfl, rfl⟩
    rw [HF.out]
    go_wp2_with fail
    refine (print_any rs A n c w.heap.size _ (hE.after hb1) (HR.out.below hb1) hb1.size hn63 hnc HNM.out).mono ?_
    rintro e w2 ⟨rfl, hb2⟩
    rw [HP.out.1, HP.out.2]
    have hb12 := below_two hb1 hb2
    go_wp2_with fail
    refine (parse_any (textL rs) w2 (hE.after hb12) (hEE.below hb12 HES.out) HTL.out.1 HTL.out.2).mono ?_
    rintro e w3 ⟨v1, o1, i1, e1, rfl, hp1, hown1, hb3⟩
    obtain ⟨rfl, rfl, rfl⟩ := pz_det HPZ.out hp1
    have hb13 := below_two hb12 hb3
    obtain ⟨A1, c1, rfl⟩ := own_slice hown1
    have HR1 := Lib.hid (Reads.of_own hown1)
    have hnl : rs.length = n := HL.out
    rw [hnl] at HR1 ⊢
    clear hown1 hp1 hnl
    go_wp2_with fail
    refine (same_any rs A1 A n c1 c _ w.heap.size w3 HR1.out (HR.out.below hb13) (Nat.le_refl _) hb13.size hn63).mono ?_
    rintro e w4 ⟨rfl, hb4⟩
    have hbB := below_two hb13 hb4
    clear hb1 hb2 hb12 hb3 hb13 hb4 HR1
    go_wp2_with fail
    refine (parse_any s _ (hE.after hbB) (hEE.below hbB HES.out) (by omega) HLN.out).mono ?_
    rintro e w5 ⟨v2, o2, i2, e2, rfl, hp2, hown2, hb5⟩
    have hbC := below_two hbB hb5
    obtain ⟨A2, c2, rfl⟩ := own_slice hown2
    have HR2 := Lib.hid (Reads.of_own hown2)
    have hcap := own_cap hown2
    have hol := pz_len hp2 (by simp)
    clear hown2 hbB hb5
    cases he : (e2 == 0)
    · have hne : (e2 != 0) = true := by rw [bne, he]; rfl
      have ho : o2 = [] := by
        rcases pz_err hp2 with h | h
        · rw [h] at he; cases he
        · exact h
      subst ho
      clear hp2
      go_wp2_with fail
      go_ret
      exact ⟨rfl, hbC⟩
    · have he0 : e2 = 0 := eq_of_beq he
      obtain ⟨t1, t2, t3, t4⟩ := pz_text hp2 he0 rfl (by simp)
      have HPO := Lib.hid (prS_yes (validR_of t1 t2))
      have HT3 : Hid (textL o2 = s) := by show _ = _; rw [t3]; simp [textL]
      have HNO := Lib.hid (valid_names t1)
      clear he t1 t2 t3 t4 hp2
      subst he0
      go_wp2_with fail
      refine (print_any o2 A2 o2.length c2 _ _ (hE.after hbC) HR2.out (Nat.le_refl _) (by omega) hcap HNO.out).mono ?_
      rintro e w6 ⟨rfl, hb6⟩
      rw [HPO.out.1, HPO.out.2, HT3.out]
      go_wp2_with fail
      go_ret
      exact ⟨rfl, below_two hbC hb6⟩
end Go.Proofs.YtfiindecponeoaaDoor
