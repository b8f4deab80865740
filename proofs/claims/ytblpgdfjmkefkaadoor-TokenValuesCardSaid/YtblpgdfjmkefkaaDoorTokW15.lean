/-
  The laws TokenTexts, TokenJoins and TokenPlaces.
-/
import Derived.Test.YtblpgdfjmkefkaaDoorTokW14
namespace Go.Proofs.YtblpgdfjmkefkaaDoor
open Go.RowKit
set_option linter.unusedVariables false
theorem placed_bd {l : List UInt8} : ∀ {ts : List Tok} {e : Nat}, placed l e ts → e ≤ l.length → ts.length + e ≤ l.length ∧ ∀ t ∈ ts, t.text.length ≤ l.length := by
  intro ts
  induction ts with
  | nil => intro e _ he; exact ⟨by simp; omega, by simp⟩
  | cons t r ih =>
    intro e h he
    obtain ⟨h1, h2, h3, h4, h5⟩ := h
    obtain ⟨i1, i2⟩ := ih h5 h3
    refine ⟨by rw [List.length_cons]; omega, fun x hx => ?_⟩
    rcases List.mem_cons.1 hx with rfl | hx
    · omega
    · exact i2 x hx
theorem tokE_placed {L : List UInt8} {ts : List Tok} (h : tokE L = .ok ts) : placed L 0 ts := by
  unfold tokE at h
  split at h
  · cases h
  · exact tkE_placed L (L.length + 1) 0 ts (by omega) (by simp) (by rw [List.drop_zero]; exact h)
theorem tokE_bd (L : List UInt8) : (trToks (tokE L)).length ≤ L.length ∧ ∀ t ∈ trToks (tokE L), t.text.length ≤ L.length := by
  cases h : tokE L with
  | error e => exact ⟨by simp [trToks], by simp [trToks]⟩
  | ok ts =>
    have := placed_bd (tokE_placed h) (by omega)
    exact ⟨by simp only [trToks]; omega, this.2⟩
set_option maxHeartbeats 1000000 in
theorem lawTexts (s : ByteArray) (w : World) (hE : Env w) : Calls Tryd.prog 3 #[.string s] w fun e w' => e = .returned (.bool true) ∧ Below w.heap.size w w' := by
  obtain ⟨L, rfl⟩ : ∃ L : List UInt8, s = ⟨L.toArray⟩ := ⟨s.data.toList, by simp⟩
  by_cases hbig : 9000 < L.length
  · have hd : decide (9000 < (L.length : Int)) = true := by rw [decide_eq_true_eq]; omega
    go_enter Tryd.func3, Tryd.ntmps3
    go_wp2_with fail
    refine (awake_true _ hE).mono ?_
    rintro e w1 ⟨rfl, hb⟩
    go_wp2_with fail
    go_ret
    exact ⟨rfl, hb⟩
  · have hL : L.length ≤ 9000 := by omega
    have hd : decide (9000 < (L.length : Int)) = false := by rw [decide_eq_false_iff_not]; omega
    obtain ⟨hbd, _⟩ := tokE_bd L
    clear hbig
    go_enter Tryd.func3, Tryd.ntmps3
    go_wp2_with fail
    refine (awake_true _ hE).mono ?_
    rintro e w1 ⟨rfl, hb1⟩
    go_wp2_with fail
    refine (tokens_any L _ (hE.after hb1) hL).mono ?_
    rintro e w2 ⟨v, rfl, hown, hb2⟩
    go_wp2_with fail
    refine (refTokens_any L _ hL).mono ?_
    rintro e w3 ⟨v', rfl, hown', hb3⟩
    have ho1 := own_below hown hb3
    generalize trErr (tokE L) = ee at *
    generalize trAt (tokE L) = aa at *
    generalize trToks (tokE L) = ts at *
    have HB := Lib.hid (below_two (below_two hb1 hb2) hb3)
    obtain ⟨A, c, rfl⟩ := own_slice hown
    obtain ⟨A', c', rfl⟩ := own_slice hown'
    have HO := Lib.hid (Reads.of_own ho1)
    have HO' := Lib.hid (Reads.of_own hown')
    clear hown hown' ho1 hb1 hb2 hb3
    go_wp2_with fail
    refine (from_any ts A ts.length c _ _ HO.out (Nat.le_refl _) (by omega)).mono ?_
    rintro e w4 ⟨v4, rfl, hown4, hb4⟩
    obtain ⟨A4, c4, rfl⟩ := own_slice hown4
    have HO4 := Lib.hid (Reads.of_own hown4)
    clear hown4
    go_wp2_with fail
    refine (same_yes ts ts true _ _ _ _ _ _ _ _ _ HO4.out (HO'.out.low (Nat.le_refl _) (Nat.le_refl _) hb4) (Nat.le_refl _) hb4.size (by omega) rfl).mono ?_
    rintro e w5 ⟨rfl, hb5⟩
    go_wp2_with fail
    go_ret
    exact ⟨rfl, below_two (below_two HB.out hb4) hb5⟩
theorem shape_ok {x : TR} {l : List (Int × List UInt8)} (h : shape x = some l) : ∃ ts, x = .ok ts ∧ ts.map (fun t => (t.kind, t.text)) = l := by
  cases x with
  | error e => cases h
  | ok ts => exact ⟨ts, rfl, by simpa [shape] using h⟩
theorem key_shape {a b : List Tok} (h : a.map (fun t => (t.kind, t.text)) = b.map (fun t => (t.kind, t.text))) : a.map (keyT false) = b.map (keyT false) := by
  have e : ∀ l : List Tok, l.map (keyT false) = (l.map (fun t => (t.kind, t.text))).map fun x => (x.1, x.2, 0) := by
    intro l; rw [List.map_map]; rfl
  rw [e, e, h]
theorem joins_same {L : List UInt8} {ts : List Tok} (h : tokE L = .ok ts) (hj : (joinL (txts ts)).length ≤ 8000) : ∃ us, tokE (joinL (txts ts)) = .ok us ∧ ts.map (keyT false) = us.map (keyT false) := by
  have hg : ∀ t ∈ ts, Good t := by
    unfold tokE at h
    split at h
    · cases h
    · exact tkE_good _ _ _ _ h
  have := joins_back ts hg ((joinL (txts ts)).length + 1) 0 (Nat.lt_succ_self _)
  obtain ⟨us, h1, h2⟩ := shape_ok this
  refine ⟨us, ?_, (key_shape h2).symm⟩
  unfold tokE
  rw [if_neg (by omega)]
  exact h1
theorem tok_errs (L : List UInt8) : (∃ ts, tokE L = .ok ts) ∨ (∃ a e, tokE L = .error (a, e) ∧ e ≠ 0 ∧ 0 ≤ a ∧ a ≤ L.length) := by
  have key : ∀ (f : Nat) (r : List UInt8) (at_ : Nat), (∃ ts, tkE f r at_ = .ok ts) ∨ (∃ a e, tkE f r at_ = .error (a, e) ∧ e ≠ 0 ∧ 0 ≤ a ∧ a ≤ at_ + r.length) := by
    intro f
    induction f with
    | zero => intro r at_; exact .inl ⟨_, rfl⟩
    | succ f ih =>
      intro r at_
      have hs := skipL_le r false
      simp only [tkE]
      by_cases h1 : r.drop (skipL false r) = []
      · rw [if_pos h1]; exact .inl ⟨_, rfl⟩
      · rw [if_neg h1]
        by_cases h2 : (nextL (r.drop (skipL false r))).1 = 0
        · rw [if_pos h2]; exact .inr ⟨_, _, rfl, by decide, by omega, by omega⟩
        · rw [if_neg h2]
          split
          · exact .inr ⟨_, _, rfl, by decide, by omega, by omega⟩
          · have hn := nextL_le (l := r.drop (skipL false r))
            rw [List.length_drop] at hn
            rcases ih ((r.drop (skipL false r)).drop (nextL (r.drop (skipL false r))).2) (at_ + skipL false r + (nextL (r.drop (skipL false r))).2) with ⟨ts, h⟩ | ⟨a, e, h, h3, h4, h5⟩
            · rw [h]; exact .inl ⟨_, rfl⟩
            · rw [h]
              rw [List.length_drop, List.length_drop] at h5
              exact .inr ⟨_, _, rfl, h3, h4, by omega⟩
  unfold tokE
  split
  · exact .inr ⟨_, _, rfl, by decide, by decide, by omega⟩
  · rcases key (L.length + 1) L 0 with h | ⟨a, e, h1, h2, h3, h4⟩
    · exact .inl h
    · exact .inr ⟨a, e, h1, h2, h3, by omega⟩
set_option maxHeartbeats 1000000 in
theorem lawJoins (s : ByteArray) (w : World) (hE : Env w) : Calls Tryd.prog 6 #[.string s] w fun e w' => e = .returned (.bool true) ∧ Below w.heap.size w w' := by
  obtain ⟨L, rfl⟩ : ∃ L : List UInt8, s = ⟨L.toArray⟩ := ⟨s.data.toList, by simp⟩
  by_cases hbig : 9000 < L.length
  · have hd : decide (9000 < (L.length : Int)) = true := by rw [decide_eq_true_eq]; omega
    go_enter Tryd.func6, Tryd.ntmps6
    go_wp2_with fail
    refine (awake_true _ hE).mono ?_
    rintro e w1 ⟨rfl, hb⟩
    go_wp2_with fail
    go_ret
    exact ⟨rfl, hb⟩
  · have hL : L.length ≤ 9000 := by omega
    have hd : decide (9000 < (L.length : Int)) = false := by rw [decide_eq_false_iff_not]; omega
    obtain ⟨hbd, hbt⟩ := tokE_bd L
    have hjl : Hid ((joinL (txts (trToks (tokE L)))).length ≤ 140737488355328) := by
      show _ ≤ _
      have h1 := joinL_le (M := 9000) (xs := txts (trToks (tokE L))) (by
        intro x hx
        obtain ⟨t, ht, rfl⟩ := List.mem_map.1 hx
        exact Nat.le_trans (hbt t ht) hL)
      have h2 : (txts (trToks (tokE L))).length ≤ 9000 := by unfold txts; rw [List.length_map]; omega
      have := Nat.mul_le_mul_right 9001 h2
      omega
    have HJS := Lib.hid (@joins_same L (trToks (tokE L)))
    have hte := tok_errs L
    have hj0 : joinL (txts []) = [] := rfl
    have HTE := Lib.hid hte
    clear hbig hbt hte hj0
    go_enter Tryd.func6, Tryd.ntmps6
    go_wp2_with fail
    refine (awake_true _ hE).mono ?_
    rintro e w1 ⟨rfl, hb1⟩
    go_wp2_with fail
    refine (tokens_any L _ (hE.after hb1) hL).mono ?_
    rintro e w2 ⟨v, rfl, hown, hb2⟩
    obtain ⟨A, c, rfl⟩ := own_slice hown
    have HO := Lib.hid (Reads.of_own hown)
    have hE2 := hE.after (below_two hb1 hb2)
    clear hown
    generalize hts : trToks (tokE L) = ts at *
    generalize hee : trErr (tokE L) = ee at *
    generalize trAt (tokE L) = aa at *
    have HTS := Lib.hid hts
    have HEE := Lib.hid hee
    clear hts hee
    go_wp2_with fail
    refine (join_any ts A ts.length c _ _ HO.out (Nat.le_refl _) (by omega) hjl.out).mono ?_
    rintro e w3 ⟨rfl, hb3⟩
    clear hjl
    have HB := Lib.hid (below_two (below_two hb1 hb2) hb3)
    have HO3 := Lib.hid (HO.out.low (Nat.le_refl _) (Nat.le_refl _) hb3)
    have hE3 := hE2.after hb3
    clear hb1 hb2
    cases h0 : (ee == 0)
    · have h0' : (ee != 0) = true := by rw [bne, h0]; rfl
      clear h0
      go_wp2_with fail
      go_ret
      exact ⟨rfl, HB.out⟩
    · have h0' : (ee != 0) = false := by rw [bne, h0]; rfl
      have hok : tokE L = .ok ts := by
        rcases HTE.out with ⟨us, h⟩ | ⟨a, e, h, he, _⟩
        · rw [h]; have := HTS.out; rw [h] at this; rw [← this]; rfl
        · exfalso
          have := HEE.out
          rw [h] at this
          rw [← this] at h0
          exact he (by simpa [trErr] using h0)
      have HOK := Lib.hid hok
      clear h0 hok
      generalize hJ : joinL (txts ts) = J at *
      by_cases h8 : 8000 < J.length
      · have h8d : decide (8000 < (J.length : Int)) = true := by rw [decide_eq_true_eq]; omega
        clear hJ
        go_wp2_with fail
        go_ret
        exact ⟨rfl, HB.out⟩
      · have h8d : decide (8000 < (J.length : Int)) = false := by rw [decide_eq_false_iff_not]; omega
        have hJ8 : J.length ≤ 8000 := by omega
        obtain ⟨us, hu1, hu2⟩ := HJS.out HOK.out hJ8
        have hbd2 := (tokE_bd J).1
        have HU2 := Lib.hid hu2
        clear hJ h8 hu2
        go_wp2_with fail
        refine (tokens_any J _ hE3 (by omega)).mono ?_
        rintro e w4 ⟨v4, rfl, hown4, hb4⟩
        rw [hu1] at hown4 hbd2 ⊢
        simp only [trToks] at hown4 hbd2
        clear hu1
        obtain ⟨A4, c4, rfl⟩ := own_slice hown4
        have HO4 := Lib.hid (Reads.of_own hown4)
        clear hown4
        simp only [trAt, trErr]
        go_wp2_with fail
        refine (from_any ts A ts.length c _ _ (HO3.out.low hb3.size (Nat.le_refl _) hb4) (by have := hb3.size; have := hb4.size; omega) (by omega)).mono ?_
        rintro e w5 ⟨v5, rfl, hown5, hb5⟩
        go_wp2_with fail
        refine (from_any us A4 us.length c4 _ _ (HO4.out.low (Nat.le_refl _) (Nat.le_refl _) hb5) hb5.size (by omega)).mono ?_
        rintro e w6 ⟨v6, rfl, hown6, hb6⟩
        have hown5' := own_below hown5 hb6
        obtain ⟨A5, c5, rfl⟩ := own_slice hown5'
        obtain ⟨A6, c6, rfl⟩ := own_slice hown6
        have HO5 := Lib.hid (Reads.of_own hown5')
        have HO6 := Lib.hid (Reads.of_own hown6)
        clear hown5 hown5' hown6
        go_wp2_with fail
        refine (same_yes ts us false _ _ _ _ _ _ _ _ _ HO5.out HO6.out (Nat.le_refl _) (Nat.le_refl _) (by omega) HU2.out).mono ?_
        rintro e w7 ⟨rfl, hb7⟩
        go_wp2_with fail
        go_ret
        exact ⟨rfl, below_two (below_two (below_two (below_two HB.out hb4) hb5) hb6) hb7⟩
end Go.Proofs.YtblpgdfjmkefkaaDoor
