/-
  The law TokenPlaces.
-/
import Derived.Test.YtblpgdfjmkefkaaDoorTokW15
import Derived.IntWalk
namespace Go.Proofs.YtblpgdfjmkefkaaDoor
open Go.RowKit
set_option linter.unusedVariables false
/-- where the token with number k ends; 0 ahead of the first -/
def endAt (ts : List Tok) : Nat → Nat
  | 0 => 0
  | k + 1 => match ts[k]? with
    | some t => t.from_.toNat + t.text.length
    | none => 0
theorem placed_at {l : List UInt8} : ∀ {ts : List Tok} {e : Nat}, placed l e ts → e ≤ l.length → ∀ k, k < ts.length →
    ∃ (t : Tok) (b : Nat), ts[k]? = some t ∧ (k = 0 → b = e) ∧ (∀ j, k = j + 1 → ∃ u, ts[j]? = some u ∧ b = u.from_.toNat + u.text.length) ∧ b ≤ l.length ∧ t.from_ = ((b + skipL false (l.drop b) : Nat) : Int) ∧ 0 < t.text.length ∧
      b + skipL false (l.drop b) + t.text.length ≤ l.length ∧ (l.drop (b + skipL false (l.drop b))).take t.text.length = t.text := by
  intro ts
  induction ts with
  | nil => intro e _ _ k hk; simp at hk
  | cons t r ih =>
    intro e h he k hk
    obtain ⟨h1, h2, h3, h4, h5⟩ := h
    cases k with
    | zero => exact ⟨t, e, rfl, fun _ => rfl, (by intro j hj; omega), he, h1, h2, h3, h4⟩
    | succ k =>
      obtain ⟨t', b, g1, g2, g3, g4, g5, g6, g7, g8⟩ := ih h5 h3 k (by simpa using hk)
      refine ⟨t', b, by simpa using g1, (by intro h; omega), ?_, g4, g5, g6, g7, g8⟩
      intro j hj
      obtain rfl : j = k := by omega
      cases j with
      | zero => exact ⟨t, rfl, by rw [g2 rfl, h1, Int.toNat_natCast]⟩
      | succ j =>
        obtain ⟨u, hu, hb⟩ := g3 j rfl
        exact ⟨u, by simpa using hu, hb⟩
theorem placed_end {l : List UInt8} : ∀ {ts : List Tok} {e : Nat}, placed l e ts → e ≤ l.length → (ts = [] → e + skipL false (l.drop e) = l.length) ∧ (∀ j u, ts.length = j + 1 → ts[j]? = some u → u.from_.toNat + u.text.length + skipL false (l.drop (u.from_.toNat + u.text.length)) = l.length ∧ u.from_.toNat + u.text.length ≤ l.length) := by
  intro ts
  induction ts with
  | nil => intro e h _; exact ⟨fun _ => h, by intro j u hj; simp at hj⟩
  | cons t r ih =>
    intro e h he
    obtain ⟨h1, h2, h3, h4, h5⟩ := h
    refine ⟨(by intro h; cases h), fun j u hj hu => ?_⟩
    have i := ih h5 h3
    cases r with
    | nil =>
      obtain rfl : j = 0 := by simpa using hj.symm
      obtain rfl : t = u := by simpa using hu
      have := i.1 rfl
      have e1 : t.from_.toNat + t.text.length = e + skipL false (l.drop e) + t.text.length := by rw [h1, Int.toNat_natCast]
      rw [e1]
      exact ⟨this, h3⟩
    | cons t2 r2 =>
      cases j with
      | zero => simp at hj
      | succ j => exact i.2 j u (by simpa using hj) (by simpa using hu)
theorem endAt_step {L : List UInt8} {ts : List Tok} (h : placed L 0 ts) {k : Nat} (hk : k < ts.length) :
    endAt ts k ≤ L.length ∧ (ts.getD k ⟨0, [], 0⟩).from_ = ((endAt ts k + skipL false (L.drop (endAt ts k)) : Nat) : Int) ∧ 0 < (ts.getD k ⟨0, [], 0⟩).text.length ∧
      endAt ts k + skipL false (L.drop (endAt ts k)) + (ts.getD k ⟨0, [], 0⟩).text.length ≤ L.length ∧ (L.drop (endAt ts k + skipL false (L.drop (endAt ts k)))).take (ts.getD k ⟨0, [], 0⟩).text.length = (ts.getD k ⟨0, [], 0⟩).text ∧
      endAt ts (k + 1) = endAt ts k + skipL false (L.drop (endAt ts k)) + (ts.getD k ⟨0, [], 0⟩).text.length := by
  obtain ⟨t, b, g1, g2, g3, g4, g5, g6, g7, g8⟩ := placed_at h (by omega) k hk
  have hb : endAt ts k = b := by
    cases k with
    | zero => rw [g2 rfl]; rfl
    | succ k =>
      obtain ⟨u, hu, hb⟩ := g3 k rfl
      rw [hb]; simp only [endAt, hu]
  have ht : ts.getD k ⟨0, [], 0⟩ = t := by simp [List.getD, g1]
  rw [hb, ht]
  exact ⟨g4, g5, g6, g7, g8, by simp only [endAt, g1, g5, Int.toNat_natCast]⟩
theorem endAt_last {L : List UInt8} {ts : List Tok} (h : placed L 0 ts) : endAt ts ts.length + skipL false (L.drop (endAt ts ts.length)) = L.length ∧ endAt ts ts.length ≤ L.length := by
  obtain ⟨g1, g2⟩ := placed_end h (by omega)
  cases hl : ts.length with
  | zero =>
    have := g1 (List.eq_nil_of_length_eq_zero hl)
    exact ⟨this, by simp [endAt]⟩
  | succ j =>
    have hj : j < ts.length := by omega
    have hu : ts[j]? = some ts[j] := List.getElem?_eq_getElem hj
    have := g2 j _ hl hu
    simp only [endAt, hu]
    exact this
set_option maxRecDepth 100000 in
set_option maxHeartbeats 4000000 in
theorem lawPlaces (s : ByteArray) (w : World) (hE : Env w) : Calls Tryd.prog 4 #[.string s] w fun e w' => e = .returned (.bool true) ∧ Below w.heap.size w w' := by
  obtain ⟨L, rfl⟩ : ∃ L : List UInt8, s = ⟨L.toArray⟩ := ⟨s.data.toList, by simp⟩
  by_cases hbig : 9000 < L.length
  · have hd : decide (9000 < (L.length : Int)) = true := by rw [decide_eq_true_eq]; omega
    go_enter Tryd.func4, Tryd.ntmps4
    go_wp2_with fail
    refine (awake_true _ hE).mono ?_
    rintro e w1 ⟨rfl, hb⟩
    go_wp2_with fail
    go_ret
    exact ⟨rfl, hb⟩
  · have hL : L.length ≤ 9000 := by omega
    have hd : decide (9000 < (L.length : Int)) = false := by rw [decide_eq_false_iff_not]; omega
    obtain ⟨hbd, _⟩ := tokE_bd L
    have hte := tok_errs L
    have HTE := Lib.hid hte
    clear hbig hte
    go_enter Tryd.func4, Tryd.ntmps4
    go_wp2_with fail
    refine (awake_true _ hE).mono ?_
    rintro e w1 ⟨rfl, hb1⟩
    go_wp2_with fail
    refine (tokens_any L _ (hE.after hb1) hL).mono ?_
    rintro e w2 ⟨v, rfl, hown, hb2⟩
    have HB := Lib.hid (below_two hb1 hb2)
    clear hb1 hb2
    rcases HTE.out with ⟨ts, hok⟩ | ⟨a, ee, her, he0, ha0, ha1⟩
    · rw [hok] at hown hbd ⊢
      simp only [trToks, trAt, trErr] at hown hbd ⊢
      have hpl := tokE_placed hok
      have HST := Lib.hid (fun k (hk : k < ts.length) => endAt_step hpl hk)
      have HLA := Lib.hid (endAt_last hpl)
      clear hok HTE hpl
      obtain ⟨A, c, rfl⟩ := own_slice hown
      have HO := Lib.hid (Reads.of_own hown)
      clear hown
      generalize hn : ts.length = n at *
      have HN := Lib.hid hn
      clear hn
      go_wp2_with fail
      go_loopw [6, 37] (fun v i wr => ∃ k : Nat, k ≤ n ∧ i = .int .i64 k ∧ v = .int .i64 (endAt ts k) ∧ Below w2.heap.size w2 wr) (fun _ i _ => n - (intOf i).toNat)
      case atStart => exact ⟨0, by omega, rfl, rfl, Below.refl _ _⟩
      case round =>
        obtain ⟨k, hk, rfl, rfl, hbr⟩ := hrel
        obtain ⟨wo, rfl⟩ : ∃ wo : World, wo = wr := ⟨_, rfl⟩
        by_cases hlt : k < n
        · obtain ⟨ad, rfl, hbk, c0, c1, c2⟩ := (HO.out.low (Nat.le_refl _) (Nat.le_refl _) hbr).tok_at hlt
          obtain ⟨s1, s2, s3, s4, s5, s6⟩ := HST.out k hlt
          generalize ts.getD k ⟨0, [], 0⟩ = t at *
          generalize endAt ts k = b at *
          rw [s2] at c2
          have hsk : ∀ W : World, Calls Tryd.prog 13 #[.string ⟨L.toArray⟩, .int .i64 b] W fun e w' => e = .returned (.int .i64 ((b + skipL false (L.drop b) : Nat) : Int)) ∧ w' = W := fun W => (refSkip_any L b W s1 (by omega)).mono (by rintro e wx ⟨rfl, rfl⟩; exact ⟨rfl, rfl⟩)
          generalize hp : b + skipL false (L.drop b) = p at *
          have hbp : b ≤ p := by omega
          have S5 := Lib.hid s5
          have S6 := Lib.hid s6
          have HSK := Lib.hid hsk
          have d1 : decide ((p : Int) < (b : Int)) = false := by rw [decide_eq_false_iff_not]; omega
          have d1' : decide (p < b) = false := by rw [decide_eq_false_iff_not]; omega
          have d2 : ((t.text.length : Int) == 0) = false := by rw [beq_eq_false_iff_ne]; omega
          have d3 : decide ((L.length : Int) < (p : Int) + (t.text.length : Int)) = false := by rw [decide_eq_false_iff_not]; omega
          have d3' : decide (L.length < p + t.text.length) = false := by rw [decide_eq_false_iff_not]; omega
          have d4 : ((p : Int) != (p : Int)) = false := by simp
          have dw : IntKind.i64.wrap ((p : Int) + (t.text.length : Int)) = (p : Int) + (t.text.length : Int) := IntWalk.i64_in _ (by omega)
          have dn : (0 : Int) ≤ (p : Int) + (t.text.length : Int) := by omega
          have dt : ((p : Int) + (t.text.length : Int)).toNat = p + t.text.length := by omega
          have dl1 : (p : Int) ≤ (p : Int) + (t.text.length : Int) := by omega
          have dl2 : (p : Int) + (t.text.length : Int) ≤ (L.length : Int) := by omega
          have dq : (((⟨L.toArray⟩ : ByteArray).extract p (p + t.text.length)).toList == t.text) = true := by rw [ex_piece, S5.out]; simp
          clear s2 s5 s6 hp hsk
          go_wp2_with fail
          go_quiet ((go_at_call 13; exact Calls.quiet_of_same (HSK.out _)))
          clear d1 d1' d2 d3 d3' d4 dn dt dq dl1
          go_wp2_with fail
          exact ⟨⟨k + 1, by omega, by go_num, by rw [S6.out]; go_num, by repeat (first | exact hbr.alloc hbr.size _ | apply below_drewN)⟩, by simp [intOf]; omega⟩
        · have e : k = n := by omega
          have hla := HLA.out
          rw [← e] at hla
          obtain ⟨l1, l2⟩ := hla
          have HL1 := Lib.hid l1
          clear l1 e
          go_wp2_with fail
          refine (refSkip_any L (endAt ts k) _ l2 (by omega)).mono ?_
          rintro e wx ⟨rfl, rfl⟩
          rw [HL1.out]
          go_wp2_with fail
          go_ret
          exact ⟨by simp, below_two HB.out hbr⟩
    · rw [her] at hown hbd ⊢
      simp only [trToks, trAt, trErr] at hown hbd ⊢
      obtain ⟨A, c, rfl⟩ := own_slice hown
      clear hown her HTE
      have hne : (ee != 0) = true := by rw [bne_iff_ne]; exact he0
      clear he0
      go_wp2_with fail
      go_ret
      exact ⟨rfl, HB.out⟩
end Go.Proofs.YtblpgdfjmkefkaaDoor
