/-
  What is skipped: token.blank and the reference's Skip.
-/
import Derived.Test.YtblpgdfjmkefkaaDoorTokW1
import Derived.Laws.RangeAny
import Derived.Laws.RangeString
import Derived.StillTactics
namespace Go.Proofs.YtblpgdfjmkefkaaDoor
open Go.RowKit
set_option linter.unusedVariables false
theorem get_mk (l : List UInt8) (i : Nat) (h : i < l.length) : (⟨l.toArray⟩ : ByteArray).get! i = l.getD i 0 := by
  show (l.toArray)[i]! = _
  rw [getElem!_pos _ _ (by simpa using h)]
  simp [List.getD, h]
/-- a rune beyond ASCII: its bytes all lie beyond ASCII -/
theorem decode_wide (l : List UInt8) (pos : Nat) (h : pos < l.length) (hb : 128 ≤ (l.getD pos 0).toNat) :
    128 ≤ (Utf8.decode ⟨l.toArray⟩ pos).1 ∧ 1 ≤ (Utf8.decode ⟨l.toArray⟩ pos).2 ∧ pos + (Utf8.decode ⟨l.toArray⟩ pos).2 ≤ l.length ∧ ∀ j, j < (Utf8.decode ⟨l.toArray⟩ pos).2 → 128 ≤ (l.getD (pos + j) 0).toNat := by
  have hsz : (⟨l.toArray⟩ : ByteArray).size = l.length := mk_size l
  have hp : pos < (⟨l.toArray⟩ : ByteArray).size := by rw [hsz]; exact h
  have hd := decode_high ⟨l.toArray⟩ pos hp (by rw [mk_getD]; exact hb)
  refine ⟨hd.1, hd.2, ?_⟩
  clear hd
  have c : ∀ k, (decide (pos + k < (⟨l.toArray⟩ : ByteArray).size) && ((⟨l.toArray⟩ : ByteArray).get! (pos + k)).toNat / 64 == 2) = true → pos + k < l.length ∧ 128 ≤ (l.getD (pos + k) 0).toNat := by
    intro k hk
    simp only [Bool.and_eq_true, decide_eq_true_eq, beq_iff_eq] at hk
    have h1 : pos + k < l.length := by have := hk.1; rwa [hsz] at this
    rw [get_mk _ _ h1] at hk
    exact ⟨h1, by omega⟩
  have one : ∀ j, j < 1 → 128 ≤ (l.getD (pos + j) 0).toNat := by
    intro j hj
    obtain rfl : j = 0 := by omega
    exact hb
  unfold Utf8.decode
  simp only []
  split
  · exact ⟨by simp; omega, one⟩
  · split
    · rename_i h2
      simp only [Bool.and_eq_true] at h2
      have c1 := c 1 (by simpa using h2.2)
      split
      · refine ⟨by simp; omega, fun j hj => ?_⟩
        obtain rfl | rfl : j = 0 ∨ j = 1 := by simp at hj; omega
        · exact hb
        · exact c1.2
      · exact ⟨by simp; omega, one⟩
    · split
      · rename_i h3
        simp only [Bool.and_eq_true] at h3
        have c1 := c 1 (by simpa using h3.1.2)
        have c2 := c 2 (by simpa using h3.2)
        split
        · refine ⟨by simp; omega, fun j hj => ?_⟩
          obtain rfl | rfl | rfl : j = 0 ∨ j = 1 ∨ j = 2 := by simp at hj; omega
          · exact hb
          · exact c1.2
          · exact c2.2
        · exact ⟨by simp; omega, one⟩
      · split
        · rename_i h4
          simp only [Bool.and_eq_true] at h4
          have c1 := c 1 (by simpa using h4.1.1.2)
          have c2 := c 2 (by simpa using h4.1.2)
          have c3 := c 3 (by simpa using h4.2)
          split
          · refine ⟨by simp; omega, fun j hj => ?_⟩
            obtain rfl | rfl | rfl | rfl : j = 0 ∨ j = 1 ∨ j = 2 ∨ j = 3 := by simp at hj; omega
            · exact hb
            · exact c1.2
            · exact c2.2
            · exact c3.2
          · exact ⟨by simp; omega, one⟩
        · exact ⟨by simp; omega, one⟩
theorem drop_getD {l : List UInt8} {k : Nat} (h : k < l.length) : l.drop k = l.getD k 0 :: l.drop (k + 1) := by
  rw [List.drop_eq_getElem_cons h]; simp [List.getD, h]
/-- a comment goes on over bytes that end no line -/
theorem skip_high (l : List UInt8) : ∀ (w pos : Nat), pos + w ≤ l.length → (∀ j, j < w → (l.getD (pos + j) 0 == 10) = false) → skipL true (l.drop pos) = w + skipL true (l.drop (pos + w)) := by
  intro w
  induction w with
  | zero => intro pos _ _; simp
  | succ w ih =>
    intro pos h hj
    have h0 := hj 0 (by omega)
    rw [Nat.add_zero] at h0
    have := ih (pos + 1) (by omega) (fun j hjw => by have := hj (j + 1) (by omega); rwa [show pos + (j + 1) = pos + 1 + j from by omega] at this)
    rw [drop_getD (by omega), skipL, h0]
    simp only [Bool.false_eq_true, if_false]
    rw [this, show pos + 1 + w = pos + (w + 1) from by omega]
    omega
theorem skip_one {l : List UInt8} {k : Nat} {b : UInt8} (h : k < l.length) (hb : l.getD k 0 = b) :
    skipL true (l.drop k) = (if b == 10 then skipL false (l.drop (k + 1)) else skipL true (l.drop (k + 1))) + 1 ∧
    skipL false (l.drop k) = (if b == 35 then skipL true (l.drop (k + 1)) + 1 else if isBl b then skipL false (l.drop (k + 1)) + 1 else 0) := by
  subst hb
  rw [drop_getD h]
  exact ⟨rfl, rfl⟩
/-- one step of a range over a string -/
theorem next_step (w : World) (l : List UInt8) (pos : Nat) (h : pos < l.length) : ∃ (r : Int) (wd : Nat),
    (∀ ty, (Instr.next (.pointer (some ⟨w.heap.size, 0, none⟩)) true ty).run Tryd.prog (w.iter ⟨l.toArray⟩ pos) = .ok (.tuple #[.bool true, .int .i64 pos, .int .i32 r]) (w.iter ⟨l.toArray⟩ (pos + wd))) ∧
    ((r = (l.getD pos 0).toNat ∧ r < 128 ∧ wd = 1) ∨ (128 ≤ r ∧ 1 ≤ wd ∧ pos + wd ≤ l.length ∧ ∀ j, j < wd → 128 ≤ (l.getD (pos + j) 0).toNat)) := by
  have hp : pos < (⟨l.toArray⟩ : ByteArray).size := by rw [mk_size]; exact h
  refine ⟨_, _, fun ty => run_next_any w ⟨l.toArray⟩ pos ty hp, ?_⟩
  by_cases hb : (l.getD pos 0).toNat < 128
  · have e := decode_ascii ⟨l.toArray⟩ pos hp (by rw [mk_getD]; exact hb)
    rw [e, mk_getD]
    exact .inl ⟨rfl, by omega, rfl⟩
  · obtain ⟨h1, h2, h3, h4⟩ := decode_wide l pos h (by omega)
    exact .inr ⟨by omega, h2, h3, h4⟩
theorem byte_of {b : UInt8} {k : Nat} (h : (b.toNat : Int) = k) : b = UInt8.ofNat k := by
  have : b.toNat = k := by omega
  rw [← this]; simp
theorem not_byte {b : UInt8} {k : Nat} (hk : k < 256) (h : ¬ (b.toNat : Int) = k) : (b == UInt8.ofNat k) = false := by
  rw [beq_eq_false_iff_ne]
  rintro rfl
  apply h
  simp [Nat.mod_eq_of_lt hk]
set_option maxHeartbeats 2000000 in
theorem blank_any (l : List UInt8) (w : World) (hl : l.length ≤ 9223372036854775806) :
    Calls Tryd.prog 20 #[.string ⟨l.toArray⟩] w fun e w' => e = .returned (.int .i64 (skipL false l)) ∧ Below w.heap.size w w' := by
  have hB : ∀ p, Below w.heap.size w (w.iter ⟨l.toArray⟩ p) := fun p => (Below.refl _ _).alloc (Nat.le_refl _) _
  have HB := Lib.hid hB
  clear hB
  go_enter Tryd.func20, Tryd.ntmps20
  go_wp2_with fail
  go_loopw [3] (fun c w' => ∃ (pos : Nat) (b : Bool), w' = w.iter ⟨l.toArray⟩ pos ∧ c = .bool b ∧ pos ≤ l.length ∧ skipL false l = pos + skipL b (l.drop pos)) (fun _ w' => l.length - w'.iterPos w.heap.size)
  case atStart => exact ⟨0, false, rfl, rfl, by omega, by simp⟩
  case round =>
    obtain ⟨pos, b, rfl, rfl, hle, hs⟩ := hrel
    have HS := Lib.hid hs
    clear hs
    by_cases hlt : pos < l.length
    · obtain ⟨r, wd, hnx, hr⟩ := next_step w l pos hlt
      by_cases h10 : r = 10
      · obtain ⟨e1, _, e2⟩ : r = (l.getD pos 0).toNat ∧ r < 128 ∧ wd = 1 := by
          rcases hr with h | h
          · exact h
          · omega
        subst h10
        subst e2
        have hb := byte_of (k := 10) e1.symm
        obtain ⟨s1, s2⟩ := skip_one hlt hb
        have F : Hid (skipL false l = pos + 1 + skipL false (l.drop (pos + 1))) := by
          show _ = _
          rw [HS.out]
          cases b
          · rw [s2]; simp [isBl]; omega
          · rw [s1]; simp; omega
        clear hr e1 hb s1 s2
        go_wp2_with fail
        go_roundw
        case rel => exact ⟨pos + 1, false, rfl, rfl, by omega, F.out⟩
        case measure => simp; omega
      · have d10 : (r == 10) = false := by rw [beq_eq_false_iff_ne]; exact h10
        have ds : wd ≤ 1 ∨ 1 ≤ wd := by omega
        cases b
        · by_cases h35 : r = 35
          · obtain ⟨e1, _, e2⟩ : r = (l.getD pos 0).toNat ∧ r < 128 ∧ wd = 1 := by
              rcases hr with h | h
              · exact h
              · omega
            subst h35
            subst e2
            have hb := byte_of (k := 35) e1.symm
            obtain ⟨s1, s2⟩ := skip_one hlt hb
            have F : Hid (skipL false l = pos + 1 + skipL true (l.drop (pos + 1))) := by
              show _ = _
              rw [HS.out, s2]; simp; omega
            clear hr e1 hb s1 s2 h10 d10
            go_wp2_with fail
            go_roundw
            case rel => exact ⟨pos + 1, true, rfl, rfl, by omega, F.out⟩
            case measure => simp; omega
          · have d35 : (r == 35) = false := by rw [beq_eq_false_iff_ne]; exact h35
            by_cases hbl : r = 32 ∨ r = 9 ∨ r = 13
            · obtain ⟨e1, _, e2⟩ : r = (l.getD pos 0).toNat ∧ r < 128 ∧ wd = 1 := by
                rcases hr with h | h
                · exact h
                · omega
              subst e2
              have hb : isBl (l.getD pos 0) = true ∧ (l.getD pos 0 == 35) = false := by
                rcases hbl with h | h | h
                · rw [byte_of (k := 32) (by omega : ((l.getD pos 0).toNat : Int) = (32 : Nat))]; decide
                · rw [byte_of (k := 9) (by omega : ((l.getD pos 0).toNat : Int) = (9 : Nat))]; decide
                · rw [byte_of (k := 13) (by omega : ((l.getD pos 0).toNat : Int) = (13 : Nat))]; decide
              obtain ⟨s1, s2⟩ := skip_one (b := l.getD pos 0) hlt rfl
              have F : Hid (skipL false l = pos + 1 + skipL false (l.drop (pos + 1))) := by
                show _ = _
                rw [HS.out, s2, hb.2, hb.1]; simp; omega
              clear hr e1 hb s1 s2
              rcases hbl with rfl | rfl | rfl
              all_goals
                clear h10 h35 d10 d35
                go_wp2_with fail
                go_roundw
                case rel => exact ⟨pos + 1, false, rfl, rfl, by omega, F.out⟩
                case measure => simp; omega
            · have d32 : (r == 32) = false := by rw [beq_eq_false_iff_ne]; omega
              have d9 : (r == 9) = false := by rw [beq_eq_false_iff_ne]; omega
              have d13 : (r == 13) = false := by rw [beq_eq_false_iff_ne]; omega
              have hb : isBl (l.getD pos 0) = false ∧ (l.getD pos 0 == 35) = false := by
                have hh : ¬ ((l.getD pos 0).toNat : Int) = (32 : Nat) ∧ ¬ ((l.getD pos 0).toNat : Int) = (9 : Nat) ∧ ¬ ((l.getD pos 0).toNat : Int) = (10 : Nat) ∧ ¬ ((l.getD pos 0).toNat : Int) = (13 : Nat) ∧ ¬ ((l.getD pos 0).toNat : Int) = (35 : Nat) := by
                  rcases hr with h | h
                  · omega
                  · have := h.2.2.2 0 (by omega)
                    rw [Nat.add_zero] at this
                    omega
                obtain ⟨g1, g2, g3, g4, g5⟩ := hh
                have q1 := not_byte (by omega) g1
                have q2 := not_byte (by omega) g2
                have q3 := not_byte (by omega) g3
                have q4 := not_byte (by omega) g4
                have q5 := not_byte (by omega) g5
                refine ⟨?_, q5⟩
                unfold isBl
                simp only [Bool.or_eq_false_iff]
                exact ⟨⟨⟨q1, q2⟩, q3⟩, q4⟩
              obtain ⟨s1, s2⟩ := skip_one (b := l.getD pos 0) hlt rfl
              have F : Hid (skipL false l = pos) := by
                show _ = _
                rw [HS.out, s2, hb.2, hb.1]; simp
              clear hr hb s1 s2 h10 h35 hbl ds
              go_wp2_with fail
              go_ret
              exact ⟨ret_int (by rw [F.out]), HB.out _⟩
        · have hw : pos + wd ≤ l.length ∧ 1 ≤ wd ∧ ∀ j, j < wd → (l.getD (pos + j) 0 == 10) = false := by
            rcases hr with ⟨e1, e2, rfl⟩ | ⟨e1, e2, e3, e4⟩
            · refine ⟨by omega, by omega, fun j hj => ?_⟩
              obtain rfl : j = 0 := by omega
              exact not_byte (k := 10) (by omega) (by rw [Nat.add_zero]; omega)
            · refine ⟨e3, e2, fun j hj => not_byte (k := 10) (by omega) ?_⟩
              have := e4 j hj
              omega
          obtain ⟨w1, w2, w3⟩ := hw
          have F : Hid (skipL false l = pos + wd + skipL true (l.drop (pos + wd))) := by
            show _ = _
            rw [HS.out, skip_high l wd pos w1 w3]; omega
          clear hr w3 h10 ds
          go_wp2_with fail
          go_roundw
          case rel => exact ⟨pos + wd, true, rfl, rfl, by omega, F.out⟩
          case measure => simp; omega
    · have hnx : ∀ ty, (Instr.next (.pointer (some ⟨w.heap.size, 0, none⟩)) true ty).run Tryd.prog (w.iter ⟨l.toArray⟩ pos) = _ := fun ty => run_next_end w ⟨l.toArray⟩ pos ty (by rw [mk_size]; exact hlt)
      have F : Hid (skipL false l = l.length) := by
        show _ = _
        have e : pos = l.length := by omega
        rw [HS.out, e, List.drop_length]
        cases b <;> rfl
      go_wp2_with fail
      go_ret
      exact ⟨ret_int (by rw [F.out]), HB.out _⟩
end Go.Proofs.YtblpgdfjmkefkaaDoor
