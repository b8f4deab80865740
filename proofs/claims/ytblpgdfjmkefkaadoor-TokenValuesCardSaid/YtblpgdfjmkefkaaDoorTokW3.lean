/-
  The reference's Skip and In.
-/
import Derived.Test.YtblpgdfjmkefkaaDoorTokW2
import Derived.Test.YtblpgdfjmkefkaaDoorMem
namespace Go.Proofs.YtblpgdfjmkefkaaDoor
open Go.RowKit
set_option linter.unusedVariables false
theorem beq_byte (b : UInt8) (c : Nat) (z : Int) (hz : z = c) (hc : c < 256) : ((b.toNat : Int) == z) = (b == UInt8.ofNat c) := by
  subst hz
  rw [Bool.eq_iff_iff, beq_iff_eq, beq_iff_eq]
  constructor
  · exact byte_of
  · rintro rfl; simp [Nat.mod_eq_of_lt hc]
theorem bne_byte (b : UInt8) (c : Nat) (z : Int) (hz : z = c) (hc : c < 256) : ((b.toNat : Int) != z) = !(b == UInt8.ofNat c) := by
  rw [bne, beq_byte b c z hz hc]
set_option maxHeartbeats 2000000 in
theorem refSkip_any (l : List UInt8) (a : Nat) (w : World) (ha : a ≤ l.length) (hl : l.length ≤ 9223372036854775806) :
    Calls Tryd.prog 13 #[.string ⟨l.toArray⟩, .int .i64 a] w fun e w' => e = .returned (.int .i64 ((a + skipL false (l.drop a) : Nat) : Int)) ∧ w = w' := by
  generalize hT : a + skipL false (l.drop a) = T
  have HT := Lib.hid hT
  clear hT
  go_enter Tryd.func13, Tryd.ntmps13
  go_wp2_with fail
  go_loop [1] (fun i => ∃ k : Nat, k ≤ l.length ∧ i = .int .i64 k ∧ k + skipL false (l.drop k) = T) (fun i => l.length - (intOf i).toNat)
  case atStart => exact ⟨a, ha, rfl, HT.out⟩
  case round =>
    clear HT ha
    obtain ⟨k, hk, rfl, hs⟩ := hrel
    have HS := Lib.hid hs
    clear hs
    by_cases hlt : k < l.length
    · have hsz : k < (⟨l.toArray⟩ : ByteArray).size := by rw [mk_size]; exact hlt
      have t35 : (((⟨l.toArray⟩ : ByteArray)[k].toNat : Int) == 35) = (l.getD k 0 == 35) := by rw [mk_getD]; exact beq_byte _ 35 _ rfl (by omega)
      obtain ⟨s1, s2⟩ := skip_one (b := l.getD k 0) hlt rfl
      cases h35 : (l.getD k 0 == 35)
      · rw [h35] at t35
        have t32 : (((⟨l.toArray⟩ : ByteArray)[k].toNat : Int) == 32) = (l.getD k 0 == 32) := by rw [mk_getD]; exact beq_byte _ 32 _ rfl (by omega)
        have t9 : (((⟨l.toArray⟩ : ByteArray)[k].toNat : Int) == 9) = (l.getD k 0 == 9) := by rw [mk_getD]; exact beq_byte _ 9 _ rfl (by omega)
        have t10 : (((⟨l.toArray⟩ : ByteArray)[k].toNat : Int) == 10) = (l.getD k 0 == 10) := by rw [mk_getD]; exact beq_byte _ 10 _ rfl (by omega)
        have t13 : (((⟨l.toArray⟩ : ByteArray)[k].toNat : Int) == 13) = (l.getD k 0 == 13) := by rw [mk_getD]; exact beq_byte _ 13 _ rfl (by omega)
        rw [h35] at s2
        cases hb : isBl (l.getD k 0)
        · have hb' := hb
          unfold isBl at hb
          simp only [Bool.or_eq_false_iff] at hb
          rw [hb.1.1.1] at t32
          rw [hb.1.1.2] at t9
          rw [hb.1.2] at t10
          rw [hb.2] at t13
          have F : Hid (T = k) := by
            show _ = _
            rw [← HS.out, s2, hb']; simp
          clear hb hb' s1 s2 h35
          go_wp2_with fail
          go_ret
          exact ⟨ret_int (by rw [F.out]), rfl⟩
        · have F : Hid (k + 1 + skipL false (l.drop (k + 1)) = T) := by
            show _ = _
            rw [← HS.out, s2, hb]; simp; omega
          cases h32 : (l.getD k 0 == 32)
          · rw [h32] at t32
            cases h9 : (l.getD k 0 == 9)
            · rw [h9] at t9
              cases h10 : (l.getD k 0 == 10)
              · rw [h10] at t10
                have h13 : (l.getD k 0 == 13) = true := by unfold isBl at hb; rw [h32, h9, h10] at hb; simpa using hb
                rw [h13] at t13
                clear hb s1 s2 h35 h32 h9 h10 h13
                go_wp2_with fail
                go_round
                case rel => exact ⟨k + 1, by omega, by go_num, F.out⟩
                case measure => simp [intOf]; omega
              · rw [h10] at t10
                clear hb s1 s2 h35 h32 h9 h10 t13
                go_wp2_with fail
                go_round
                case rel => exact ⟨k + 1, by omega, by go_num, F.out⟩
                case measure => simp [intOf]; omega
            · rw [h9] at t9
              clear hb s1 s2 h35 h32 h9 t13 t10
              go_wp2_with fail
              go_round
              case rel => exact ⟨k + 1, by omega, by go_num, F.out⟩
              case measure => simp [intOf]; omega
          · rw [h32] at t32
            clear hb s1 s2 h35 h32 t13 t10 t9
            go_wp2_with fail
            go_round
            case rel => exact ⟨k + 1, by omega, by go_num, F.out⟩
            case measure => simp [intOf]; omega
      · rw [h35] at t35
        have F : Hid (k + skipL true (l.drop k) = T) := by
          show _ = _
          have e10 : (l.getD k 0 == 10) = false := by
            rw [beq_iff_eq] at h35
            rw [h35]; rfl
          rw [← HS.out, s2, h35, s1, e10]; simp
        have H35 := Lib.hid h35
        clear s1 s2 h35
        go_wp2_with fail
        clear t35
        go_loop [1] (fun i => ∃ q : Nat, k ≤ q ∧ q ≤ l.length ∧ i = .int .i64 q ∧ q + skipL true (l.drop q) = T) (fun i => l.length - (intOf i).toNat)
        case atStart => exact ⟨k, by omega, by omega, rfl, F.out⟩
        case round =>
          clear F HS
          obtain ⟨q, hq, hql, rfl, hs⟩ := hrel
          have HS := Lib.hid hs
          clear hs
          by_cases hqt : q < l.length
          · have hsz2 : q < (⟨l.toArray⟩ : ByteArray).size := by rw [mk_size]; exact hqt
            have t10 : (((⟨l.toArray⟩ : ByteArray)[q].toNat : Int) != 10) = !(l.getD q 0 == 10) := by rw [mk_getD]; exact bne_byte _ 10 _ rfl (by omega)
            obtain ⟨s1, s2⟩ := skip_one (b := l.getD q 0) hqt rfl
            cases h10 : (l.getD q 0 == 10)
            · rw [h10] at t10
              have F : Hid (q + 1 + skipL true (l.drop (q + 1)) = T) := by
                show _ = _
                rw [← HS.out, s1, h10]; simp; omega
              clear s1 s2 h10
              go_wp2_with fail
              go_round
              case rel => exact ⟨q + 1, by omega, by omega, by go_num, F.out⟩
              case measure => simp [intOf]; omega
            · rw [h10] at t10
              have F : Hid (q + skipL false (l.drop q) = T) := by
                show _ = _
                have e35 : (l.getD q 0 == 35) = false := by
                  rw [beq_iff_eq] at h10
                  rw [h10]; rfl
                have eb : isBl (l.getD q 0) = true := by
                  rw [beq_iff_eq] at h10
                  rw [h10]; rfl
                rw [← HS.out, s1, s2, h10, e35, eb]; simp
              have hne : k < q := by
                rcases Nat.lt_or_ge k q with h | h
                · exact h
                · have e : q = k := by omega
                  have h35 := H35.out
                  rw [beq_iff_eq] at h10 h35
                  rw [e, h35] at h10
                  exact absurd h10 (by decide)
              clear s1 s2 h10
              go_wp2_with fail
              go_round
              case rel => exact ⟨q, by omega, rfl, F.out⟩
              case measure => simp [intOf]; omega
          · have e : q = l.length := by omega
            have F : Hid (q + skipL false (l.drop q) = T) := by
              show _ = _
              rw [← HS.out, e, List.drop_length]; rfl
            clear e
            go_wp2_with fail
            go_round
            case rel => exact ⟨q, by omega, rfl, F.out⟩
            case measure => simp [intOf]; omega
    · have F : Hid (T = l.length) := by
        show _ = _
        have e : k = l.length := by omega
        rw [← HS.out, e, List.drop_length]; rfl
      go_wp2_with fail
      go_ret
      exact ⟨ret_int (by rw [F.out]; omega), rfl⟩
def strs (xs : List (List UInt8)) : List Value := xs.map fun x => .string ⟨x.toArray⟩
theorem strs_at {w : World} {B n k : Nat} {A : Option Addr} {xs : List (List UInt8)} (h : Reads w B 1 A n (strs xs)) (hk : k < n) :
    ∃ ad, A = some ad ∧ ad.block < B ∧ w.cell? (ad.add k) = some (.string ⟨(xs.getD k []).toArray⟩) := by
  obtain ⟨ad, u, rfl, hb, hx, hc⟩ := h.at_ hk
  refine ⟨ad, rfl, hb, hc.trans ?_⟩
  unfold strs at hx
  rw [List.getElem?_map] at hx
  cases hz : xs[k]? with
  | none => rw [hz] at hx; cases hx
  | some z =>
    rw [hz] at hx
    simp at hx
    rw [← hx]; simp [List.getD, hz]
theorem strs_len {w : World} {B n : Nat} {A : Option Addr} {xs : List (List UInt8)} (h : Reads w B 1 A n (strs xs)) : xs.length = n := by
  have := h.1
  simpa [strs] using this
def inL (xs : List (List UInt8)) (s : List UInt8) : Bool := xs.contains s
theorem inL_take {xs : List (List UInt8)} {k : Nat} {s : List UInt8} (hk : k < xs.length) (h : inL (xs.take k) s = false) (hx : (xs.getD k [] == s) = false) : inL (xs.take (k + 1)) s = false := by
  unfold inL at *
  rw [List.take_succ_eq_append_getElem hk, List.contains_eq_any_beq, List.any_append, ← List.contains_eq_any_beq, h]
  have e : xs.getD k [] = xs[k] := by simp [List.getD, hk]
  rw [e] at hx
  simp only [List.any_cons, List.any_nil, Bool.or_false, Bool.false_or]
  rw [beq_eq_false_iff_ne] at hx ⊢
  exact fun h => hx h.symm
theorem inL_yes {xs : List (List UInt8)} {k : Nat} {s : List UInt8} (hk : k < xs.length) (hx : xs.getD k [] = s) : inL xs s = true := by
  unfold inL
  have e : xs.getD k [] = xs[k] := by simp [List.getD, hk]
  rw [e] at hx
  rw [List.contains_iff_mem, ← hx]
  exact List.getElem_mem hk
theorem refIn_any (xs : List (List UInt8)) (A : Option Addr) (n c B : Nat) (s : List UInt8) (w : World) (hr : Reads w B 1 A n (strs xs)) (hn : n ≤ 9223372036854775806) :
    Calls Tryd.prog 27 #[.slice A n c, .string ⟨s.toArray⟩] w fun e w' => e = .returned (.bool (inL xs s)) ∧ w = w' := by
  have HR := Lib.hid hr
  have HL := Lib.hid (strs_len hr)
  clear hr
  go_enter Tryd.func27, Tryd.ntmps27
  go_wp2_with fail
  go_loop [5] (fun i => ∃ k : Nat, k ≤ n ∧ i = .int .i64 k ∧ inL (xs.take k) s = false) (fun i => n - (intOf i).toNat)
  case atStart => exact ⟨0, by omega, rfl, rfl⟩
  case round =>
    obtain ⟨k, hk, rfl, hs⟩ := hrel
    have HS := Lib.hid hs
    clear hs
    by_cases hlt : k < n
    · obtain ⟨ad, rfl, _, hcell⟩ := strs_at HR.out hlt
      generalize hx : xs.getD k [] = x at *
      have HX := Lib.hid hx
      clear hx
      cases he : (x == s)
      · have F := Lib.hid (inL_take (by rw [HL.out]; exact hlt) HS.out (by rw [HX.out]; exact he))
        go_wp2_with fail
        go_round
        case rel => exact ⟨k + 1, by omega, by go_num, F.out⟩
        case measure => simp [intOf]; omega
      · have F := Lib.hid (inL_yes (xs := xs) (k := k) (s := s) (by rw [HL.out]; exact hlt) (by rw [HX.out]; exact eq_of_beq he))
        go_wp2_with fail
        go_ret
        exact ⟨ret_bool F.out.symm, rfl⟩
    · have F : Hid (inL xs s = false) := by
        show _ = _
        have e : k = n := by omega
        have := HS.out
        rwa [List.take_of_length_le (by rw [HL.out]; omega)] at this
      go_wp2_with fail
      go_ret
      exact ⟨ret_bool F.out.symm, rfl⟩
end Go.Proofs.YtblpgdfjmkefkaaDoor
