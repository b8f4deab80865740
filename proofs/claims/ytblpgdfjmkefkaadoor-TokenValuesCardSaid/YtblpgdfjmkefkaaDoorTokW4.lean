/-
  The token at the beginning of a text: token.next and the reference's.
-/
import Derived.Test.YtblpgdfjmkefkaaDoorTokW3
import Derived.Test.YtblpgdfjmkefkaaDoorShelf
import Derived.Deep.RegionWith
import Derived.Deep.DeepCutAuto
namespace Go.Proofs.YtblpgdfjmkefkaaDoor
open Go.RowKit
set_option linter.unusedVariables false
theorem nextL_eq {l : List UInt8} (h : 0 < l.length) : nextL l = if isLet (l.getD 0 0) then (1, runL isNam l) else if isDig (l.getD 0 0) then (2, runL isDig l) else if dbls.contains (l.take 2) then (3, 2) else if sgls.contains (l.getD 0 0) then (3, 1) else (0, 0) := by
  cases l with
  | nil => simp at h
  | cons c r => rfl
theorem ex_mk (l : List UInt8) (a b : Nat) : (⟨l.toArray⟩ : ByteArray).extract a b = ⟨((l.take b).drop a).toArray⟩ := by
  apply ByteArray.ext
  rw [ByteArray.data_extract]
  simp [List.extract_eq_drop_take']
def dblStr : ByteArray := ⟨#[46, 46, 32, 60, 61, 32, 62, 61, 32, 33, 61]⟩
theorem fieldsD (w : World) (hE : Env w) : Calls Tryd.prog 31 #[.string ⟨#[46, 46, 32, 60, 61, 32, 62, 61, 32, 33, 61]⟩] w fun e w' =>
    e = .returned (.slice (some ⟨w.heap.size, 0, none⟩) 4 4) ∧ w' = w.alloc (.cells (strs dbls).toArray 9) := by
  have h := Tryd.strings_Fields ⟨#[46, 46, 32, 60, 61, 32, 62, 61, 32, 33, 61]⟩ w (by decide) (by
    intro j b hb
    have hm : b ∈ ([46, 46, 32, 60, 61, 32, 62, 61, 32, 33, 61] : List UInt8) := List.mem_of_getElem? hb
    have ha : (([46, 46, 32, 60, 61, 32, 62, 61, 32, 33, 61] : List UInt8).all fun b => decide (b.toNat < 128)) = true := by decide
    have := List.all_eq_true.1 ha b hm
    simpa using this) hE.spc
  have e : Lib.fields (⟨#[46, 46, 32, 60, 61, 32, 62, 61, 32, 33, 61]⟩ : ByteArray).data.toList = dbls := by decide
  rw [e] at h
  exact h
theorem containsS_mk (x : List UInt8) : Lib.containsS ((dbls.map fun l => (⟨l.toArray⟩ : ByteArray)).take 4) ⟨x.toArray⟩ = dbls.contains x := by
  rw [Bool.eq_iff_iff, Lib.containsS_iff, List.contains_iff_mem]
  simp [dbls]
theorem containsD (x : List UInt8) (b : Nat) (w : World) (hb : w.heap[b]? = some (.cells (strs dbls).toArray 9 (0, 0))) :
    Calls Tryd.prog 30 #[.slice (some ⟨b, 0, none⟩) 4 4, .string ⟨x.toArray⟩] w fun e w' => e = .returned (.bool (dbls.contains x)) ∧ w' = w := by
  have h := Tryd.slices_Contains_string b 0 4 4 (dbls.map fun l => (⟨l.toArray⟩ : ByteArray)) ⟨x.toArray⟩ w (by decide) (by omega) (by
    intro j hj
    have hj4 : j < 4 := by simpa [dbls] using hj
    rw [Nat.zero_add, Blk.cell (w := w) (t := 9) hb j]
    obtain rfl | rfl | rfl | rfl : j = 0 ∨ j = 1 ∨ j = 2 ∨ j = 3 := by omega
    all_goals rfl)
  rw [containsS_mk] at h
  exact h
theorem indexByte_sgl (c : UInt8) : decide (0 ≤ Lib.indexByte (⟨#[123, 125, 40, 41, 44, 59, 61, 43, 45, 42, 60, 62]⟩ : ByteArray).data.toList c) = sgls.contains c := by
  have h : ∀ (l : List UInt8), decide (0 ≤ Lib.indexByte l c) = l.contains c := by
    intro l
    induction l with
    | nil => rfl
    | cons b r ih =>
      unfold Lib.indexByte
      have hg := Lib.indexByte_ge r c
      by_cases hb : b = c
      · subst hb; simp
      · have h1 : (b == c) = false := by simpa using hb
        have h2 : (c == b) = false := by rw [beq_eq_false_iff_ne]; exact fun h => hb h.symm
        rw [h1, List.contains_cons, h2, Bool.false_or, ← ih]
        simp only [Bool.false_eq_true, if_false]
        rw [Bool.eq_iff_iff, decide_eq_true_eq, decide_eq_true_eq]
        split
        · rename_i h3
          have := eq_of_beq h3
          omega
        · rename_i h3
          have : Lib.indexByte r c ≠ -1 := by simpa using h3
          omega
  exact h _
theorem containsX (l : List UInt8) (w0 : World) : Calls Tryd.prog 30 #[.slice (some ⟨w0.heap.size, 0, none⟩) 4 4, .string ((⟨l.toArray⟩ : ByteArray).extract 0 2)] (w0.alloc (.cells (strs dbls).toArray 9)).drew fun e w' => e = .returned (.bool (dbls.contains (l.take 2))) ∧ w' = (w0.alloc (.cells (strs dbls).toArray 9)).drew := by
  rw [ex_mk, List.drop_zero]
  exact containsD (l.take 2) w0.heap.size _ (Blk.new w0 _ _).drew
theorem idxS (c : UInt8) (w : World) : Calls Tryd.prog 32 #[.string ⟨#[123, 125, 40, 41, 44, 59, 61, 43, 45, 42, 60, 62]⟩, .int .u8 c.toNat] w fun e w' => (∃ n : Int, e = .returned (.int .i64 n) ∧ decide (0 ≤ n) = sgls.contains c) ∧ w = w' := by
  refine (Tryd.strings_IndexByte _ _ _).mono ?_
  rintro e wx ⟨rfl, rfl⟩
  refine ⟨⟨_, rfl, ?_⟩, rfl⟩
  have e : (c.toNat : Int).toNat.toUInt8 = c := by
    rw [Int.toNat_natCast]
    simp
  rw [e]
  exact indexByte_sgl c
theorem tup2 {a b c d : Int} (h : a = c) (h' : b = d) : Ending.returned (.tuple #[.int .i64 a, .int .i64 b]) = .returned (.tuple #[.int .i64 c, .int .i64 d]) := by rw [h, h']
theorem next_end (l : List UInt8) (h0 : 0 < l.length) (h1 : isLet (l.getD 0 0) = false) (h2 : isDig (l.getD 0 0) = false) : nextL l = if dbls.contains (l.take 2) then (3, 2) else if sgls.contains (l.getD 0 0) then (3, 1) else (0, 0) := by
  rw [nextL_eq h0, h1, h2]; rfl
set_option maxHeartbeats 1000000 in
theorem next_any (l : List UInt8) (w : World) (hE : Env w) (h0 : 0 < l.length) (hl : l.length ≤ 9000) :
    Calls Tryd.prog 21 #[.string ⟨l.toArray⟩] w fun e w' => e = .returned (.tuple #[.int .i64 (nextL l).1, .int .i64 (nextL l).2]) ∧ Below w.heap.size w w' := by
  have hsz : 0 < (⟨l.toArray⟩ : ByteArray).size := by rw [mk_size]; exact h0
  have q1 := lowI_mk l 0 hsz
  have q2 := digI_mk l 0 hsz
  have HG := Lib.hid (mk_getD l 0 hsz)
  generalize hN : nextL l = N
  have HN := Lib.hid hN
  clear hN
  cases h1 : isLet (l.getD 0 0)
  · cases h2 : isDig (l.getD 0 0)
    · rw [h1] at q1
      rw [h2] at q2
      have HE := Lib.hid (next_end l h0 h1 h2)
      clear h1 h2
      go_enter Tryd.func21, Tryd.ntmps21
      go_wp2_with fail
      refine (letter_any _ _).mono ?_
      rintro e wx ⟨rfl, rfl⟩
      rw [q1]
      go_wp2_with fail
      refine (digit_any _ _).mono ?_
      rintro e wx ⟨rfl, rfl⟩
      rw [q2]
      go_wp2_with fail
      by_cases hlt : 1 < l.length
      · have hd : decide (1 < (l.length : Int)) = true := by rw [decide_eq_true_eq]; omega
        have hlt2 : 2 ≤ l.length := hlt
        cases h3 : dbls.contains (l.take 2)
        · have H3 := Lib.hid h3
          clear h3
          cases h4 : sgls.contains (l.getD 0 0)
          all_goals
            have H4 := Lib.hid h4
            clear h4
            go_region_with (first
              | (go_at_call 31; refine (fieldsD _ hE.drew).mono ?_; rintro e w1 ⟨rfl, rfl⟩)
              | (go_at_call 30; refine (containsX l w).mono ?_; rintro e w1 ⟨rfl, rfl⟩; rw [H3.out]))
            all_goals
              go_wp2_with fail
              refine (idxS _ _).mono ?_
              rintro e wx ⟨⟨n, rfl, hn⟩, rfl⟩
              rw [HG.out, H4.out] at hn
              go_wp2_with fail
              go_ret2
              exact ⟨tup2 (by rw [← HN.out, HE.out, H3.out, H4.out]; rfl) (by rw [← HN.out, HE.out, H3.out, H4.out]; rfl), ((Below.refl _ _).alloc (Nat.le_refl _) _).drew⟩
        · have H3 := Lib.hid h3
          clear h3
          go_region_with (first
            | (go_at_call 31; refine (fieldsD _ hE.drew).mono ?_; rintro e w1 ⟨rfl, rfl⟩)
            | (go_at_call 30; refine (containsX l w).mono ?_; rintro e w1 ⟨rfl, rfl⟩; rw [H3.out]))
          all_goals
            go_wp2_with fail
            go_ret2
            exact ⟨tup2 (by rw [← HN.out, HE.out, H3.out]; rfl) (by rw [← HN.out, HE.out, H3.out]; rfl), ((Below.refl _ _).alloc (Nat.le_refl _) _).drew⟩
      · have hd : decide (1 < (l.length : Int)) = false := by rw [decide_eq_false_iff_not]; omega
        have hd' : decide (1 < l.length) = false := by rw [decide_eq_false_iff_not]; omega
        have H3 : Hid (dbls.contains (l.take 2) = false) := by
          show _ = _
          rw [List.take_of_length_le (by omega)]
          match l, h0, hlt with
          | [c], _, _ => simp [dbls]
          | c :: d :: r, _, h => exact absurd (show 1 < (c :: d :: r).length by simp) h
        cases h4 : sgls.contains (l.getD 0 0)
        all_goals
          have H4 := Lib.hid h4
          clear h4
          go_quiet (fail)
          go_wp2_with fail
          refine (idxS _ _).mono ?_
          rintro e wx ⟨⟨n, rfl, hn⟩, rfl⟩
          rw [HG.out, H4.out] at hn
          go_wp2_with fail
          go_ret2
          exact ⟨tup2 (by rw [← HN.out, HE.out, H3.out, H4.out]; rfl) (by rw [← HN.out, HE.out, H3.out, H4.out]; rfl), below_drewN (Below.refl _ _) _⟩
    · rw [h2] at q2
      rw [h1] at q1
      have HE : Hid (N = (2, runL isDig l)) := by
        show _ = _
        rw [← HN.out, nextL_eq h0, h1, h2]; rfl
      clear h1 h2
      go_enter Tryd.func21, Tryd.ntmps21
      go_wp2_with fail
      refine (letter_any _ _).mono ?_
      rintro e wx ⟨rfl, rfl⟩
      rw [q1]
      go_wp2_with fail
      refine (digit_any _ _).mono ?_
      rintro e wx ⟨rfl, rfl⟩
      rw [q2]
      go_wp2_with fail
      refine (run_any _ isDig enter_digit (fun b w => (digit_any _ w).mono (by rintro e wx ⟨rfl, rfl⟩; exact ⟨by rw [digI_of], rfl⟩)) l _ (by omega)).mono ?_
      rintro e wx ⟨rfl, rfl⟩
      go_wp2_with fail
      go_ret2
      exact ⟨tup2 (by rw [HE.out]) (by rw [HE.out]), Below.refl _ _⟩
  · rw [h1] at q1
    have HE : Hid (N = (1, runL isNam l)) := by
      show _ = _
      rw [← HN.out, nextL_eq h0, h1]; rfl
    clear h1
    go_enter Tryd.func21, Tryd.ntmps21
    go_wp2_with fail
    refine (letter_any _ _).mono ?_
    rintro e wx ⟨rfl, rfl⟩
    rw [q1]
    go_wp2_with fail
    refine (run_any _ isNam enter_nam (fun b w => (nam_any _ w).mono (by rintro e wx ⟨rfl, rfl⟩; exact ⟨by rw [namI_of], rfl⟩)) l _ (by omega)).mono ?_
    rintro e wx ⟨rfl, rfl⟩
    go_wp2_with fail
    go_ret2
    exact ⟨tup2 (by rw [HE.out]) (by rw [HE.out]), Below.refl _ _⟩
end Go.Proofs.YtblpgdfjmkefkaaDoor
