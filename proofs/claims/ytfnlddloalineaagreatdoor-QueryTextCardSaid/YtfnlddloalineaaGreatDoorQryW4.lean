/-
  The program's reader: name, word.
-/
import Derived.Test.YtfnlddloalineaaGreatDoorQryW3
namespace Go.Proofs.YtfnlddloalineaaGreatDoor
open Go.RowKit
set_option linter.unusedVariables false
theorem mk_inj {a b : List UInt8} (h : (⟨a.toArray⟩ : ByteArray) = ⟨b.toArray⟩) : a = b := by
  injection h with h
  simpa using h
theorem idxS_from (L : List (List UInt8)) (x : List UInt8) : ∀ i : Nat, Lib.idxFromS (L.map fun l => (⟨l.toArray⟩ : ByteArray)) ⟨x.toArray⟩ i = if idxW L x < 0 then -1 else (i : Int) + idxW L x := by
  induction L with
  | nil => intro i; simp [Lib.idxFromS, idxW]
  | cons y L ih =>
    intro i
    rw [idxW_cons, List.map_cons, Lib.idxFromS]
    by_cases h : y = x
    · subst h
      simp
    · have h1 : ¬ (⟨y.toArray⟩ : ByteArray) = ⟨x.toArray⟩ := fun e => h (mk_inj e)
      have h2 : (y == x) = false := by rw [beq_eq_false_iff_ne]; exact h
      rw [ih, h2]
      have hb := idxW_bd L x
      simp only [h1, if_false, Bool.false_eq_true]
      by_cases h3 : idxW L x < 0
      · simp [h3]
      · rw [if_neg h3, if_neg h3, if_neg (by omega)]
        omega
theorem idxS_eq (L : List (List UInt8)) (x : List UInt8) : Lib.idxOfS (L.map fun l => (⟨l.toArray⟩ : ByteArray)) ⟨x.toArray⟩ = idxW L x := by
  unfold Lib.idxOfS
  rw [idxS_from]
  have hb := idxW_bd L x
  split
  · omega
  · omega
set_option maxRecDepth 100000 in
set_option maxHeartbeats 1000000 in
theorem name_none (ps : List Int) (len : Int) (B R : Nat) (w : World) (v : Value) (wrong : Int) (h : Rdr w B R [] ps len) :
    Calls Tryz.prog 70 #[.pointer (some ⟨R, 0, none⟩), v, .int .i64 wrong] w fun e w' => e = .returned (.tuple #[.int .i64 0, .int .i64 3]) ∧ w = w' := by
  have HM := Lib.hid (more_any [] ps len B R w h)
  rw [show decide (0 < ([] : List (List UInt8)).length) = false from rfl] at HM
  clear h
  go_enter Tryz.func70, Tryz.ntmps70
  go_wp2_with fail
  refine HM.out.mono ?_
  rintro e wx ⟨rfl, rfl⟩
  go_wp2_with fail
  go_ret2
  exact ⟨rfl, rfl⟩
theorem index_any (L : List (List UInt8)) (x : List UInt8) (G n c : Nat) (w : World) (hk : ∀ j, j < L.length → w.cell? ⟨G, j, none⟩ = some (.string ⟨(L.getD j []).toArray⟩)) (hn : n ≤ L.length) (hl : L.length ≤ 1000) :
    Calls Tryz.prog 97 #[.slice (some ⟨G, 0, none⟩) n c, .string ⟨x.toArray⟩] w fun e w' => e = .returned (.int .i64 (idxW (L.take n) x)) ∧ w' = w := by
  have h := Tryz.slices_Index_string G 0 n c (L.map fun l => (⟨l.toArray⟩ : ByteArray)) ⟨x.toArray⟩ w (by simpa using hn) (by omega) (fun j hj => by
    have hj' : j < L.length := by simpa using hj
    rw [Nat.zero_add, hk j hj']
    simp [List.getD, hj'])
  rw [← List.map_take, idxS_eq] at h
  exact h
set_option maxRecDepth 100000 in
set_option maxHeartbeats 1000000 in
theorem name_bad (x : List UInt8) (ws : List (List UInt8)) (ps : List Int) (len : Int) (B R : Nat) (w : World) (L : List (List UInt8)) (G n c : Nat) (wrong : Int) (h : Rdr w B R (x :: ws) ps len)
    (hk : ∀ j, j < L.length → w.cell? ⟨G, j, none⟩ = some (.string ⟨(L.getD j []).toArray⟩)) (hn : n ≤ L.length) (hl : L.length ≤ 1000) (hx : idxW (L.take n) x < 0) :
    Calls Tryz.prog 70 #[.pointer (some ⟨R, 0, none⟩), .slice (some ⟨G, 0, none⟩) n c, .int .i64 wrong] w fun e w' => e = .returned (.tuple #[.int .i64 0, .int .i64 wrong]) ∧ w = w' := by
  have HM := Lib.hid (more_any (x :: ws) ps len B R w h)
  rw [show decide (0 < (x :: ws).length) = true by simp] at HM
  have HN := Lib.hid (next_any x ws ps len B R w h)
  have HI := Lib.hid (index_any L x G n c w hk hn hl)
  have z1 : decide (idxW (L.take n) x < 0) = true := by rw [decide_eq_true_eq]; exact hx
  generalize idxW (L.take n) x = i at *
  clear h hk hx
  go_enter Tryz.func70, Tryz.ntmps70
  go_wp2_with fail
  refine HM.out.mono ?_
  rintro e wx ⟨rfl, rfl⟩
  go_wp2_with fail
  refine HN.out.mono ?_
  rintro e wx ⟨rfl, rfl⟩
  go_wp2_with fail
  refine HI.out.mono ?_
  rintro e wx ⟨rfl, rfl⟩
  go_wp2_with fail
  go_ret2
  exact ⟨rfl, rfl⟩
def NameSays (B R : Nat) (ws : List (List UInt8)) (ps : List Int) (len i : Int) (w : World) (e : Ending) (w' : World) : Prop := e = .returned (.tuple #[.int .i64 i, .int .i64 0]) ∧ Rdr w' B R ws ps len ∧ w.grownBy w' (some R)
set_option maxRecDepth 100000 in
set_option maxHeartbeats 1000000 in
theorem name_ok (x : List UInt8) (ws : List (List UInt8)) (p : Int) (ps : List Int) (len : Int) (B R : Nat) (w : World) (L : List (List UInt8)) (G n c : Nat) (wrong : Int) (h : Rdr w B R (x :: ws) (p :: ps) len)
    (hk : ∀ j, j < L.length → w.cell? ⟨G, j, none⟩ = some (.string ⟨(L.getD j []).toArray⟩)) (hn : n ≤ L.length) (hl : L.length ≤ 1000) (hx : ¬ idxW (L.take n) x < 0) :
    Calls Tryz.prog 70 #[.pointer (some ⟨R, 0, none⟩), .slice (some ⟨G, 0, none⟩) n c, .int .i64 wrong] w (NameSays B R ws ps len (idxW (L.take n) x) w) := by
  have HM := Lib.hid (more_any (x :: ws) (p :: ps) len B R w h)
  rw [show decide (0 < (x :: ws).length) = true by simp] at HM
  have HN := Lib.hid (next_any x ws (p :: ps) len B R w h)
  have HI := Lib.hid (index_any L x G n c w hk hn hl)
  have HT := Lib.hid (take_any x ws p ps len B R w h)
  have z1 : decide (idxW (L.take n) x < 0) = false := by rw [decide_eq_false_iff_not]; exact hx
  generalize idxW (L.take n) x = i at *
  clear h hk hx
  go_enter Tryz.func70, Tryz.ntmps70
  go_wp2_with fail
  refine HM.out.mono ?_
  rintro e wx ⟨rfl, rfl⟩
  go_wp2_with fail
  refine HN.out.mono ?_
  rintro e wx ⟨rfl, rfl⟩
  go_wp2_with fail
  refine HI.out.mono ?_
  rintro e wx ⟨rfl, rfl⟩
  go_wp2_with fail
  refine HT.out.mono ?_
  rintro e w2 ⟨⟨v, rfl⟩, hr, hg⟩
  have HR := Lib.hid hr
  have HG := Lib.hid hg
  clear hr hg
  go_wp2_with fail
  go_ret2
  exact ⟨rfl, HR.out, HG.out⟩
/-- word: the next word is the one that is asked for -/
theorem word_yes (x : List UInt8) (ws : List (List UInt8)) (p : Int) (ps : List Int) (len : Int) (B R : Nat) (w : World) (h : Rdr w B R (x :: ws) (p :: ps) len) :
    Calls Tryz.prog 71 #[.pointer (some ⟨R, 0, none⟩), .string ⟨x.toArray⟩] w fun e w' => e = .returned (.bool true) ∧ Rdr w' B R ws ps len ∧ w.grownBy w' (some R) := by
  have HM := Lib.hid (more_any (x :: ws) (p :: ps) len B R w h)
  rw [show decide (0 < (x :: ws).length) = true by simp] at HM
  have HN := Lib.hid (next_any x ws (p :: ps) len B R w h)
  have HT := Lib.hid (take_any x ws p ps len B R w h)
  have q1 : (x == x) = true := by simp
  have q2 : (x != x) = false := by simp
  clear h
  go_enter Tryz.func71, Tryz.ntmps71
  go_wp2_with fail
  refine HM.out.mono ?_
  rintro e wx ⟨rfl, rfl⟩
  go_wp2_with fail
  refine HN.out.mono ?_
  rintro e wx ⟨rfl, rfl⟩
  go_wp2_with fail
  refine HT.out.mono ?_
  rintro e w2 ⟨⟨v, rfl⟩, hr, hg⟩
  have HR := Lib.hid hr
  have HG := Lib.hid hg
  clear hr hg
  go_wp2_with fail
  go_ret
  exact ⟨rfl, HR.out, HG.out⟩
theorem word_no (x y : List UInt8) (ws : List (List UInt8)) (ps : List Int) (len : Int) (B R : Nat) (w : World) (h : Rdr w B R (x :: ws) ps len) (hxy : x ≠ y) :
    Calls Tryz.prog 71 #[.pointer (some ⟨R, 0, none⟩), .string ⟨y.toArray⟩] w fun e w' => e = .returned (.bool false) ∧ w = w' := by
  have HM := Lib.hid (more_any (x :: ws) ps len B R w h)
  rw [show decide (0 < (x :: ws).length) = true by simp] at HM
  have HN := Lib.hid (next_any x ws ps len B R w h)
  have q1 : (x == y) = false := by rw [beq_eq_false_iff_ne]; exact hxy
  have q2 : (x != y) = true := by rw [bne, q1]; rfl
  clear h hxy
  go_enter Tryz.func71, Tryz.ntmps71
  go_wp2_with fail
  refine HM.out.mono ?_
  rintro e wx ⟨rfl, rfl⟩
  go_wp2_with fail
  refine HN.out.mono ?_
  rintro e wx ⟨rfl, rfl⟩
  go_wp2_with fail
  go_ret
  exact ⟨rfl, rfl⟩
theorem word_none (y : List UInt8) (ps : List Int) (len : Int) (B R : Nat) (w : World) (h : Rdr w B R [] ps len) :
    Calls Tryz.prog 71 #[.pointer (some ⟨R, 0, none⟩), .string ⟨y.toArray⟩] w fun e w' => e = .returned (.bool false) ∧ w = w' := by
  have HM := Lib.hid (more_any [] ps len B R w h)
  rw [show decide (0 < ([] : List (List UInt8)).length) = false from rfl] at HM
  clear h
  go_enter Tryz.func71, Tryz.ntmps71
  go_wp2_with fail
  refine HM.out.mono ?_
  rintro e wx ⟨rfl, rfl⟩
  go_wp2_with fail
  go_ret
  exact ⟨rfl, rfl⟩
end Go.Proofs.YtfnlddloalineaaGreatDoor
