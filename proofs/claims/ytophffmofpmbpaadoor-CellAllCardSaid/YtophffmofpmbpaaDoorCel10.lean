/-
  cell.All.
-/
import Derived.Test.YtophffmofpmbpaaDoorCel9
import Derived.Test.YtophffmofpmbpaaDoorOwn2
namespace Go.Proofs.YtophffmofpmbpaaDoor
open Go.RowKit
set_option linter.unusedVariables false
/-- how many values a field runs through -/
def upI (u : Bool) (m : Int) : Int := if u then min m 12 else 1
set_option maxRecDepth 100000 in
theorem up_any (u : Bool) (m : Int) (G : Nat) (w : World) (hc : w.cell? ⟨G, 0, none⟩ = some (.int .i64 m)) :
    Calls Tryd.prog 41 #[.bool u, .pointer (some ⟨G, 0, none⟩)] w fun e w' => e = .returned (.int .i64 (upI u m)) ∧ w = w' := by
  cases u
  · go_enter Tryd.func41, Tryd.ntmps41
    go_wp2_with fail
    go_ret
    exact ⟨rfl, rfl⟩
  · go_enter Tryd.func41, Tryd.ntmps41
    go_wp2_with fail
    go_ret
    exact ⟨by simp [upI], rfl⟩
theorem upI_bd (u : Bool) (m : Int) : upI u m ≤ 12 := by
  unfold upI
  split <;> omega
/-- the cells of a list, one after another -/
def cellsL (cs : List SCell) : List Value := cs.flatMap fun c => [.int .i64 c.st, .int .i64 c.en, .int .i64 c.ot, .int .i64 c.pe]
theorem cellsL_app (xs ys : List SCell) : cellsL (xs ++ ys) = cellsL xs ++ cellsL ys := List.flatMap_append
theorem cellsL_one (c : SCell) : cellsL [c] = [.int .i64 c.st, .int .i64 c.en, .int .i64 c.ot, .int .i64 c.pe] := rfl
theorem cellsL_len (cs : List SCell) : (cellsL cs).length = cs.length * 4 := by
  induction cs with
  | nil => rfl
  | cons c r ih =>
    show ([_, _, _, _] ++ cellsL r).length = _
    rw [List.length_append, ih]
    simp only [List.length_cons, List.length_nil]
    omega
/-- the cells of one entry, of the first n others -/
def rowA (s p e : Int) (n : Nat) : List SCell := ((List.range n).map fun (o : Nat) => ofC s e o p).filter validC
/-- the cells of the first n entries -/
def allA (s p : Int) (q n : Nat) : List SCell := (List.range n).flatMap fun (e : Nat) => rowA s p e q
def allC (s m p : Int) : List SCell := allA s p (upI (uO s) m).toNat (upI (uE s) m).toNat
theorem rowA_yes {s p e : Int} {n : Nat} (h : validC (ofC s e n p) = true) : rowA s p e (n + 1) = rowA s p e n ++ [ofC s e n p] := by
  unfold rowA
  rw [List.range_succ, List.map_append, List.filter_append]
  simp [h]
theorem rowA_no {s p e : Int} {n : Nat} (h : validC (ofC s e n p) = false) : rowA s p e (n + 1) = rowA s p e n := by
  unfold rowA
  rw [List.range_succ, List.map_append, List.filter_append]
  simp [h]
theorem allA_step (s p : Int) (q n : Nat) : allA s p q (n + 1) = allA s p q n ++ rowA s p n q := by
  unfold allA
  rw [List.range_succ, List.flatMap_append]
  simp
theorem rowA_len (s p e : Int) (n : Nat) : (rowA s p e n).length ≤ n := by
  unfold rowA
  exact Nat.le_trans (List.length_filter_le _ _) (by simp)
theorem allA_len (s p : Int) (q : Nat) : ∀ n, (allA s p q n).length ≤ n * q := by
  intro n
  induction n with
  | zero => simp [allA]
  | succ n ih =>
    rw [allA_step, List.length_append]
    have := rowA_len s p n q
    rw [Nat.succ_mul]
    omega
theorem allA_room (s p : Int) {q n : Nat} (hq : q ≤ 12) (hn : n ≤ 12) : (allA s p q n).length ≤ 144 := by
  have h := allA_len s p q n
  have : n * q ≤ 12 * 12 := Nat.mul_le_mul hn hq
  omega
end Go.Proofs.YtophffmofpmbpaaDoor
