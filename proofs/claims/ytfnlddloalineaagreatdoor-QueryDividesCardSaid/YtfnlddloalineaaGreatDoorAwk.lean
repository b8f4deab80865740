/-
  awake(): the program answers as the example of the document says.
-/
import Derived.Test.YtfnlddloalineaaGreatDoorQryA0
namespace Go.Proofs.YtfnlddloalineaaGreatDoor
open Go.RowKit
set_option linter.unusedVariables false
set_option maxRecDepth 100000
def exS : Wd := [115, 117, 109, 32, 98, 121, 32, 97, 99, 99, 111, 117, 110, 116, 44, 101, 110, 116, 105, 116, 121, 32, 119, 104, 101, 114, 101, 32, 101, 110, 116, 105, 116, 121, 32, 61, 32, 49, 32, 97, 110, 100, 32, 100, 97, 116, 101, 32, 62, 61, 32, 50, 48, 50, 54, 45, 48, 49, 45, 48, 49, 32, 97, 110, 100, 32, 107, 105, 110, 100, 32, 33, 61, 32, 114, 117, 108, 101]
def exQ : SQry := ⟨0, [0, 1], [⟨1, 0, 1⟩, ⟨4, 5, 20454⟩, ⟨3, 1, 10⟩]⟩
theorem ex_read : qryR (piecesL 32 exS) = .ok exQ := by kernel_rfl
theorem ex_date : datT 20454 = ymdT 2026 1 1 := by
  have h : dayN 2026 1 1 = 20454 := by kernel_rfl
  rw [← h]
  exact datT_of (by kernel_rfl)
theorem ex_one : Lib.itoa 1 = [49] := by
  have h := Lib.itoa_nonneg 1
  rw [Lib.decDigits_one (by omega)] at h
  exact h
theorem ex_print : prT exQ = exS := by
  have h1 : valT ⟨1, 0, 1⟩ = [49] := by unfold valT; rw [if_neg (by decide), if_neg (by decide)]; exact ex_one
  have h2 : valT ⟨4, 5, 20454⟩ = ymdT 2026 1 1 := by unfold valT; rw [if_neg (by decide), if_pos rfl]; exact ex_date
  have h3 : valT ⟨3, 1, 10⟩ = kdL.getD 10 [] := by unfold valT; rw [if_pos rfl]; rfl
  unfold prT
  simp only [exQ, whP, cW, List.flatMap_cons, List.flatMap_nil, List.cons_append, List.nil_append, List.append_nil]
  rw [h1, h2, h3]
  generalize hz : ymdT 2026 1 1 = z
  have hz2 : z = [50, 48, 50, 54, 45, 48, 49, 45, 48, 49] := by rw [← hz]; decide
  subst hz2
  decide
theorem ex_ok : OkQ exQ := by
  refine ⟨by decide, by decide, by decide, ?_, ?_, ?_⟩
  · intro k hk
    have hk : k < 2 := hk
    rcases k with _ | _ | k
    · exact ⟨by decide, by decide⟩
    · exact ⟨by decide, by decide⟩
    · omega
  · intro k hk
    have hk : k < 2 := hk
    rcases k with _ | _ | k
    · rfl
    · rfl
    · omega
  · intro x hx
    have hx : x = ⟨1, 0, 1⟩ ∨ x = ⟨4, 5, 20454⟩ ∨ x = ⟨3, 1, 10⟩ := by simpa [exQ] using hx
    rcases hx with rfl | rfl | rfl
    · exact ⟨by decide, by decide, by decide, by decide, fun h => absurd h (by decide), fun h => absurd h (by decide), fun _ _ => ⟨by decide, by decide⟩⟩
    · exact ⟨by decide, by decide, by decide, by decide, fun h => absurd h (by decide), fun _ => rfl, fun _ h => absurd rfl h⟩
    · exact ⟨by decide, by decide, by decide, by decide, fun _ => ⟨by decide, by decide, by decide⟩, fun h => absurd h (by decide), fun h => absurd rfl h⟩
theorem own_capQ {w : World} {base size n c : Nat} {e : TypeId} {A : Option Addr} {xs : List Value} (h : w.ownsRow base e size (.slice A n c) n xs) : n ≤ c := by
  obtain ⟨_, h⟩ := h
  rcases h with ⟨h1, h2⟩ | ⟨g, cap, cur, h1, _, _, h2, _⟩
  · omega
  · injection h1 with _ _ hc
    omega
def exB : Wd := [115, 117, 109, 32, 98, 121]
theorem ex_bad : qryR (piecesL 32 exB) = .error ([], 3) := by kernel_rfl
set_option maxHeartbeats 4000000 in
theorem awake_true (w : World) (hE : Env w) (hEE : EnvE w) : Calls Tryz.prog 11 #[] w fun e w' => e = .returned (.bool true) ∧ Below w.heap.size w w' := by
  have HP1 : Hid (Calls Tryz.prog 12 #[.string ⟨exS.toArray⟩] w fun e w1 => ∃ vb vw, e = .returned (.tuple #[.agg #[.int .i64 0, vb, vw], .int .i64 0, .int .i64 0]) ∧ w1.ownsRow w.heap.size 3 1 vb 2 (exQ.by_.map intV) ∧ w1.ownsRow w.heap.size 95 3 vw 3 (cndC exQ.wh) ∧ Below w.heap.size w w1) := by
    show Calls _ _ _ _ _
    refine (parse_any exS w hE hEE (by decide)).mono fun e w1 h => ?_
    unfold ParSays at h
    rw [ex_read] at h
    exact h
  have HPB : Hid (∀ w, Env w → EnvE w → Calls Tryz.prog 12 #[.string ⟨exB.toArray⟩] w fun e w1 => e = .returned (.tuple #[.agg #[.int .i64 0, .slice none 0 0, .slice none 0 0], .int .i64 6, .int .i64 3]) ∧ Below w.heap.size w w1) := by
    intro w hE hEE
    refine (parse_any exB w hE hEE (by decide)).mono fun e w1 h => ?_
    unfold ParSays at h
    rw [ex_bad] at h
    exact h
  have HES := Lib.hid hE.size
  have HEB : Hid (∀ w_, Below w.heap.size w w_ → Env w_) := fun w_ h => hE.after h
  have HEEB : Hid (∀ w_, Below w.heap.size w w_ → EnvE w_) := fun w_ h => hEE.below h hE.size
  have HPR : Hid (∀ (Ab Aw : Option Addr) (cb cw : Nat) (w1 : World), Env w1 → w1.ownsRow w.heap.size 3 1 (.slice Ab 2 cb) 2 (exQ.by_.map intV) → w1.ownsRow w.heap.size 95 3 (.slice Aw 3 cw) 3 (cndC exQ.wh) → Calls Tryz.prog 17 #[.agg #[.int .i64 0, .slice Ab 2 cb, .slice Aw 3 cw]] w1 fun e w' => e = .returned (.tuple #[.string ⟨exS.toArray⟩, .int .i64 0]) ∧ Below w1.heap.size w1 w') := by
    intro Ab Aw cb cw w1 h1 h2 h3
    have h := print_yes exQ Ab Aw 2 3 cb cw w1.heap.size w1 h1 ex_ok (RdBy.of_own h2) rfl (own_capQ h2) (Reads.of_own h3) (Nat.le_refl _) (by decide) (by rw [ex_print]; decide) (by decide)
    rw [ex_print] at h
    exact h
  clear hE hEE
  go_enter Tryz.func11, Tryz.ntmps11
  go_wp2_with fail
  refine HP1.out.mono ?_
  rintro e w1 ⟨vb, vw, rfl, hob, how, hb1⟩
  obtain ⟨Ab, cb, rfl⟩ := own_slice hob
  obtain ⟨Aw, cw, rfl⟩ := own_slice how
  have hb2 := hb1.alloc hb1.size (.cells (#[.int .i64 0, .slice Ab 2 cb, .slice Aw 3 cw] : Array Value) 26)
  have HPR2 := Lib.hid (HPR.out Ab Aw cb cw _ (HEB.out _ hb2) (hob.alloc _) (how.alloc _))
  have HB2 := Lib.hid hb2
  clear hb1 hob how hb2
  go_wp2_with fail
  refine HPR2.out.mono ?_
  rintro e w3 ⟨rfl, hb3⟩
  have HB3 := Lib.hid (below_two HB2.out hb3)
  clear hb3
  go_wp2_with fail
  refine (HPB.out _ (HEB.out _ HB3.out) (HEEB.out _ HB3.out)).mono ?_
  rintro e w4 ⟨rfl, hb4⟩
  have HB4 := Lib.hid (below_two HB3.out hb4)
  have HB5 := Lib.hid (HB4.out.alloc HB4.out.size (.cells (#[.int .i64 0, .slice none 0 0, .slice none 0 0] : Array Value) 26))
  clear hb4
  go_wp2_with fail
  · go_ret
    exact ⟨rfl, HB5.out⟩
end Go.Proofs.YtfnlddloalineaaGreatDoor
