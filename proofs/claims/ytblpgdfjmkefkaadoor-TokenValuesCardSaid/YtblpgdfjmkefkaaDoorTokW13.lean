/-
  Keywords; the example that every law checks first.
-/
import Derived.Test.YtblpgdfjmkefkaaDoorTokW12
namespace Go.Proofs.YtblpgdfjmkefkaaDoor
open Go.RowKit
set_option linter.unusedVariables false
def kws : List (List UInt8) := [[114, 117, 108, 101], [101, 97, 99, 104], [101, 110, 116, 105, 116, 121], [112, 97, 105, 114], [108, 101, 116], [114, 101, 113, 117, 105, 114, 101], [112, 111, 115, 116], [116, 111], [112, 101, 114], [97, 110, 100], [111, 114], [110, 111, 116], [109, 105, 110], [109, 97, 120], [97, 98, 115], [98, 97, 108, 97, 110, 99, 101], [112, 97, 114, 116, 110, 101, 114], [115, 104, 97, 114, 101]]
theorem refKeyword_any (s : List UInt8) (w : World) : Calls Tryd.prog 18 #[.string ⟨s.toArray⟩] w fun e w' => e = .returned (.bool (inL kws s)) ∧ Below w.heap.size w w' := by
  have hrd : Calls Tryd.prog 27 #[.slice (some ⟨w.heap.size, 0, none⟩) 18 18, .string ⟨s.toArray⟩] (w.alloc (.cells #[Value.string { data := #[114, 117, 108, 101] }, Value.string { data := #[101, 97, 99, 104] }, Value.string { data := #[101, 110, 116, 105, 116, 121] }, Value.string { data := #[112, 97, 105, 114] }, Value.string { data := #[108, 101, 116] }, Value.string { data := #[114, 101, 113, 117, 105, 114, 101] }, Value.string { data := #[112, 111, 115, 116] }, Value.string { data := #[116, 111] }, Value.string { data := #[112, 101, 114] }, Value.string { data := #[97, 110, 100] }, Value.string { data := #[111, 114] }, Value.string { data := #[110, 111, 116] }, Value.string { data := #[109, 105, 110] }, Value.string { data := #[109, 97, 120] }, Value.string { data := #[97, 98, 115] }, Value.string { data := #[98, 97, 108, 97, 110, 99, 101] }, Value.string { data := #[112, 97, 114, 116, 110, 101, 114] }, Value.string { data := #[115, 104, 97, 114, 101] }] 9)) fun e w' => e = .returned (.bool (inL kws s)) ∧ w.alloc (.cells #[Value.string { data := #[114, 117, 108, 101] }, Value.string { data := #[101, 97, 99, 104] }, Value.string { data := #[101, 110, 116, 105, 116, 121] }, Value.string { data := #[112, 97, 105, 114] }, Value.string { data := #[108, 101, 116] }, Value.string { data := #[114, 101, 113, 117, 105, 114, 101] }, Value.string { data := #[112, 111, 115, 116] }, Value.string { data := #[116, 111] }, Value.string { data := #[112, 101, 114] }, Value.string { data := #[97, 110, 100] }, Value.string { data := #[111, 114] }, Value.string { data := #[110, 111, 116] }, Value.string { data := #[109, 105, 110] }, Value.string { data := #[109, 97, 120] }, Value.string { data := #[97, 98, 115] }, Value.string { data := #[98, 97, 108, 97, 110, 99, 101] }, Value.string { data := #[112, 97, 114, 116, 110, 101, 114] }, Value.string { data := #[115, 104, 97, 114, 101] }] 9) = w' :=
    refIn_any kws _ 18 18 _ s _ (reads_lit w #[Value.string { data := #[114, 117, 108, 101] }, Value.string { data := #[101, 97, 99, 104] }, Value.string { data := #[101, 110, 116, 105, 116, 121] }, Value.string { data := #[112, 97, 105, 114] }, Value.string { data := #[108, 101, 116] }, Value.string { data := #[114, 101, 113, 117, 105, 114, 101] }, Value.string { data := #[112, 111, 115, 116] }, Value.string { data := #[116, 111] }, Value.string { data := #[112, 101, 114] }, Value.string { data := #[97, 110, 100] }, Value.string { data := #[111, 114] }, Value.string { data := #[110, 111, 116] }, Value.string { data := #[109, 105, 110] }, Value.string { data := #[109, 97, 120] }, Value.string { data := #[97, 98, 115] }, Value.string { data := #[98, 97, 108, 97, 110, 99, 101] }, Value.string { data := #[112, 97, 114, 116, 110, 101, 114] }, Value.string { data := #[115, 104, 97, 114, 101] }] 9) (by omega)
  have HRD := Lib.hid hrd
  clear hrd
  generalize inL kws s = b at *
  go_enter Tryd.func18, Tryd.ntmps18
  go_wp2_with fail
  refine HRD.out.mono ?_
  rintro e wx ⟨rfl, rfl⟩
  go_wp2_with fail
  go_ret
  exact ⟨rfl, (Below.refl _ _).alloc (Nat.le_refl _) _⟩
theorem kws_cases {s : List UInt8} (h : inL kws s = true) : s = [114, 117, 108, 101] ∨ s = [101, 97, 99, 104] ∨ s = [101, 110, 116, 105, 116, 121] ∨ s = [112, 97, 105, 114] ∨ s = [108, 101, 116] ∨ s = [114, 101, 113, 117, 105, 114, 101] ∨ s = [112, 111, 115, 116] ∨ s = [116, 111] ∨ s = [112, 101, 114] ∨ s = [97, 110, 100] ∨ s = [111, 114] ∨ s = [110, 111, 116] ∨ s = [109, 105, 110] ∨ s = [109, 97, 120] ∨ s = [97, 98, 115] ∨ s = [98, 97, 108, 97, 110, 99, 101] ∨ s = [112, 97, 114, 116, 110, 101, 114] ∨ s = [115, 104, 97, 114, 101] := by
  unfold inL kws at h
  rw [List.contains_iff_mem] at h
  simpa using h
set_option maxHeartbeats 4000000 in
theorem keyword_any (s : List UInt8) (w : World) : Calls Tryd.prog 17 #[.string ⟨s.toArray⟩] w fun e w' => e = .returned (.bool (inL kws s)) ∧ w = w' := by
  cases h : inL kws s
  · have hne : ∀ x ∈ kws, (s == x) = false := by
      intro x hx
      rw [beq_eq_false_iff_ne]
      rintro rfl
      unfold inL at h
      rw [List.contains_iff_mem.2 hx] at h
      cases h
    have e0 := hne [114, 117, 108, 101] (by decide)
    have e1 := hne [101, 97, 99, 104] (by decide)
    have e2 := hne [101, 110, 116, 105, 116, 121] (by decide)
    have e3 := hne [112, 97, 105, 114] (by decide)
    have e4 := hne [108, 101, 116] (by decide)
    have e5 := hne [114, 101, 113, 117, 105, 114, 101] (by decide)
    have e6 := hne [112, 111, 115, 116] (by decide)
    have e7 := hne [116, 111] (by decide)
    have e8 := hne [112, 101, 114] (by decide)
    have e9 := hne [97, 110, 100] (by decide)
    have e10 := hne [111, 114] (by decide)
    have e11 := hne [110, 111, 116] (by decide)
    have e12 := hne [109, 105, 110] (by decide)
    have e13 := hne [109, 97, 120] (by decide)
    have e14 := hne [97, 98, 115] (by decide)
    have e15 := hne [98, 97, 108, 97, 110, 99, 101] (by decide)
    have e16 := hne [112, 97, 114, 116, 110, 101, 114] (by decide)
    have e17 := hne [115, 104, 97, 114, 101] (by decide)
    clear hne h
    go_enter Tryd.func17, Tryd.ntmps17
    go_wp2_with fail
    go_ret
    exact ⟨rfl, rfl⟩
  · rcases kws_cases h with rfl | rfl | rfl | rfl | rfl | rfl | rfl | rfl | rfl | rfl | rfl | rfl | rfl | rfl | rfl | rfl | rfl | rfl
    all_goals
      clear h
      go_enter Tryd.func17, Tryd.ntmps17
      go_wp2_with fail
      go_ret
      exact ⟨rfl, rfl⟩
def exTok : List UInt8 := [112, 111, 115, 116, 32, 52, 48, 48, 48, 32, 97, 42, 53, 59, 32, 35, 32, 100, 111, 110, 101]
def exToks : List Tok := [⟨1, [112, 111, 115, 116], 0⟩, ⟨2, [52, 48, 48, 48], 5⟩, ⟨1, [97], 10⟩, ⟨3, [42], 11⟩, ⟨2, [53], 12⟩, ⟨3, [59], 13⟩]
theorem exTok_eq : tokE exTok = .ok exToks := by rfl
set_option maxHeartbeats 1000000 in
theorem awake_true (w : World) (hE : Env w) : Calls Tryd.prog 8 #[] w fun e w' => e = .returned (.bool true) ∧ Below w.heap.size w w' := by
  have htk := tokens_any exTok w hE (by decide)
  rw [exTok_eq] at htk
  have HTK := Lib.hid htk
  clear htk
  go_enter Tryd.func8, Tryd.ntmps8
  go_wp2_with fail
  refine HTK.out.mono ?_
  rintro e w1 ⟨v, rfl, hown, hb⟩
  obtain ⟨g, cap, hv, _, hlt⟩ := hown.form (by decide)
  have hc := hown.cells (g := g) (by rw [hv]; rfl)
  have hn : (trToks (.ok exToks)).length = 6 := rfl
  rw [hn] at hv
  subst hv
  have c1 : w1.cell? ⟨g, 4, none⟩ = some (.string ⟨#[52, 48, 48, 48]⟩) := hc 4 _ rfl
  have c2 : w1.cell? ⟨g, 9, none⟩ = some (.int .i64 3) := hc 9 _ rfl
  have c3 : w1.cell? ⟨g, 10, none⟩ = some (.string ⟨#[42]⟩) := hc 10 _ rfl
  have c4 : w1.cell? ⟨g, 11, none⟩ = some (.int .i64 11) := hc 11 _ rfl
  clear hc hown hn HTK
  go_wp2_with fail
  go_ret
  exact ⟨rfl, hb⟩
end Go.Proofs.YtblpgdfjmkefkaaDoor
