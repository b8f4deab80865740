/-
  The program's read.
-/
import Derived.Test.YtfiindecponeoaaDoorStW11
import Derived.Lib.AtoiAll
namespace Go.Proofs.YtfiindecponeoaaDoor
open Go.RowKit
set_option linter.unusedVariables false
theorem cut_any (l s : List UInt8) (w : World) (hE : Env w) (hl : l.length ≤ 3000) :
    Calls Tryd.prog 25 #[.string ⟨l.toArray⟩, .string ⟨s.toArray⟩] w fun e w' => e = .returned (.tuple #[.string ⟨(Lib.cut l s).1.toArray⟩, .string ⟨(Lib.cut l s).2.1.toArray⟩, .bool (Lib.cut l s).2.2]) ∧ Below w.heap.size w w' := by
  obtain ⟨m, hm⟩ := hE.maxlen
  refine (Tryd.strings_Cut ⟨l.toArray⟩ ⟨s.toArray⟩ m w (by rw [mk_size]; omega) hm).mono ?_
  rintro e w1 ⟨rfl, hw⟩
  exact ⟨rfl, below_draws hw⟩
theorem below_bytes {w w' : World} {e : TypeId} (h : w' = w ∨ ∃ t, w' = Lib.bytesWorld w e t) : Below w.heap.size w w' := by
  rcases h with rfl | ⟨t, rfl⟩
  · exact Below.refl _ _
  · unfold Lib.bytesWorld
    exact Lib.bytesWorld_below w e t
theorem atoi_yes (l : List UInt8) (v : Int) (w : World) (h : Lib.atoiAll l = .ok v) (hl : l.length ≤ 3000) :
    Calls Tryd.prog 36 #[.string ⟨l.toArray⟩] w fun e w' => e = .returned (.tuple #[.int .i64 v, .nilIface]) ∧ Below w.heap.size w w' := by
  refine (Tryd.strconv_Atoi_ok ⟨l.toArray⟩ (by rw [mk_size]; omega) v h w).mono ?_
  rintro e w1 ⟨rfl, hw⟩
  exact ⟨rfl, below_bytes hw⟩
theorem atoi_no (l : List UInt8) (w : World) (hEE : EnvE w) (h : ∀ v, Lib.atoiAll l ≠ .ok v) (hl : l.length ≤ 3000) :
    Calls Tryd.prog 36 #[.string ⟨l.toArray⟩] w fun e w' => ∃ n N, e = .returned (.tuple #[.int .i64 n, .iface 83 (.pointer (some ⟨N, 0, none⟩))]) ∧ Below w.heap.size w w' := by
  cases hc : Lib.atoiAll l
  · rename_i v
    exact absurd hc (h v)
  · obtain ⟨tp, p, hv⟩ := hEE.esyn
    refine (Tryd.strconv_Atoi_syntax_var ⟨l.toArray⟩ (by rw [mk_size]; omega) hc tp p w hv).mono ?_
    rintro e w1 ⟨N, rfl, _, _, hb⟩
    exact ⟨_, N, rfl, hb⟩
  · obtain ⟨tp, p, hv⟩ := hEE.erange
    refine (Tryd.strconv_Atoi_range_var ⟨l.toArray⟩ (by rw [mk_size]; omega) hc tp p w hv).mono ?_
    rintro e w1 ⟨N, rfl, _, _, hb⟩
    exact ⟨_, N, rfl, hb⟩
theorem cut_sub (l s : List UInt8) : (Lib.cut l s).1.length ≤ l.length ∧ (Lib.cut l s).2.1.length ≤ l.length := by
  unfold Lib.cut
  split
  · simp only [List.length_take, List.length_drop]; omega
  · simp
theorem set_row {w : World} {g : Nat} {T : TypeId} {a b c d e a' b' c' d' e' : Value} (h : Blk w g T #[a, b, c, d, e]) : Blk (((((w.setCell ⟨g, 0, none⟩ a').setCell ⟨g, 1, none⟩ b').setCell ⟨g, 2, none⟩ c').setCell ⟨g, 3, none⟩ d').setCell ⟨g, 4, none⟩ e') g T #[a', b', c', d', e'] := by
  have := ((((h.set_ 0 a').set_ 1 b').set_ 2 c').set_ 3 d').set_ 4 e'
  simpa using this
theorem set_row_below {w w0 : World} {B g : Nat} {a b c d e : Value} (h : Below B w0 w) (hB : B ≤ g) : Below B w0 (((((w.setCell ⟨g, 0, none⟩ a).setCell ⟨g, 1, none⟩ b).setCell ⟨g, 2, none⟩ c).setCell ⟨g, 3, none⟩ d).setCell ⟨g, 4, none⟩ e) :=
  ((((h.setCell (p := ⟨g, 0, none⟩) hB a).setCell (p := ⟨g, 1, none⟩) hB b).setCell (p := ⟨g, 2, none⟩) hB c).setCell (p := ⟨g, 3, none⟩) hB d).setCell (p := ⟨g, 4, none⟩) hB e
def ReadSays (l : List UInt8) (w : World) (e : Ending) (w' : World) : Prop :=
  ∃ (r : SRow) (ok : Bool), e = .returned (.tuple #[rowV r, .bool ok]) ∧ (ok = true → lineL r = l) ∧ (∀ b r0, okRow b r0 = true → lineL r0 = l → ok = true ∧ r = r0) ∧ r.name.length ≤ 3000 ∧ Below w.heap.size w w'
theorem says_no {l : List UInt8} {w w' : World} {r : SRow} (h : ∀ b r0, okRow b r0 = true → lineL r0 = l → False) (hn : r.name.length ≤ 3000) (hb : Below w.heap.size w w') : ReadSays l w (.returned (.tuple #[rowV r, .bool false])) w' :=
  ⟨r, false, rfl, (fun h => by cases h), fun b r0 h1 h2 => absurd (h b r0 h1 h2) (fun h => h), hn, hb⟩
set_option maxRecDepth 100000 in
set_option maxHeartbeats 8000000 in
theorem read_no1 (l : List UInt8) (w : World) (hE : Env w) (hl : l.length ≤ 2000) (h : (Lib.cut (Lib.cut l [32, 34]).2.1 [34]).2.2 = false) :
    Calls Tryd.prog 26 #[.string ⟨l.toArray⟩] w (ReadSays l w) := by
  have F : Hid (∀ b r0, okRow b r0 = true → lineL r0 = l → False) := by
    show ∀ _, _
    intro b r0 h1 h2
    obtain ⟨p1, p2, _⟩ := pr_line h1
    rw [h2] at p1
    rw [p1] at h
    simp only at h
    rw [p2] at h
    cases h
  have hz := (Below.refl w.heap.size w).alloc (Nat.le_refl _) (.cells #[.string ⟨#[]⟩, .int .i64 0, .int .i64 0, .int .i64 0, .bool false] 40)
  have HBK := Lib.hid (Blk.new w 40 #[.string ⟨#[]⟩, .int .i64 0, .int .i64 0, .int .i64 0, .bool false])
  have HZ := Lib.hid hz
  have HE := Lib.hid (hE.after hz)
  have hc1 := cut_sub l [32, 34]
  have HF := Lib.hid h
  clear hz h
  go_enter Tryd.func26, Tryd.ntmps26
  go_wp2_with fail
  have HC := Lib.hid (cut_any l [32, 34] _ HE.out (by omega))
  refine HC.out.mono ?_
  rintro e w1 ⟨rfl, hb1⟩
  have HC2 := Lib.hid (cut_any (Lib.cut l [32, 34]).2.1 [34] w1 (HE.out.after hb1) (by omega))
  clear HC
  go_wp2_with fail
  refine HC2.out.mono ?_
  rintro e w2 ⟨rfl, hb2⟩
  have hb12 := below_two hb1 hb2
  obtain ⟨c0, c1, c2, c3, c4⟩ := row_cells (HBK.out.below hb12 (by simp))
  have fz := (HBK.out.below hb12 (by simp)).frozen
  clear HC2
  rw [HF.out]
  go_wp2_with fail
  have hbz := set_row_below (a := .string ⟨#[]⟩) (b := .int .i64 0) (c := .int .i64 0) (d := .int .i64 0) (e := .bool false) (HZ.out.trans (hb12.mono (by simp))) (Nat.le_refl _)
  have hbk := set_row (a' := .string ⟨#[]⟩) (b' := .int .i64 0) (c' := .int .i64 0) (d' := .int .i64 0) (e' := .bool false) (HBK.out.below hb12 (by simp))
  generalize World.setCell _ ⟨w.heap.size, 4, none⟩ _ = wz at *
  obtain ⟨z0, z1, z2, z3, z4⟩ := row_cells hbk
  refine bodyPost_ret (v := .tuple #[rowV ⟨[], 0, 0, 0, false⟩, .bool false]) ?_ rfl (says_no F.out (by simp) hbz)
  simp [results, Tryd.results26, go_sem, rowV, z0, z1, z2, z3, z4]
end Go.Proofs.YtfiindecponeoaaDoor
