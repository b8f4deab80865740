/-
  The program's read: the ways behind the second cut.
-/
import Derived.Test.YtfiindecponeoaaDoorStW12
namespace Go.Proofs.YtfiindecponeoaaDoor
open Go.RowKit
set_option linter.unusedVariables false
theorem read_result {w : World} {g : Nat} {tmps : Array Value} {nm : List UInt8} {lv fr to_ : Int} {ng ok : Bool} (h : Blk w g 40 #[.string ⟨nm.toArray⟩, .int .i64 lv, .int .i64 fr, .int .i64 to_, .bool ng]) (h2 : tmps.getD 2 undef = .pointer (some ⟨g, 0, none⟩)) (h3 : tmps.getD 3 undef = .bool ok) :
    (results Tryd.f26 tmps).run Tryd.prog w = .ok (.tuple #[rowV ⟨nm, lv, fr, to_, ng⟩, .bool ok]) w := by
  obtain ⟨z0, z1, z2, z3, z4⟩ := row_cells h
  have h2' : tmps[2]?.getD undef = .pointer (some ⟨g, 0, none⟩) := by simpa using h2
  have h3' : tmps[3]?.getD undef = .bool ok := by simpa using h3
  simp [results, Tryd.results26, go_sem, rowV, z0, z1, z2, z3, z4, h2', h3']
theorem below_same {B : Nat} {w a b : World} (h : Below B w a) (e1 : b.os = a.os) (e2 : b.tape = a.tape) (e3 : b.output = a.output) (e4 : b.heap = a.heap) : Below B w b :=
  ⟨e1.trans h.os, e2.trans h.tape, e3.trans h.output, by rw [e4]; exact h.size, fun k hk => by rw [e4]; exact h.block k hk⟩
theorem says_eq {l : List UInt8} {w w' : World} {r : SRow} {ok : Bool} (he : (lineL r == l) = ok) (h : ∀ b r0, okRow b r0 = true → lineL r0 = l → r = r0) (hn : r.name.length ≤ 3000) (hb : Below w.heap.size w w') : ReadSays l w (.returned (.tuple #[rowV r, .bool ok])) w' :=
  ⟨r, ok, rfl, (fun h1 => by rw [h1] at he; exact eq_of_beq he), (fun b r0 h1 h2 => by
    have e := h b r0 h1 h2
    subst e
    exact ⟨by rw [← he, h2]; simp, rfl⟩), hn, hb⟩
theorem row_ext {r : SRow} {a : List UInt8} {b c d : Int} {e : Bool} (h1 : a = r.name) (h2 : b = r.level) (h3 : c = r.from_) (h4 : d = r.to_) (h5 : e = r.neg) : (⟨a, b, c, d, e⟩ : SRow) = r := by
  subst h1 h2 h3 h4 h5; rfl
set_option maxRecDepth 100000 in
set_option maxHeartbeats 8000000 in
theorem read_no2 (l : List UInt8) (w : World) (hE : Env w) (hEE : EnvE w) (hl : l.length ≤ 2000) (h : (Lib.cut (Lib.cut l [32, 34]).2.1 [34]).2.2 = true) (hno : ∀ v, Lib.atoiAll (Lib.cut l [32, 34]).1 ≠ .ok v) :
    Calls Tryd.prog 26 #[.string ⟨l.toArray⟩] w (ReadSays l w) := by
  have F : Hid (∀ b r0, okRow b r0 = true → lineL r0 = l → False) := by
    show ∀ _, _
    intro b r0 h1 h2
    obtain ⟨p1, p2, p3⟩ := pr_line h1
    rw [h2] at p1
    have q1 : (Lib.cut l [32, 34]).1 = Lib.itoa r0.level := by rw [p1]
    have q2 : (Lib.cut l [32, 34]).2.1 = r0.name ++ 34 :: tailL r0 := by rw [p1]
    have q3 : (Lib.cut (Lib.cut l [32, 34]).2.1 [34]).1 = r0.name := by rw [q2, p2]
    have q4 : (Lib.cut (Lib.cut l [32, 34]).2.1 [34]).2.1 = tailL r0 := by rw [q2, p2]
    exact hno r0.level (by rw [q1]; exact p3)
  have HNO := Lib.hid hno
  clear hno
  have hz := (Below.refl w.heap.size w).alloc (Nat.le_refl _) (.cells #[.string ⟨#[]⟩, .int .i64 0, .int .i64 0, .int .i64 0, .bool false] 40)
  have HBK := Lib.hid (Blk.new w 40 #[.string ⟨#[]⟩, .int .i64 0, .int .i64 0, .int .i64 0, .bool false])
  have HZ := Lib.hid hz
  have HE := Lib.hid (hE.after hz)
  have HES := Lib.hid hE.size
  have hc1 := cut_sub l [32, 34]
  have hc2 := cut_sub (Lib.cut l [32, 34]).2.1 [34]
  have HF := Lib.hid h
  clear hz h
  go_enter Tryd.func26, Tryd.ntmps26
  go_wp2_with fail
  have HC := Lib.hid (cut_any l [32, 34] _ HE.out (by omega))
  refine HC.out.mono ?_
  rintro e w1 ⟨rfl, hb1⟩
  have HC2 := Lib.hid (cut_any (Lib.cut l [32, 34]).2.1 [34] w1 (HE.out.after hb1) (by omega))
  clear HC
  go_wp2_with fail
  refine HC2.out.mono ?_
  rintro e w2 ⟨rfl, hb2⟩
  have hb12 := HZ.out.trans ((below_two hb1 hb2).mono (by simp))
  have HK2 := Lib.hid (HBK.out.below (below_two hb1 hb2) (by simp))
  clear HC2
  rw [HF.out]
  have HB12 := Lib.hid hb12
  clear hb1 hb2 hb12
  generalize (Lib.cut l [32, 34]).1 = a1 at *
  generalize (Lib.cut l [32, 34]).2.1 = A2 at *
  generalize (Lib.cut l [32, 34]).2.2 = bb at *
  generalize (Lib.cut A2 [34]).1 = nm at *
  generalize (Lib.cut A2 [34]).2.1 = R at *
  go_wp2_with fail
  refine (atoi_no a1 _ (hEE.below HB12.out HES.out) HNO.out (by omega)).mono ?_
  rintro e w3 ⟨n, N, rfl, hb3⟩
  have hb13 := below_two HB12.out hb3
  have HK3 := Lib.hid ((HK2.out.below hb3 (by have := HK2.out.lt; omega)).alloc (.cells #[.string ⟨nm.toArray⟩, .int .i64 n, .int .i64 1, .int .i64 0, .bool false] 40))
  have HB3 := Lib.hid (hb13.alloc hb13.size (.cells #[.string ⟨nm.toArray⟩, .int .i64 n, .int .i64 1, .int .i64 0, .bool false] 40))
  have HG := Lib.hid (Blk.new w3 40 #[.string ⟨nm.toArray⟩, .int .i64 n, .int .i64 1, .int .i64 0, .bool false])
  clear hb3 hb13
  go_wp2_with fail
  generalize w3.alloc (.cells #[.string ⟨nm.toArray⟩, .int .i64 n, .int .i64 1, .int .i64 0, .bool false] 40) = wz at *
  generalize w3.heap.size = g at *
  obtain ⟨z0, z1, z2, z3, z4⟩ := row_cells HG.out
  obtain ⟨c0, c1, c2, c3, c4⟩ := row_cells HK3.out
  have fz := HK3.out.frozen
  go_region
  all_goals
    go_wp2_with fail
    refine bodyPost_ret (read_result (set_row (by exact HK3.out)) rfl rfl) rfl (says_no F.out (by simp only []; omega) (by first | exact set_row_below HB3.out (Nat.le_refl _) | exact Below.drew (set_row_below HB3.out (Nat.le_refl _)) | exact Below.drew (Below.drew (set_row_below HB3.out (Nat.le_refl _)))))
set_option maxRecDepth 100000 in
set_option maxHeartbeats 8000000 in
theorem read_title (l : List UInt8) (w : World) (hE : Env w) (hEE : EnvE w) (hl : l.length ≤ 2000) (h : (Lib.cut (Lib.cut l [32, 34]).2.1 [34]).2.2 = true) (v : Int) (hv : Lib.atoiAll (Lib.cut l [32, 34]).1 = .ok v) (hR : (Lib.cut (Lib.cut l [32, 34]).2.1 [34]).2.1 = []) :
    Calls Tryd.prog 26 #[.string ⟨l.toArray⟩] w (ReadSays l w) := by
  have F : Hid (∀ b r0, okRow b r0 = true → lineL r0 = l → (⟨(Lib.cut (Lib.cut l [32, 34]).2.1 [34]).1, v, 1, 0, false⟩ : SRow) = r0) := by
    show ∀ _, _
    intro b r0 h1 h2
    obtain ⟨p1, p2, p3⟩ := pr_line h1
    rw [h2] at p1
    have q1 : (Lib.cut l [32, 34]).1 = Lib.itoa r0.level := by rw [p1]
    have q2 : (Lib.cut l [32, 34]).2.1 = r0.name ++ 34 :: tailL r0 := by rw [p1]
    have q3 : (Lib.cut (Lib.cut l [32, 34]).2.1 [34]).1 = r0.name := by rw [q2, p2]
    have q4 : (Lib.cut (Lib.cut l [32, 34]).2.1 [34]).2.1 = tailL r0 := by rw [q2, p2]
    have hv' : v = r0.level := by
      rw [q1, p3] at hv
      injection hv with hv
      exact hv.symm
    cases ht : isTitle r0
    · exact absurd (q4.symm.trans hR) (pr_tail h1 ht).1
    · obtain ⟨g1, g2, g3⟩ := title_row h1 ht
      exact row_ext q3 hv' g1.symm g2.symm g3.symm
  have HV := Lib.hid hv
  obtain ⟨v1, v2⟩ := Lib.atoiAll_bounds hv
  have HR := Lib.hid hR
  clear hv hR
  have hz := (Below.refl w.heap.size w).alloc (Nat.le_refl _) (.cells #[.string ⟨#[]⟩, .int .i64 0, .int .i64 0, .int .i64 0, .bool false] 40)
  have HBK := Lib.hid (Blk.new w 40 #[.string ⟨#[]⟩, .int .i64 0, .int .i64 0, .int .i64 0, .bool false])
  have HZ := Lib.hid hz
  have HE := Lib.hid (hE.after hz)
  have HES := Lib.hid hE.size
  have hc1 := cut_sub l [32, 34]
  have hc2 := cut_sub (Lib.cut l [32, 34]).2.1 [34]
  have HF := Lib.hid h
  clear hz h
  go_enter Tryd.func26, Tryd.ntmps26
  go_wp2_with fail
  have HC := Lib.hid (cut_any l [32, 34] _ HE.out (by omega))
  refine HC.out.mono ?_
  rintro e w1 ⟨rfl, hb1⟩
  have HC2 := Lib.hid (cut_any (Lib.cut l [32, 34]).2.1 [34] w1 (HE.out.after hb1) (by omega))
  clear HC
  go_wp2_with fail
  refine HC2.out.mono ?_
  rintro e w2 ⟨rfl, hb2⟩
  have hb12 := HZ.out.trans ((below_two hb1 hb2).mono (by simp))
  have HK2 := Lib.hid (HBK.out.below (below_two hb1 hb2) (by simp))
  clear HC2
  rw [HF.out]
  have HB12 := Lib.hid hb12
  clear hb1 hb2 hb12
  generalize (Lib.cut l [32, 34]).1 = a1 at *
  generalize (Lib.cut l [32, 34]).2.1 = A2 at *
  generalize (Lib.cut l [32, 34]).2.2 = bb at *
  generalize (Lib.cut A2 [34]).1 = nm at *
  generalize (Lib.cut A2 [34]).2.1 = R at *
  go_wp2_with fail
  refine (atoi_yes a1 v _ HV.out (by omega)).mono ?_
  rintro e w3 ⟨rfl, hb3⟩
  rw [HR.out] at *
  have hb13 := below_two HB12.out hb3
  have HK3 := Lib.hid ((HK2.out.below hb3 (by have := HK2.out.lt; omega)).alloc (.cells #[.string ⟨nm.toArray⟩, .int .i64 v, .int .i64 1, .int .i64 0, .bool false] 40))
  have HB3 := Lib.hid (hb13.alloc hb13.size (.cells #[.string ⟨nm.toArray⟩, .int .i64 v, .int .i64 1, .int .i64 0, .bool false] 40))
  have HG := Lib.hid (Blk.new w3 40 #[.string ⟨nm.toArray⟩, .int .i64 v, .int .i64 1, .int .i64 0, .bool false])
  have hgw : w.heap.size ≤ w3.heap.size := hb13.size
  clear hb3 hb13
  have hgz : w3.heap.size < (w3.alloc (.cells #[.string ⟨nm.toArray⟩, .int .i64 v, .int .i64 1, .int .i64 0, .bool false] 40)).heap.size := by simp
  go_wp2_with fail
  generalize w3.alloc (.cells #[.string ⟨nm.toArray⟩, .int .i64 v, .int .i64 1, .int .i64 0, .bool false] 40) = wz at *
  generalize w3.heap.size = g at *
  obtain ⟨z0, z1, z2, z3, z4⟩ := row_cells HG.out
  obtain ⟨c0, c1, c2, c3, c4⟩ := row_cells HK3.out
  have fz := HK3.out.frozen
  have HP : Hid (∀ w', w'.heap = wz.heap → Below w.heap.size w w' → Calls Tryd.prog 20 #[.agg #[.string ⟨nm.toArray⟩, .int .i64 v, .int .i64 1, .int .i64 0, .bool false]] w' fun e w'' => e = .returned (.string ⟨(lineL ⟨nm, v, 1, 0, false⟩).toArray⟩) ∧ Below w.heap.size w w'' ∧ Blk w'' g 40 #[.string ⟨nm.toArray⟩, .int .i64 v, .int .i64 1, .int .i64 0, .bool false] ∧ Blk w'' w.heap.size 40 #[.string ⟨#[]⟩, .int .i64 0, .int .i64 0, .int .i64 0, .bool false]) := by
    show ∀ _, _
    intro w' hh hb
    refine (line_any ⟨nm, v, 1, 0, false⟩ w' (hE.after hb) v1 v2 (by simp) (by simp) (by simp) (by simp) (by simp only []; omega)).mono ?_
    rintro e w'' ⟨rfl, h9⟩
    have k1 : Blk w' g 40 #[.string ⟨nm.toArray⟩, .int .i64 v, .int .i64 1, .int .i64 0, .bool false] := by unfold Blk; rw [hh]; exact HG.out
    have k2 : Blk w' w.heap.size 40 #[.string ⟨#[]⟩, .int .i64 0, .int .i64 0, .int .i64 0, .bool false] := by unfold Blk; rw [hh]; exact HK3.out
    exact ⟨rfl, below_two hb h9, k1.below h9 k1.lt, k2.below h9 k2.lt⟩
  generalize hL : lineL ⟨nm, v, 1, 0, false⟩ = L at *
  have HLL := Lib.hid hL
  clear hL
  cases hq : (L == l)
  all_goals
    have HQ := Lib.hid hq
    go_region_with (go_at_call 20; refine (HP.out _ (by rfl) (by exact below_same HB3.out rfl rfl rfl rfl)).mono ?_; rintro e w4 ⟨rfl, hb4, kg, kz⟩; obtain ⟨y0, y1, y2, y3, y4⟩ := row_cells kg; obtain ⟨x0, x1, x2, x3, x4⟩ := row_cells kz; have fy := kz.frozen)
    all_goals
      go_wp2_with fail
      refine bodyPost_ret (read_result (set_row (by assumption)) rfl rfl) rfl (says_eq (by rw [HLL.out]; exact HQ.out) F.out (by simp only []; omega) (set_row_below (by assumption) (Nat.le_refl _)))
end Go.Proofs.YtfiindecponeoaaDoor
