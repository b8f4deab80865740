/-
  The law CellParse.
-/
import Derived.Test.YtophffmofpmbpaaDoorCel24
import Derived.Test.YtophffmofpmbpaaDoorCel12
namespace Go.Proofs.YtophffmofpmbpaaDoor
open Go.RowKit
set_option linter.unusedVariables false
set_option maxRecDepth 100000 in
set_option maxHeartbeats 8000000 in
theorem lawParse (s0 : ByteArray) (w : World) (hE : Env w) (hEE : EnvE w) (hs : s0.size ≤ 9223372036854775807) : Calls Tryd.prog 4 #[.string s0] w fun e w' => e = .returned (.bool true) ∧ Below w.heap.size w w' := by
  obtain ⟨l, rfl⟩ : ∃ l : List UInt8, s0 = ⟨l.toArray⟩ := ⟨s0.data.toList, rfl⟩
  have HES := Lib.hid hE.size
  have HEB : Hid (∀ w_, Below w.heap.size w w_ → Env w_) := fun w_ h => hE.after h
  by_cases hl : l.length ≤ 100
  · have hln : decide ((100 : Int) < (l.length : Int)) = false := by rw [decide_eq_false_iff_not]; omega
    have HP : Hid (∀ w, Env w → EnvE w → NG ≤ w.heap.size → Calls Tryd.prog 16 #[.string ⟨l.toArray⟩] w fun e w' => e = .returned (pcR l) ∧ Below w.heap.size w w') := fun w h1 h2 h3 => parse_any l w h1 h2 h3 (by omega)
    have HR : Hid (∀ w, Calls Tryd.prog 17 #[.string ⟨l.toArray⟩] w fun e w' => e = .returned (pcR l) ∧ Below w.heap.size w w') := fun w => refParse_any l w (by omega)
    have HNO : Hid (pcD l = none → pcR l = .tuple #[.agg #[.int .i64 0, .int .i64 0, .int .i64 0, .int .i64 0], .int .i64 3]) := fun h => pcR_no h
    have HYES : Hid (∀ c, pcD l = some c → pcR l = .tuple #[cellV c, .int .i64 0]) := fun c h => pcR_yes h
    have HIF : Hid (∀ c, pcD l = some c → validC c = true ∧ textC c = l) := fun c h => pcD_iff.1 h
    generalize pcR l = R at *
    cases hD : pcD l with
    | none =>
      have e := HNO.out hD
      subst e
      clear HNO HYES HIF hD
      go_enter Tryd.func4, Tryd.ntmps4
      go_wp2_with fail
      refine (awake_true _ hE hEE).mono ?_
      rintro e w1 ⟨rfl, hb⟩
      have HB1 := Lib.hid hb
      clear hb
      go_wp2_with fail
      refine (HP.out _ (HEB.out _ HB1.out) (hEE.below HB1.out HES.out) (by have := HB1.out.size; have := HES.out; omega)).mono ?_
      rintro e w2 ⟨rfl, hb⟩
      have HB2 := Lib.hid (below_two HB1.out hb)
      have HK2 := Lib.hid (Blk.new w2 23 #[.int .i64 0, .int .i64 0, .int .i64 0, .int .i64 0])
      have HB3 := Lib.hid (HB2.out.alloc HB2.out.size (.cells (#[.int .i64 0, .int .i64 0, .int .i64 0, .int .i64 0] : Array Value) 23))
      clear hb
      go_wp2_with fail
      refine (HR.out _).mono ?_
      rintro e w4 ⟨rfl, hb⟩
      have HKL : Hid (w2.heap.size < w4.heap.size) := (HK2.out.below hb HK2.out.lt).lt
      have hk := (HK2.out.below hb HK2.out.lt).alloc (.cells (#[.int .i64 0, .int .i64 0, .int .i64 0, .int .i64 0] : Array Value) 23)
      have hk' := Blk.new w4 23 #[.int .i64 0, .int .i64 0, .int .i64 0, .int .i64 0]
      have HB4 := Lib.hid (below_two HB3.out hb)
      have HB5 := Lib.hid (HB4.out.alloc HB4.out.size (.cells (#[.int .i64 0, .int .i64 0, .int .i64 0, .int .i64 0] : Array Value) 23))
      clear hb
      obtain ⟨x0, x1, x2, x3⟩ := st_blk hk
      obtain ⟨y0, y1, y2, y3⟩ := st_blk hk'
      have hlt := HKL.out
      clear hk hk'
      go_wp2_with fail
      go_ret
      exact ⟨rfl, HB5.out⟩
    | some c =>
      obtain ⟨hv, ht⟩ := HIF.out c hD
      have e := HYES.out c hD
      subst e
      have HVA : Hid (∀ w, Calls Tryd.prog 10 #[cellV c] w fun e w' => e = .returned (.bool true) ∧ Below w.heap.size w w') := fun w => by have := valid_any c w; rw [hv] at this; exact this
      have HTA : Hid (∀ w, Env w → Calls Tryd.prog 12 #[cellV c] w fun e w' => e = .returned (.string ⟨l.toArray⟩) ∧ Below w.heap.size w w') := fun w h => by have := text_any c w h; rw [ht] at this; exact this
      clear HNO HYES HIF hD hv ht
      obtain ⟨st, en, ot, pe⟩ := c
      unfold cellV at *
      simp only [] at *
      go_enter Tryd.func4, Tryd.ntmps4
      go_wp2_with fail
      refine (awake_true _ hE hEE).mono ?_
      rintro e w1 ⟨rfl, hb⟩
      have HB1 := Lib.hid hb
      clear hb
      go_wp2_with fail
      refine (HP.out _ (HEB.out _ HB1.out) (hEE.below HB1.out HES.out) (by have := HB1.out.size; have := HES.out; omega)).mono ?_
      rintro e w2 ⟨rfl, hb⟩
      have HB2 := Lib.hid (below_two HB1.out hb)
      have HK2 := Lib.hid (Blk.new w2 23 #[.int .i64 st, .int .i64 en, .int .i64 ot, .int .i64 pe])
      have HB3 := Lib.hid (HB2.out.alloc HB2.out.size (.cells (#[.int .i64 st, .int .i64 en, .int .i64 ot, .int .i64 pe] : Array Value) 23))
      clear hb
      go_wp2_with fail
      refine (HR.out _).mono ?_
      rintro e w4 ⟨rfl, hb⟩
      have hk0 := HK2.out.below hb HK2.out.lt
      have hlt : w2.heap.size < w4.heap.size := hk0.lt
      have hk := hk0.alloc (.cells (#[.int .i64 st, .int .i64 en, .int .i64 ot, .int .i64 pe] : Array Value) 23)
      have hk' := Blk.new w4 23 #[.int .i64 st, .int .i64 en, .int .i64 ot, .int .i64 pe]
      have HB4 := Lib.hid (below_two HB3.out hb)
      have HB5 := Lib.hid (HB4.out.alloc HB4.out.size (.cells (#[.int .i64 st, .int .i64 en, .int .i64 ot, .int .i64 pe] : Array Value) 23))
      clear hb hk0
      obtain ⟨x0, x1, x2, x3⟩ := st_blk hk
      obtain ⟨y0, y1, y2, y3⟩ := st_blk hk'
      have HK5 := Lib.hid hk
      clear hk hk'
      go_wp2_with fail
      refine (HTA.out _ (HEB.out _ HB5.out)).mono ?_
      rintro e w6 ⟨rfl, hb⟩
      have HB6 := Lib.hid (below_two HB5.out hb)
      have HK6 := Lib.hid (HK5.out.below hb HK5.out.lt)
      clear hb x0 x1 x2 x3 y0 y1 y2 y3
      obtain ⟨x0, x1, x2, x3⟩ := st_blk HK6.out
      go_wp2_with fail
      refine (HVA.out _).mono ?_
      rintro e w7 ⟨rfl, hb⟩
      have HB7 := Lib.hid (below_two HB6.out hb)
      clear hb
      go_wp2_with fail
      go_ret
      exact ⟨rfl, HB7.out⟩
  · have hln : decide ((100 : Int) < (l.length : Int)) = true := by rw [decide_eq_true_eq]; omega
    go_enter Tryd.func4, Tryd.ntmps4
    go_wp2_with fail
    refine (awake_true _ hE hEE).mono ?_
    rintro e w1 ⟨rfl, hb1⟩
    go_wp2_with fail
    go_ret
    exact ⟨rfl, hb1⟩
end Go.Proofs.YtophffmofpmbpaaDoor
