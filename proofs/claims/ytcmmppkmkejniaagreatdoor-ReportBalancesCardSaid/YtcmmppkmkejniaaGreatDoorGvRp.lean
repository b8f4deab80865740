/-
  The rows of a statement of a group: plain; the reference's part.
-/
import Derived.Test.YtcmmppkmkejniaaGreatDoorGvFw
import Derived.Test.YtcmmppkmkejniaaGreatDoorSgW7
namespace Go.Proofs.YtcmmppkmkejniaaGreatDoor
open Go.RowKit
set_option linter.unusedVariables false
/-- the name of an account's row -/
def accName (c : Int) : List UInt8 := [65, 99, 99, 111, 117, 110, 116, 32] ++ Lib.itoa c
def accRow (neg : Bool) (a : SAcc) : SRow := ⟨accName a.code, 1, a.code, a.code, neg⟩
/-- a title and the rows of the accounts of a kind -/
def secRows (ch : List SAcc) (nm : List UInt8) (kind : Int) (neg : Bool) : List SRow := ⟨nm, 0, 1, 0, false⟩ :: (ch.filter fun a => a.kind == kind).map (accRow neg)
theorem secRows_yes {ch : List SAcc} {k : Nat} {nm : List UInt8} {kind : Int} {neg : Bool} (hk : k < ch.length) (h : ((ch.getD k default).kind == kind) = true) : secRows (ch.take (k + 1)) nm kind neg = secRows (ch.take k) nm kind neg ++ [accRow neg (ch.getD k default)] := by
  have e : ch.getD k default = ch[k] := by simp [List.getD, hk]
  rw [e] at h ⊢
  unfold secRows
  rw [List.take_succ_eq_append_getElem hk, List.filter_append, List.map_append]
  simp [h]
theorem secRows_no {ch : List SAcc} {k : Nat} {nm : List UInt8} {kind : Int} {neg : Bool} (hk : k < ch.length) (h : ((ch.getD k default).kind == kind) = false) : secRows (ch.take (k + 1)) nm kind neg = secRows (ch.take k) nm kind neg := by
  have e : ch.getD k default = ch[k] := by simp [List.getD, hk]
  rw [e] at h
  unfold secRows
  rw [List.take_succ_eq_append_getElem hk, List.filter_append]
  simp [h]
theorem secRows_len (ch : List SAcc) (nm : List UInt8) (kind : Int) (neg : Bool) : (secRows ch nm kind neg).length ≤ ch.length + 1 := by
  unfold secRows
  rw [List.length_cons, List.length_map]
  have := List.length_filter_le (fun a : SAcc => a.kind == kind) ch
  omega
theorem rowsCells_one (r : SRow) : rowsCells [r] = rowCells r := by simp [rowsCells]
theorem rowsCells_app (a b : List SRow) : rowsCells (a ++ b) = rowsCells a ++ rowsCells b := List.flatMap_append
theorem rowG_one (r : SRow) : ∀ u ∈ rowCells r, u.oneCell' = true := by
  intro u hu
  unfold rowCells at hu
  simp only [List.mem_cons, List.not_mem_nil, or_false] at hu
  rcases hu with rfl | rfl | rfl | rfl | rfl <;> rfl
theorem info_rowG : (Tryz.prog.info? 39).map (fun i => (i.zero, i.size, i.bytes)) = some (some (.agg #[.string ⟨#[]⟩, .int .i64 0, .int .i64 0, .int .i64 0, .bool false]), 5, 48) := by kernel_rfl
set_option maxRecDepth 100000 in
set_option maxHeartbeats 8000000 in
theorem part_any (g : SGrp) (nm : List UInt8) (kind : Int) (neg : Bool) (B : Nat) (w : World) (hg : ChartIn w B g.Ac g.nc g.cc g.chart) (hB : B ≤ w.heap.size) (hn : g.nc ≤ 1000) (hc : ∀ x ∈ g.chart, 0 ≤ x.code ∧ x.code ≤ 99999) :
    Calls Tryz.prog 22 #[grpV g, .string ⟨nm.toArray⟩, .int .i64 kind, .bool neg] w fun e w' => ∃ v, e = .returned v ∧ w'.ownsRow w.heap.size 39 5 v (secRows g.chart nm kind neg).length (rowsCells (secRows g.chart nm kind neg)) ∧ Below w.heap.size w w' := by
  obtain ⟨i0, hi0, hz0, hz1, hz2⟩ := info_parts info_rowG
  obtain ⟨cu, yr, mo, pe, Ac, nc, cc, ch, ro, Ae, ne, ce, es⟩ := g
  unfold grpV
  simp only [] at hg hn hc ⊢
  have HC := Lib.hid hg
  have HCO := Lib.hid hc
  have HLC := Lib.hid hg.len
  clear hg hc
  have HBX := Lib.hid (((Below.refl w.heap.size w).alloc (Nat.le_refl _) (.cells #[.string ⟨cu.toArray⟩, .int .i64 yr, .int .i64 mo, .int .i64 pe, .slice Ac nc cc, .int .i64 ro.c0, .int .i64 ro.c1, .int .i64 ro.c2, .int .i64 ro.c3, .int .i64 ro.c4, .int .i64 ro.c5, .int .i64 ro.c6, .int .i64 ro.c7, .int .i64 ro.c8, .int .i64 ro.c9, .int .i64 ro.c10, .int .i64 ro.c11, .int .i64 ro.c12, .int .i64 ro.c13, .int .i64 ro.c14, .slice Ae ne ce] 29)).alloc (by simp) (.cells #[.string ⟨nm.toArray⟩, .int .i64 0, .int .i64 1, .int .i64 0, .bool false] 39))
  have HE := Lib.hid ((Blk.new w 29 #[.string ⟨cu.toArray⟩, .int .i64 yr, .int .i64 mo, .int .i64 pe, .slice Ac nc cc, .int .i64 ro.c0, .int .i64 ro.c1, .int .i64 ro.c2, .int .i64 ro.c3, .int .i64 ro.c4, .int .i64 ro.c5, .int .i64 ro.c6, .int .i64 ro.c7, .int .i64 ro.c8, .int .i64 ro.c9, .int .i64 ro.c10, .int .i64 ro.c11, .int .i64 ro.c12, .int .i64 ro.c13, .int .i64 ro.c14, .slice Ae ne ce]).alloc (.cells #[.string ⟨nm.toArray⟩, .int .i64 0, .int .i64 1, .int .i64 0, .bool false] 39))
  have HO0 : Hid (((w.alloc (.cells #[.string ⟨cu.toArray⟩, .int .i64 yr, .int .i64 mo, .int .i64 pe, .slice Ac nc cc, .int .i64 ro.c0, .int .i64 ro.c1, .int .i64 ro.c2, .int .i64 ro.c3, .int .i64 ro.c4, .int .i64 ro.c5, .int .i64 ro.c6, .int .i64 ro.c7, .int .i64 ro.c8, .int .i64 ro.c9, .int .i64 ro.c10, .int .i64 ro.c11, .int .i64 ro.c12, .int .i64 ro.c13, .int .i64 ro.c14, .slice Ae ne ce] 29)).alloc (.cells #[.string ⟨nm.toArray⟩, .int .i64 0, .int .i64 1, .int .i64 0, .bool false] 39)).ownsRow (w.heap.size + 1) 39 5 (.slice (some ⟨w.heap.size + 1, 0, none⟩) 1 1) 1 (rowCells ⟨nm, 0, 1, 0, false⟩)) := by
    have := World.ownsRow_lit (base := w.heap.size + 1) (e := 39) (size := 5) (w.alloc (.cells #[.string ⟨cu.toArray⟩, .int .i64 yr, .int .i64 mo, .int .i64 pe, .slice Ac nc cc, .int .i64 ro.c0, .int .i64 ro.c1, .int .i64 ro.c2, .int .i64 ro.c3, .int .i64 ro.c4, .int .i64 ro.c5, .int .i64 ro.c6, .int .i64 ro.c7, .int .i64 ro.c8, .int .i64 ro.c9, .int .i64 ro.c10, .int .i64 ro.c11, .int .i64 ro.c12, .int .i64 ro.c13, .int .i64 ro.c14, .slice Ae ne ce] 29)) #[.string ⟨nm.toArray⟩, .int .i64 0, .int .i64 1, .int .i64 0, .bool false] 1 (by simp) (by simp only [maxLen]; omega) rfl
    simp only [World.size_alloc] at this
    exact this
  go_enter Tryz.func22, Tryz.ntmps22
  go_wp2_with fail
  go_loopw [9, 10] (fun out iv wr => ∃ k : Nat, iv = .int .i64 k ∧ k ≤ nc ∧ wr.ownsRow (w.heap.size + 1) 39 5 out (secRows (ch.take k) nm kind neg).length (rowsCells (secRows (ch.take k) nm kind neg)) ∧ Below w.heap.size w wr ∧ Blk wr w.heap.size 29 #[.string ⟨cu.toArray⟩, .int .i64 yr, .int .i64 mo, .int .i64 pe, .slice Ac nc cc, .int .i64 ro.c0, .int .i64 ro.c1, .int .i64 ro.c2, .int .i64 ro.c3, .int .i64 ro.c4, .int .i64 ro.c5, .int .i64 ro.c6, .int .i64 ro.c7, .int .i64 ro.c8, .int .i64 ro.c9, .int .i64 ro.c10, .int .i64 ro.c11, .int .i64 ro.c12, .int .i64 ro.c13, .int .i64 ro.c14, .slice Ae ne ce]) (fun _ iv _ => nc - (intOf iv).toNat)
  case atStart => exact ⟨0, rfl, by omega, HO0.out, HBX.out, HE.out⟩
  case round =>
    obtain ⟨k, rfl, hk, hown, hbr, hbl⟩ := hrel
    obtain ⟨wo, rfl⟩ : ∃ wo : World, wo = wr := ⟨_, rfl⟩
    obtain ⟨Ao, co, rfl⟩ := own_slice hown
    have HO := Lib.hid hown
    have HEO := Lib.hid hbl
    have hlt0 := hbl.lt
    have g4 := hbl.cell 4
    simp only [List.getElem?_toArray, List.getElem?_cons_succ, List.getElem?_cons_zero] at g4
    have hs1 := hbr.size
    clear hown hbl
    by_cases hlt : k < nc
    case neg =>
      have k3 : decide ((k : Int) < (nc : Int)) = false := by rw [decide_eq_false_iff_not]; omega
      have F : Hid (secRows (ch.take k) nm kind neg = secRows ch nm kind neg) := by show _ = _; rw [List.take_of_length_le (by rw [HLC.out]; omega)]
      go_wp2_with fail
      go_ret
      refine ⟨_, rfl, ?_, hbr⟩
      rw [← F.out]
      exact own_mono HO.out (by omega)
    case pos =>
      have k3 : decide ((k : Int) < (nc : Int)) = true := by rw [decide_eq_true_eq]; omega
      have b15 : (k : Int) < (nc : Int) := by omega
      have hkl : k < ch.length := by rw [HLC.out]; exact hlt
      obtain ⟨ad, rfl, hbk, c0, c1, c2, c3⟩ := (HC.out.rd.lowg hB (Nat.le_refl _) hbr).acc_at hlt
      have hlen : (secRows (ch.take k) nm kind neg).length ≤ k + 1 := by have := secRows_len (ch.take k) nm kind neg; rw [List.length_take] at this; omega
      have hco := HCO.out _ (getD_memA hkl)
      have HY : Hid (((ch.getD k default).kind == kind) = true → secRows (ch.take (k + 1)) nm kind neg = secRows (ch.take k) nm kind neg ++ [accRow neg (ch.getD k default)]) := secRows_yes hkl
      have HN : Hid (((ch.getD k default).kind == kind) = false → secRows (ch.take (k + 1)) nm kind neg = secRows (ch.take k) nm kind neg) := secRows_no hkl
      clear hkl
      generalize ch.getD k default = x at *
      generalize secRows (ch.take k) nm kind neg = rs at *
      obtain ⟨x0, x1, x2, x3⟩ := x
      simp only [] at c0 c1 c2 c3 HY HN hco
      clear c2 c3
      cases hkd : x1 == kind
      case false =>
        have F := Lib.hid (HN.out hkd)
        have HKD := Lib.hid hkd
        clear HY HN
        go_wp2_with fail
        exact ⟨⟨k + 1, by go_num, by omega, by rw [F.out]; exact HO.out, hbr, HEO.out⟩, by simp [intOf]; omega⟩
      case true =>
        have F := Lib.hid (HY.out hkd)
        have HKD := Lib.hid hkd
        clear HY HN
        have q1 : (Lib.itoa x0).length ≤ 21 := itoa_len (by omega) (by omega)
        have hsz : ¬ 9223372036854775807 < 8 + (Lib.itoa x0).length := by omega
        have hsz2 : ¬ 9223372036854775807 < (Lib.itoa x0).length + 8 := by omega
        have HNU := Lib.hid (refNumber_any x0 wo (by omega) (by omega))
        have HCAT : Hid ((⟨#[65, 99, 99, 111, 117, 110, 116, 32]⟩ : ByteArray) ++ ⟨(Lib.itoa x0).toArray⟩ = ⟨(accName x0).toArray⟩) := by
          show _ = _
          unfold accName
          apply ByteArray.ext
          simp
        go_wp2_with fail
        refine HNU.out.mono ?_
        rintro e w1 ⟨rfl, hb1⟩
        have HO1 := Lib.hid (own_below HO.out hb1)
        have HB1 := Lib.hid (below_two hbr hb1)
        have HE1 := Lib.hid (HEO.out.below hb1 hlt0)
        have hs2 : wo.heap.size ≤ w1.heap.size := hb1.size
        clear hb1 HNU g4 c0 c1
        have hcat := HCAT.out
        go_wp2_with (at_builtin; refine wpList_append_any _ rfl (.tmp 36) (.tmp 44) _ rfl (w.heap.size + 1) 39 i0 _ 5 48 Tryz.underlying32 hi0 hz0 hz1 hz2 rfl (by omega) _ rs.length (rowsCells rs) rfl (HO1.out.alloc _) (w1.heap.size + 1) (some ⟨w1.heap.size, 0, none⟩) 1 1 (rowCells (accRow neg ⟨x0, x1, x2, x3⟩)) rfl (reads_one w1 #[.string ⟨(accName x0).toArray⟩, .int .i64 1, .int .i64 x0, .int .i64 x0, .bool neg] 39 5 rfl) (rowG_one _) (by simp only [maxLen]; omega) (by omega) (by simp only [World.size_alloc]; omega) ?_; intro v4 w4 hown4 hg4 hat4)
        refine ⟨⟨k + 1, by go_num, by omega, ?_, ?_, ?_⟩, by simp [intOf]; omega⟩
        · rw [F.out, List.length_append, List.length_singleton, rowsCells_app, rowsCells_one]
          exact hown4
        · exact (HB1.out.alloc (by omega) _).grown hg4 (by simp only [World.size_alloc]; omega) (fun j hj => by have := own_base HO.out j hj; omega)
        · exact (HE1.out.alloc _).grown hg4 (by intro e; have := own_base HO.out _ e.symm; omega)
theorem grpR_codes {g : SGrp} (h : grpR g.p = true) : (∀ x ∈ g.chart, 1 ≤ x.code ∧ x.code ≤ 99999 ∧ 1 ≤ x.kind ∧ x.kind ≤ 5) ∧ chartR g.chart true = true := by
  unfold grpR booksR at h
  simp only [Bool.and_eq_true] at h
  have hch : chartR g.chart true = true := h.1.2.2.1
  refine ⟨fun x hx => ?_, hch⟩
  unfold chartR at hch
  simp only [Bool.and_eq_true, List.all_eq_true, List.mem_range, decide_eq_true_eq] at hch
  obtain ⟨i, hi, rfl⟩ := List.mem_iff_getElem.1 hx
  have := hch.2 i hi
  unfold chartAtR at this
  rw [Bool.and_eq_true] at this
  have hp := this.1
  have e : g.chart.getD i default = g.chart[i] := by simp [List.getD, hi]
  rw [e] at hp
  unfold properR at hp
  rw [Bool.and_eq_true] at hp
  obtain ⟨h1, h2, h3, h4, _⟩ := accIn_iff.1 hp.1
  exact ⟨h1, h2, h3, h4⟩
def nmAssets : List UInt8 := [65, 115, 115, 101, 116, 115]
def nmLiab : List UInt8 := [76, 105, 97, 98, 105, 108, 105, 116, 105, 101, 115]
def nmEquity : List UInt8 := [69, 113, 117, 105, 116, 121]
def nmIncome : List UInt8 := [73, 110, 99, 111, 109, 101]
def nmExpenses : List UInt8 := [69, 120, 112, 101, 110, 115, 101, 115]
/-- the rows of the statement of financial position, of the income statement -/
def posRows (ch : List SAcc) : List SRow := secRows ch nmAssets 1 false ++ secRows ch nmLiab 2 true ++ secRows ch nmEquity 3 true
def incRows (ch : List SAcc) : List SRow := secRows ch nmIncome 4 true ++ secRows ch nmExpenses 5 false
end Go.Proofs.YtcmmppkmkejniaaGreatDoor
