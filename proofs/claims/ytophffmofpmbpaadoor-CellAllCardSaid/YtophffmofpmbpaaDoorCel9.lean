/-
  cell.Parse.
-/
import Derived.Test.YtophffmofpmbpaaDoorCelPz2
import Derived.LoopTactic
import Derived.BigRegion
namespace Go.Proofs.YtophffmofpmbpaaDoor
open Go.RowKit
set_option linter.unusedVariables false
def strV (l : List UInt8) : Value := .string ⟨l.toArray⟩
theorem split_words (l : List UInt8) : Lib.splitB ⟨#[32]⟩ 0 (Lib.countB ⟨l.toArray⟩ ⟨#[32]⟩) ⟨l.toArray⟩ = (wordsL l).map fun x => (⟨x.toArray⟩ : ByteArray) := by
  have h := Lib.splitB_data ⟨#[32]⟩ 0 (Lib.countB ⟨l.toArray⟩ ⟨#[32]⟩) ⟨l.toArray⟩
  have e : Lib.splitK [32] 0 (Lib.countB ⟨l.toArray⟩ ⟨#[32]⟩) l = wordsL l := by
    apply splitK_words
    show l.count 32 ≤ Lib.count l [32]
    rw [Lib.count_one]
    exact Nat.le_refl _
  have h2 : (Lib.splitB ⟨#[32]⟩ 0 (Lib.countB ⟨l.toArray⟩ ⟨#[32]⟩) ⟨l.toArray⟩).map (·.data.toList) = wordsL l := h.trans e
  rw [← h2, List.map_map]
  conv => lhs; rw [← List.map_id (Lib.splitB ⟨#[32]⟩ 0 (Lib.countB ⟨l.toArray⟩ ⟨#[32]⟩) ⟨l.toArray⟩)]
  apply List.map_congr_left
  intro b _
  rfl
theorem split_any (l : List UInt8) (w : World) (hE : Env w) (hl : l.length ≤ 4294967000) :
    Calls Tryd.prog 34 #[.string ⟨l.toArray⟩, .string ⟨#[32]⟩] w fun e w' => e = .returned (.slice (some ⟨w.heap.size, 0, none⟩) (wordsL l).length (wordsL l).length) ∧ Blk w' w.heap.size 9 ((wordsL l).map strV).toArray ∧ Below w.heap.size w w' := by
  obtain ⟨m, hm⟩ := hE.maxlen
  refine (Tryd.strings_Split ⟨l.toArray⟩ ⟨#[32]⟩ m w (by rw [mk_size]; omega) hm (by decide)).mono ?_
  rintro e w1 ⟨rfl, rfl⟩
  have hn := Lib.splitB_all ⟨#[32]⟩ (by decide) 0 _ ⟨l.toArray⟩ rfl
  rw [split_words, List.length_map] at hn
  refine ⟨by rw [hn], ?_, (Below.refl w.heap.size w).alloc (Nat.le_refl _) _⟩
  rw [split_words, List.map_map]
  exact Blk.new w _ _
theorem word_cell {w : World} {G : Nat} {T : TypeId} {ws : List (List UInt8)} {j : Nat} (h : Blk w G T (ws.map strV).toArray) (hj : j < ws.length) : w.cell? ⟨G, j, none⟩ = some (.string ⟨(ws.getD j []).toArray⟩) := by
  rw [h.cell j]
  simp [List.getD, hj, strV]
theorem wordsL_len : ∀ (l : List UInt8), ∀ x ∈ wordsL l, x.length ≤ l.length := by
  intro l
  induction l with
  | nil => intro x hx; simp [wordsL] at hx; simp [hx]
  | cons b r ih =>
    intro x hx
    simp only [wordsL] at hx
    split at hx
    · rcases List.mem_cons.1 hx with rfl | h
      · simp
      · have := ih x h; simp; omega
    · split at hx
      · rename_i h; exact absurd h (wordsL_ne r)
      · rename_i y ys h
        rcases List.mem_cons.1 hx with rfl | h2
        · have := ih y (by rw [h]; simp); simp; omega
        · have := ih x (by rw [h]; simp [h2]); simp; omega
theorem drop_head {x : List UInt8} {rest all : List (List UInt8)} {o : Nat} (h : x :: rest = all.drop o) : o < all.length ∧ all.getD o [] = x ∧ rest = all.drop (o + 1) := by
  have hl : o < all.length := by
    apply Classical.byContradiction
    intro hn
    rw [List.drop_eq_nil_of_le (by omega)] at h
    cases h
  rw [List.drop_eq_getElem_cons hl] at h
  injection h with h1 h2
  exact ⟨hl, by simp [List.getD, hl, h1], h2⟩
theorem run_p0 (P : Nat) (w : World) : (Instr.index 52 (.agg #[.pointer (some ⟨P, 1, none⟩), .pointer (some ⟨P, 2, none⟩), .pointer (some ⟨P, 3, none⟩)]) (.int .i64 0)).run Tryd.prog w = .ok (.pointer (some ⟨P, 1, none⟩)) w := by kernel_rfl
theorem run_p1 (P : Nat) (w : World) : (Instr.index 52 (.agg #[.pointer (some ⟨P, 1, none⟩), .pointer (some ⟨P, 2, none⟩), .pointer (some ⟨P, 3, none⟩)]) (.int .i64 1)).run Tryd.prog w = .ok (.pointer (some ⟨P, 2, none⟩)) w := by kernel_rfl
theorem run_p2 (P : Nat) (w : World) : (Instr.index 52 (.agg #[.pointer (some ⟨P, 1, none⟩), .pointer (some ⟨P, 2, none⟩), .pointer (some ⟨P, 3, none⟩)]) (.int .i64 2)).run Tryd.prog w = .ok (.pointer (some ⟨P, 3, none⟩)) w := by kernel_rfl
theorem fill_neg {a : Int} {fs : List Int} {ws : List (List UInt8)} (h : a < 0) : fillF (a :: fs) ws = (fillF fs ws).map (fun r => (a :: r.1, r.2)) := by
  conv => lhs; unfold fillF
  rw [if_pos h]
theorem fill_none {a : Int} {fs : List Int} (h : ¬ a < 0) : fillF (a :: fs) [] = none := by
  unfold fillF
  rw [if_neg h]
theorem fill_word {a : Int} {fs : List Int} {x : List UInt8} {ws : List (List UInt8)} (h : ¬ a < 0) : fillF (a :: fs) (x :: ws) = (fillF fs ws).map (fun r => (numW x :: r.1, r.2)) := by
  conv => lhs; unfold fillF
  rw [if_neg h]
/-- what the loop has done: the field that comes next, the fields, what is left of the words -/
def PcI (w : World) (P k : Nat) (all : List (List UInt8)) (R : Option (List Int × List (List UInt8))) (s i : Value) (wr : World) : Prop :=
  ∃ (a b c : Int) (o : Nat) (rest : List (List UInt8)), s = .slice (some ⟨w.heap.size + 1, o, none⟩) rest.length rest.length ∧ (rest = all.drop o ∨ rest = []) ∧
    Blk wr P 23 #[.int .i64 k, .int .i64 a, .int .i64 b, .int .i64 c] ∧ Blk wr (w.heap.size + 1) 9 (all.map strV).toArray ∧ Blk wr w.heap.size 23 #[.int .i64 0, .int .i64 0, .int .i64 0, .int .i64 0] ∧ Below w.heap.size w wr ∧
    ((i = .int .i64 0 ∧ R = fillF [a, b, c] rest) ∨ (i = .int .i64 1 ∧ R = (fillF [b, c] rest).map (fun r => (a :: r.1, r.2))) ∨ (i = .int .i64 2 ∧ R = (fillF [c] rest).map (fun r => (a :: b :: r.1, r.2))) ∨ (i = .int .i64 3 ∧ R = some ([a, b, c], rest)))
def pcR (l : List UInt8) : Value := .tuple #[cellV ((pcD l).getD ⟨0, 0, 0, 0⟩), .int .i64 (if (pcD l).isSome then 0 else 3)]
theorem pcR_no {l : List UInt8} (h : pcD l = none) : pcR l = .tuple #[.agg #[.int .i64 0, .int .i64 0, .int .i64 0, .int .i64 0], .int .i64 3] := by
  unfold pcR; rw [h]; rfl
theorem pcR_yes {l : List UInt8} {c : SCell} (h : pcD l = some c) : pcR l = .tuple #[cellV c, .int .i64 0] := by
  unfold pcR; rw [h]; rfl
set_option maxRecDepth 100000 in
set_option maxHeartbeats 8000000 in
theorem parse_any (l : List UInt8) (w : World) (hE : Env w) (hEE : EnvE w) (hES : NG ≤ w.heap.size) (hl : l.length ≤ 4294967000) :
    Calls Tryd.prog 16 #[.string ⟨l.toArray⟩] w fun e w' => e = .returned (pcR l) ∧ Below w.heap.size w w' := by
  have hz0 := Blk.new w 23 #[.int .i64 0, .int .i64 0, .int .i64 0, .int .i64 0]
  have HZ0 := Lib.hid hz0
  have hb0 := (Below.refl w.heap.size w).alloc (Nat.le_refl _) (.cells (#[.int .i64 0, .int .i64 0, .int .i64 0, .int .i64 0] : Array Value) 23)
  have HB0 := Lib.hid hb0
  have HSP := Lib.hid (split_any l (w.alloc (.cells #[.int .i64 0, .int .i64 0, .int .i64 0, .int .i64 0] 23)) (hE.after hb0) hl)
  clear hz0 hb0
  have hwl := wordsL_ne l
  obtain ⟨w0, ws, hws⟩ : ∃ w0 ws, wordsL l = w0 :: ws := by
    cases h : wordsL l with
    | nil => exact absurd h hwl
    | cons a b => exact ⟨a, b, rfl⟩
  have HPC : Hid (pcD l = if stOf w0 = 0 then none else finD l (stOf w0) (fillF (startF (stOf w0)) ws)) := by show _ = _; unfold pcD; rw [hws]
  have hwlen := wordsL_len l
  rw [hws] at HSP hwlen
  have HWL := Lib.hid hwlen
  clear hwlen
  clear hwl hws
  go_enter Tryd.func16, Tryd.ntmps16
  go_wp2_with fail
  refine HSP.out.mono ?_
  rintro e w1 ⟨rfl, hk1, hb⟩
  have HB1 := Lib.hid (below_two HB0.out hb)
  have HZ1 := Lib.hid (HZ0.out.below hb (by simp))
  rw [World.size_alloc] at hk1
  have hwn : 0 < (w0 :: ws).length := by simp
  have d0 := word_cell hk1 (j := 0) hwn
  simp only [List.getD_cons_zero] at d0
  have HK1 := Lib.hid hk1
  have hkz := hk1.lt
  have z0 : (0 : Int) < ((w0 :: ws).length : Int) := by omega
  clear hb hk1 HSP
  go_wp2_with fail
  refine (stage_any w0 _).mono ?_
  rintro e w2 ⟨rfl, hb⟩
  have HB2 := Lib.hid (below_two HB1.out hb)
  have hz2 := HZ1.out.below hb (by have := HB1.out.size; have := hkz; omega)
  have HK2 := Lib.hid (HK1.out.below hb HK1.out.lt)
  have HZ2 := Lib.hid hz2
  clear hb d0 HZ1 HK1
  by_cases hst : stOf w0 = 0
  · have hpn : pcD l = none := by rw [HPC.out, if_pos hst]
    have HPN := Lib.hid (pcR_no hpn)
    rw [hst]
    obtain ⟨y0, y1, y2, y3⟩ := st_blk hz2
    have fz := hz2.frozen
    have hbk := set_cell (a' := .int .i64 0) (b' := .int .i64 0) (c' := .int .i64 0) (d' := .int .i64 0) hz2
    have hbz := (((HB2.out.setCell (p := ⟨w.heap.size, 0, none⟩) (Nat.le_refl _) (.int .i64 0)).setCell (p := ⟨w.heap.size, 1, none⟩) (Nat.le_refl _) (.int .i64 0)).setCell (p := ⟨w.heap.size, 2, none⟩) (Nat.le_refl _) (.int .i64 0)).setCell (p := ⟨w.heap.size, 3, none⟩) (Nat.le_refl _) (.int .i64 0)
    have HBK := Lib.hid hbk
    have HBZ := Lib.hid hbz
    clear hbk hbz hz2 hpn
    go_wp2_with fail
    obtain ⟨z0, z1, z2, z3⟩ := st_blk HBK.out
    refine bodyPost_ret (v := .tuple #[.agg #[.int .i64 0, .int .i64 0, .int .i64 0, .int .i64 0], .int .i64 3]) ?_ rfl ⟨by rw [HPN.out], HBZ.out⟩
    simp [results, Tryd.results16, go_sem, z0, z1, z2, z3]
  obtain ⟨k, hk⟩ : ∃ k, stOf w0 = k := ⟨_, rfl⟩
  have HPC2 : Hid (pcD l = finD l k (fillF (startF k) ws)) := by show _ = _; rw [HPC.out, if_neg hst, hk]
  have hk1 : 1 ≤ k := by omega
  have e1 : decide (1 ≤ k) = true := by rw [decide_eq_true_eq]; exact hk1
  rw [hk, e1]
  clear hst hk HPC hz2
  go_wp2_with fail
  refine (of_any k 0 0 0 _).mono ?_
  rintro e w3 ⟨rfl, hb⟩
  have HB3 := Lib.hid (below_two HB2.out hb)
  have HZ3 := Lib.hid (HZ2.out.below hb HZ2.out.lt)
  have HK3 := Lib.hid (HK2.out.below hb HK2.out.lt)
  obtain ⟨a, b, c, hof, hsf⟩ : ∃ a b c : Int, cellV (ofC k 0 0 0) = .agg #[.int .i64 k, .int .i64 a, .int .i64 b, .int .i64 c] ∧ startF k = [a, b, c] := ⟨_, _, _, rfl, rfl⟩
  rw [hof]
  clear hof hb
  have HP4 := Lib.hid (Blk.new w3 23 #[.int .i64 k, .int .i64 a, .int .i64 b, .int .i64 c])
  have HB4 := Lib.hid (HB3.out.alloc HB3.out.size (.cells #[.int .i64 k, .int .i64 a, .int .i64 b, .int .i64 c] 23))
  have HZ4 := Lib.hid (HZ3.out.alloc (.cells #[.int .i64 k, .int .i64 a, .int .i64 b, .int .i64 c] 23))
  have HK4 := Lib.hid (HK3.out.alloc (.cells #[.int .i64 k, .int .i64 a, .int .i64 b, .int .i64 c] 23))
  have hg1 : w.heap.size < w3.heap.size := HZ3.out.lt
  have hg2 : w.heap.size + 1 < w3.heap.size := HK3.out.lt
  generalize hP : w3.heap.size = P at *
  clear HB3 HZ3 HK3 HB2 HZ2 HK2 HB1 HZ0 HB0
  obtain ⟨R, hR⟩ : ∃ R, fillF (startF k) ws = R := ⟨_, rfl⟩
  have HR0 : Hid (R = fillF [a, b, c] ws) := by show _ = _; rw [← hR, hsf]
  rw [hR] at HPC2
  clear hR hsf
  have hW : ∃ (o : Nat), (ws = (w0 :: ws).drop o ∨ ws = []) ∧ (ws ≠ [] → o = 1) ∧ (ws = [] → o = 0) := by
    by_cases h : ws = []
    · exact ⟨0, .inr h, fun h2 => absurd h h2, fun _ => rfl⟩
    · exact ⟨1, .inl rfl, fun _ => rfl, fun h2 => absurd h2 h⟩
  go_wp2_with fail
  all_goals
    go_loopw [4, 9, 30] (fun s _ i wr => PcI w P k (w0 :: ws) R s i wr) (fun _ _ i _ => 3 - (intOf i).toNat)
    case atStart =>
      first
        | exact ⟨a, b, c, 1, ws, rfl, .inl rfl, HP4.out, HK4.out, HZ4.out, HB4.out, .inl ⟨rfl, HR0.out⟩⟩
        | exact ⟨a, b, c, 0, [], rfl, .inr rfl, HP4.out, HK4.out, HZ4.out, HB4.out, .inl ⟨rfl, by first | exact HR0.out | (rw [HR0.out, ‹ws = []›])⟩⟩
    case round =>
      obtain ⟨a, b, c, o, rest, rfl, hrest, hkP, hkG, hkZ, hbw, hcase⟩ := hrel
      have HKP := Lib.hid hkP
      have HKG := Lib.hid hkG
      have HKZ := Lib.hid hkZ
      have HBW := Lib.hid hbw
      obtain ⟨y0, y1, y2, y3⟩ := st_blk hkP
      have fk := hkP.frozen
      obtain ⟨z0, z1, z2, z3⟩ := st_blk hkZ
      have fz := hkZ.frozen
      clear hkP hkG hkZ hbw
      rcases hcase with ⟨rfl, hR⟩ | ⟨rfl, hR⟩ | ⟨rfl, hR⟩ | ⟨rfl, hR⟩
      · have hR := Lib.hid hR
        have hi := run_p0 P
        by_cases hf : a < 0
        · have b1 : decide (a < 0) = true := by rw [decide_eq_true_eq]; exact hf
          go_wp2_with fail
          go_round
          case rel => exact ⟨a, b, c, o, rest, rfl, hrest, HKP.out, HKG.out, HKZ.out, HBW.out, .inr (.inl ⟨rfl, by rw [hR.out, fill_neg hf]⟩)⟩
          case measure => simp [intOf]
        have b1 : decide (a < 0) = false := by rw [decide_eq_false_iff_not]; exact hf
        cases rest with
        | nil =>
          have hpn : pcD l = none := by rw [HPC2.out, hR.out, fill_none hf]; rfl
          have HPN := Lib.hid (pcR_no hpn)
          clear hpn
          have HBK := Lib.hid (set_cell (a' := .int .i64 0) (b' := .int .i64 0) (c' := .int .i64 0) (d' := .int .i64 0) HKZ.out)
          have HBZ := Lib.hid ((((HBW.out.setCell (p := ⟨w.heap.size, 0, none⟩) (Nat.le_refl _) (.int .i64 0)).setCell (p := ⟨w.heap.size, 1, none⟩) (Nat.le_refl _) (.int .i64 0)).setCell (p := ⟨w.heap.size, 2, none⟩) (Nat.le_refl _) (.int .i64 0)).setCell (p := ⟨w.heap.size, 3, none⟩) (Nat.le_refl _) (.int .i64 0))
          go_wp2_with fail
          obtain ⟨z0, z1, z2, z3⟩ := st_blk HBK.out
          refine bodyPost_ret (v := .tuple #[.agg #[.int .i64 0, .int .i64 0, .int .i64 0, .int .i64 0], .int .i64 3]) ?_ rfl ⟨by rw [HPN.out], HBZ.out⟩
          simp [results, Tryd.results16, go_sem, z0, z1, z2, z3]
        | cons x rest =>
          obtain ⟨ho, hx, hrs⟩ := drop_head (hrest.resolve_right (fun h => by cases h))
          have d0 := word_cell HKG.out ho
          rw [hx] at d0
          have hxl : x.length ≤ 4294967000 := by have := HWL.out x (by rw [← hx, show (w0 :: ws).getD o [] = (w0 :: ws)[o] from by simp only [List.getD, List.getElem?_eq_getElem ho, Option.getD_some]]; exact List.getElem_mem _); omega
          have q0 : ((rest.length + 1 : Int) == 0) = false := by rw [beq_eq_false_iff_ne]; omega
          have HRS := Lib.hid hrs
          clear hrest hrs hx
          have hf' : ¬ a < 0 := hf
          have HNF := Lib.hid hf'
          clear hf' hf
          go_wp2_with fail
          refine (cnumber_any x _ (hE.after HBW.out) (hEE.below HBW.out hES) (by omega)).mono ?_
          rintro e' w7 ⟨rfl, hb7⟩
          have kP := HKP.out.below hb7 HKP.out.lt
          have kG := HKG.out.below hb7 HKG.out.lt
          have kZ := HKZ.out.below hb7 HKZ.out.lt
          have kB := below_two HBW.out hb7
          have KP : Hid (Blk (w7.setCell ⟨P, 1, none⟩ (.int .i64 (numW x))) P 23 #[.int .i64 k, .int .i64 (numW x), .int .i64 b, .int .i64 c]) := by
            show Blk _ _ _ _
            have := kP.set_ 1 (.int .i64 (numW x))
            simpa using this
          have KG := Lib.hid (kG.far (p := ⟨P, 1, none⟩) (by simp only []; omega) (.int .i64 (numW x)))
          have KZ := Lib.hid (kZ.far (p := ⟨P, 1, none⟩) (by simp only []; omega) (.int .i64 (numW x)))
          have KB := Lib.hid (kB.setCell (p := ⟨P, 1, none⟩) (by simp only []; omega) (.int .i64 (numW x)))
          clear y0 y1 y2 y3 fk z0 z1 z2 z3 fz d0
          obtain ⟨y0, y1, y2, y3⟩ := st_blk kP
          have fk := kP.frozen
          clear kP kG kZ kB hb7
          have HNX : Hid (R = (fillF [b, c] rest).map (fun r => (numW x :: r.1, r.2))) := by show _ = _; rw [hR.out, fill_word (by have := HNF.out; omega)]
          generalize numW x = v at *
          by_cases hr0 : rest = []
          · subst hr0
            go_wp2_with fail
            go_round
            case rel => exact ⟨v, b, c, o, [], rfl, .inr rfl, KP.out, KG.out, KZ.out, KB.out, .inr (.inl ⟨rfl, HNX.out⟩)⟩
            case measure => simp [intOf]
          · go_wp2_with fail
            go_round
            case rel => exact ⟨v, b, c, o + 1, rest, rfl, .inl HRS.out, KP.out, KG.out, KZ.out, KB.out, .inr (.inl ⟨rfl, HNX.out⟩)⟩
            case measure => simp [intOf]
      · have hR := Lib.hid hR
        have hi := run_p1 P
        by_cases hf : b < 0
        · have b1 : decide (b < 0) = true := by rw [decide_eq_true_eq]; exact hf
          go_wp2_with fail
          go_round
          case rel => exact ⟨a, b, c, o, rest, rfl, hrest, HKP.out, HKG.out, HKZ.out, HBW.out, .inr (.inr (.inl ⟨rfl, by rw [hR.out, fill_neg hf]; simp only [Option.map_map]; rfl⟩))⟩
          case measure => simp [intOf]
        have b1 : decide (b < 0) = false := by rw [decide_eq_false_iff_not]; exact hf
        cases rest with
        | nil =>
          have hpn : pcD l = none := by rw [HPC2.out, hR.out, fill_none hf]; rfl
          have HPN := Lib.hid (pcR_no hpn)
          clear hpn
          have HBK := Lib.hid (set_cell (a' := .int .i64 0) (b' := .int .i64 0) (c' := .int .i64 0) (d' := .int .i64 0) HKZ.out)
          have HBZ := Lib.hid ((((HBW.out.setCell (p := ⟨w.heap.size, 0, none⟩) (Nat.le_refl _) (.int .i64 0)).setCell (p := ⟨w.heap.size, 1, none⟩) (Nat.le_refl _) (.int .i64 0)).setCell (p := ⟨w.heap.size, 2, none⟩) (Nat.le_refl _) (.int .i64 0)).setCell (p := ⟨w.heap.size, 3, none⟩) (Nat.le_refl _) (.int .i64 0))
          go_wp2_with fail
          obtain ⟨z0, z1, z2, z3⟩ := st_blk HBK.out
          refine bodyPost_ret (v := .tuple #[.agg #[.int .i64 0, .int .i64 0, .int .i64 0, .int .i64 0], .int .i64 3]) ?_ rfl ⟨by rw [HPN.out], HBZ.out⟩
          simp [results, Tryd.results16, go_sem, z0, z1, z2, z3]
        | cons x rest =>
          obtain ⟨ho, hx, hrs⟩ := drop_head (hrest.resolve_right (fun h => by cases h))
          have d0 := word_cell HKG.out ho
          rw [hx] at d0
          have hxl : x.length ≤ 4294967000 := by have := HWL.out x (by rw [← hx, show (w0 :: ws).getD o [] = (w0 :: ws)[o] from by simp only [List.getD, List.getElem?_eq_getElem ho, Option.getD_some]]; exact List.getElem_mem _); omega
          have q0 : ((rest.length + 1 : Int) == 0) = false := by rw [beq_eq_false_iff_ne]; omega
          have HRS := Lib.hid hrs
          clear hrest hrs hx
          have hf' : ¬ b < 0 := hf
          have HNF := Lib.hid hf'
          clear hf' hf
          go_wp2_with fail
          refine (cnumber_any x _ (hE.after HBW.out) (hEE.below HBW.out hES) (by omega)).mono ?_
          rintro e' w7 ⟨rfl, hb7⟩
          have kP := HKP.out.below hb7 HKP.out.lt
          have kG := HKG.out.below hb7 HKG.out.lt
          have kZ := HKZ.out.below hb7 HKZ.out.lt
          have kB := below_two HBW.out hb7
          have KP : Hid (Blk (w7.setCell ⟨P, 2, none⟩ (.int .i64 (numW x))) P 23 #[.int .i64 k, .int .i64 a, .int .i64 (numW x), .int .i64 c]) := by
            show Blk _ _ _ _
            have := kP.set_ 2 (.int .i64 (numW x))
            simpa using this
          have KG := Lib.hid (kG.far (p := ⟨P, 2, none⟩) (by simp only []; omega) (.int .i64 (numW x)))
          have KZ := Lib.hid (kZ.far (p := ⟨P, 2, none⟩) (by simp only []; omega) (.int .i64 (numW x)))
          have KB := Lib.hid (kB.setCell (p := ⟨P, 2, none⟩) (by simp only []; omega) (.int .i64 (numW x)))
          clear y0 y1 y2 y3 fk z0 z1 z2 z3 fz d0
          obtain ⟨y0, y1, y2, y3⟩ := st_blk kP
          have fk := kP.frozen
          clear kP kG kZ kB hb7
          have HNX : Hid (R = (fillF [c] rest).map (fun r => (a :: numW x :: r.1, r.2))) := by show _ = _; rw [hR.out, fill_word (by have := HNF.out; omega)]; simp only [Option.map_map]; rfl
          generalize numW x = v at *
          by_cases hr0 : rest = []
          · subst hr0
            go_wp2_with fail
            go_round
            case rel => exact ⟨a, v, c, o, [], rfl, .inr rfl, KP.out, KG.out, KZ.out, KB.out, .inr (.inr (.inl ⟨rfl, HNX.out⟩))⟩
            case measure => simp [intOf]
          · go_wp2_with fail
            go_round
            case rel => exact ⟨a, v, c, o + 1, rest, rfl, .inl HRS.out, KP.out, KG.out, KZ.out, KB.out, .inr (.inr (.inl ⟨rfl, HNX.out⟩))⟩
            case measure => simp [intOf]
      · have hR := Lib.hid hR
        have hi := run_p2 P
        by_cases hf : c < 0
        · have b1 : decide (c < 0) = true := by rw [decide_eq_true_eq]; exact hf
          go_wp2_with fail
          go_round
          case rel => exact ⟨a, b, c, o, rest, rfl, hrest, HKP.out, HKG.out, HKZ.out, HBW.out, .inr (.inr (.inr ⟨rfl, by rw [hR.out, fill_neg hf]; simp [fillF]⟩))⟩
          case measure => simp [intOf]
        have b1 : decide (c < 0) = false := by rw [decide_eq_false_iff_not]; exact hf
        cases rest with
        | nil =>
          have hpn : pcD l = none := by rw [HPC2.out, hR.out, fill_none hf]; rfl
          have HPN := Lib.hid (pcR_no hpn)
          clear hpn
          have HBK := Lib.hid (set_cell (a' := .int .i64 0) (b' := .int .i64 0) (c' := .int .i64 0) (d' := .int .i64 0) HKZ.out)
          have HBZ := Lib.hid ((((HBW.out.setCell (p := ⟨w.heap.size, 0, none⟩) (Nat.le_refl _) (.int .i64 0)).setCell (p := ⟨w.heap.size, 1, none⟩) (Nat.le_refl _) (.int .i64 0)).setCell (p := ⟨w.heap.size, 2, none⟩) (Nat.le_refl _) (.int .i64 0)).setCell (p := ⟨w.heap.size, 3, none⟩) (Nat.le_refl _) (.int .i64 0))
          go_wp2_with fail
          obtain ⟨z0, z1, z2, z3⟩ := st_blk HBK.out
          refine bodyPost_ret (v := .tuple #[.agg #[.int .i64 0, .int .i64 0, .int .i64 0, .int .i64 0], .int .i64 3]) ?_ rfl ⟨by rw [HPN.out], HBZ.out⟩
          simp [results, Tryd.results16, go_sem, z0, z1, z2, z3]
        | cons x rest =>
          obtain ⟨ho, hx, hrs⟩ := drop_head (hrest.resolve_right (fun h => by cases h))
          have d0 := word_cell HKG.out ho
          rw [hx] at d0
          have hxl : x.length ≤ 4294967000 := by have := HWL.out x (by rw [← hx, show (w0 :: ws).getD o [] = (w0 :: ws)[o] from by simp only [List.getD, List.getElem?_eq_getElem ho, Option.getD_some]]; exact List.getElem_mem _); omega
          have q0 : ((rest.length + 1 : Int) == 0) = false := by rw [beq_eq_false_iff_ne]; omega
          have HRS := Lib.hid hrs
          clear hrest hrs hx
          have hf' : ¬ c < 0 := hf
          have HNF := Lib.hid hf'
          clear hf' hf
          go_wp2_with fail
          refine (cnumber_any x _ (hE.after HBW.out) (hEE.below HBW.out hES) (by omega)).mono ?_
          rintro e' w7 ⟨rfl, hb7⟩
          have kP := HKP.out.below hb7 HKP.out.lt
          have kG := HKG.out.below hb7 HKG.out.lt
          have kZ := HKZ.out.below hb7 HKZ.out.lt
          have kB := below_two HBW.out hb7
          have KP : Hid (Blk (w7.setCell ⟨P, 3, none⟩ (.int .i64 (numW x))) P 23 #[.int .i64 k, .int .i64 a, .int .i64 b, .int .i64 (numW x)]) := by
            show Blk _ _ _ _
            have := kP.set_ 3 (.int .i64 (numW x))
            simpa using this
          have KG := Lib.hid (kG.far (p := ⟨P, 3, none⟩) (by simp only []; omega) (.int .i64 (numW x)))
          have KZ := Lib.hid (kZ.far (p := ⟨P, 3, none⟩) (by simp only []; omega) (.int .i64 (numW x)))
          have KB := Lib.hid (kB.setCell (p := ⟨P, 3, none⟩) (by simp only []; omega) (.int .i64 (numW x)))
          clear y0 y1 y2 y3 fk z0 z1 z2 z3 fz d0
          obtain ⟨y0, y1, y2, y3⟩ := st_blk kP
          have fk := kP.frozen
          clear kP kG kZ kB hb7
          have HNX : Hid (R = some ([a, b, numW x], rest)) := by show _ = _; rw [hR.out, fill_word (by have := HNF.out; omega)]; simp [fillF]
          generalize numW x = v at *
          by_cases hr0 : rest = []
          · subst hr0
            go_wp2_with fail
            go_round
            case rel => exact ⟨a, b, v, o, [], rfl, .inr rfl, KP.out, KG.out, KZ.out, KB.out, .inr (.inr (.inr ⟨rfl, HNX.out⟩))⟩
            case measure => simp [intOf]
          · go_wp2_with fail
            go_round
            case rel => exact ⟨a, b, v, o + 1, rest, rfl, .inl HRS.out, KP.out, KG.out, KZ.out, KB.out, .inr (.inr (.inr ⟨rfl, HNX.out⟩))⟩
            case measure => simp [intOf]
      · have HPD : Hid (pcD l = finD l k (some ([a, b, c], rest))) := by show _ = _; rw [HPC2.out, hR]
        clear hR
        cases rest with
        | cons x rest =>
          have hpn : pcD l = none := by rw [HPD.out]; rfl
          have HPN := Lib.hid (pcR_no hpn)
          have q0 : decide ((0 : Int) < (rest.length : Int) + 1) = true := by rw [decide_eq_true_eq]; omega
          clear hpn
          have HBK := Lib.hid (set_cell (a' := .int .i64 0) (b' := .int .i64 0) (c' := .int .i64 0) (d' := .int .i64 0) HKZ.out)
          have HBZ := Lib.hid ((((HBW.out.setCell (p := ⟨w.heap.size, 0, none⟩) (Nat.le_refl _) (.int .i64 0)).setCell (p := ⟨w.heap.size, 1, none⟩) (Nat.le_refl _) (.int .i64 0)).setCell (p := ⟨w.heap.size, 2, none⟩) (Nat.le_refl _) (.int .i64 0)).setCell (p := ⟨w.heap.size, 3, none⟩) (Nat.le_refl _) (.int .i64 0))
          go_wp2_with fail
          obtain ⟨z0, z1, z2, z3⟩ := st_blk HBK.out
          refine bodyPost_ret (v := .tuple #[.agg #[.int .i64 0, .int .i64 0, .int .i64 0, .int .i64 0], .int .i64 3]) ?_ rfl ⟨by rw [HPN.out], HBZ.out⟩
          simp [results, Tryd.results16, go_sem, z0, z1, z2, z3]
        | nil =>
          have HVA : Hid (∀ w, Calls Tryd.prog 10 #[.agg #[.int .i64 k, .int .i64 a, .int .i64 b, .int .i64 c]] w fun e w' => e = .returned (.bool (validC ⟨k, a, b, c⟩)) ∧ Below w.heap.size w w') := fun w => valid_any ⟨k, a, b, c⟩ w
          have HTX : Hid (∀ w, Env w → Calls Tryd.prog 12 #[.agg #[.int .i64 k, .int .i64 a, .int .i64 b, .int .i64 c]] w fun e w' => e = .returned (.string ⟨(textC ⟨k, a, b, c⟩).toArray⟩) ∧ Below w.heap.size w w') := fun w h => text_any ⟨k, a, b, c⟩ w h
          go_wp2_with fail
          refine (HVA.out _).mono ?_
          rintro e' w7 ⟨rfl, hb7⟩
          have kP := HKP.out.below hb7 HKP.out.lt
          have kZ := HKZ.out.below hb7 HKZ.out.lt
          have HBW := Lib.hid (below_two HBW.out hb7)
          have HKP := Lib.hid kP
          have HKZ := Lib.hid kZ
          clear y0 y1 y2 y3 fk z0 z1 z2 z3 fz hb7
          obtain ⟨y0, y1, y2, y3⟩ := st_blk kP
          obtain ⟨z0, z1, z2, z3⟩ := st_blk kZ
          have fz := kZ.frozen
          clear kP kZ
          cases hv : validC ⟨k, a, b, c⟩
          · have hpn : pcD l = none := by rw [HPD.out]; unfold finD; simp only []; rw [hv]; rfl
            have HPN := Lib.hid (pcR_no hpn)
            clear hpn hv
            have HBK := Lib.hid (set_cell (a' := .int .i64 0) (b' := .int .i64 0) (c' := .int .i64 0) (d' := .int .i64 0) HKZ.out)
            have HBZ := Lib.hid ((((HBW.out.setCell (p := ⟨w.heap.size, 0, none⟩) (Nat.le_refl _) (.int .i64 0)).setCell (p := ⟨w.heap.size, 1, none⟩) (Nat.le_refl _) (.int .i64 0)).setCell (p := ⟨w.heap.size, 2, none⟩) (Nat.le_refl _) (.int .i64 0)).setCell (p := ⟨w.heap.size, 3, none⟩) (Nat.le_refl _) (.int .i64 0))
            go_wp2_with fail
            obtain ⟨z0, z1, z2, z3⟩ := st_blk HBK.out
            refine bodyPost_ret (v := .tuple #[.agg #[.int .i64 0, .int .i64 0, .int .i64 0, .int .i64 0], .int .i64 3]) ?_ rfl ⟨by rw [HPN.out], HBZ.out⟩
            simp [results, Tryd.results16, go_sem, z0, z1, z2, z3]
          have HV := Lib.hid hv
          clear hv
          go_wp2_with fail
          refine (HTX.out _ (hE.after HBW.out)).mono ?_
          rintro e' w8 ⟨rfl, hb7⟩
          have kP := HKP.out.below hb7 HKP.out.lt
          have kZ := HKZ.out.below hb7 HKZ.out.lt
          have HBW := Lib.hid (below_two HBW.out hb7)
          have HKP := Lib.hid kP
          have HKZ := Lib.hid kZ
          clear y0 y1 y2 y3 z0 z1 z2 z3 fz hb7
          obtain ⟨y0, y1, y2, y3⟩ := st_blk kP
          obtain ⟨z0, z1, z2, z3⟩ := st_blk kZ
          have fz := kZ.frozen
          clear kP kZ
          cases ht : (textC ⟨k, a, b, c⟩ == l)
          · have hpn : pcD l = none := by rw [HPD.out]; unfold finD; simp only []; rw [HV.out, ht]; rfl
            have HPN := Lib.hid (pcR_no hpn)
            clear hpn
            generalize textC ⟨k, a, b, c⟩ = T at *
            have HBK := Lib.hid (set_cell (a' := .int .i64 0) (b' := .int .i64 0) (c' := .int .i64 0) (d' := .int .i64 0) HKZ.out)
            have HBZ := Lib.hid ((((HBW.out.setCell (p := ⟨w.heap.size, 0, none⟩) (Nat.le_refl _) (.int .i64 0)).setCell (p := ⟨w.heap.size, 1, none⟩) (Nat.le_refl _) (.int .i64 0)).setCell (p := ⟨w.heap.size, 2, none⟩) (Nat.le_refl _) (.int .i64 0)).setCell (p := ⟨w.heap.size, 3, none⟩) (Nat.le_refl _) (.int .i64 0))
            go_wp2_with fail
            obtain ⟨z0, z1, z2, z3⟩ := st_blk HBK.out
            refine bodyPost_ret (v := .tuple #[.agg #[.int .i64 0, .int .i64 0, .int .i64 0, .int .i64 0], .int .i64 3]) ?_ rfl ⟨by rw [HPN.out], HBZ.out⟩
            simp [results, Tryd.results16, go_sem, z0, z1, z2, z3]
          · have hpy : pcD l = some ⟨k, a, b, c⟩ := by rw [HPD.out]; unfold finD; simp only []; rw [HV.out, ht]; rfl
            have HPN := Lib.hid (pcR_yes hpy)
            clear hpy
            generalize textC ⟨k, a, b, c⟩ = T at *
            have HBK := Lib.hid (set_cell (a' := .int .i64 (k : Int)) (b' := .int .i64 a) (c' := .int .i64 b) (d' := .int .i64 c) HKZ.out)
            have HBZ := Lib.hid ((((HBW.out.setCell (p := ⟨w.heap.size, 0, none⟩) (Nat.le_refl _) (.int .i64 (k : Int))).setCell (p := ⟨w.heap.size, 1, none⟩) (Nat.le_refl _) (.int .i64 a)).setCell (p := ⟨w.heap.size, 2, none⟩) (Nat.le_refl _) (.int .i64 b)).setCell (p := ⟨w.heap.size, 3, none⟩) (Nat.le_refl _) (.int .i64 c))
            go_wp2_with fail
            obtain ⟨z0, z1, z2, z3⟩ := st_blk HBK.out
            refine bodyPost_ret (v := .tuple #[.agg #[.int .i64 (k : Int), .int .i64 a, .int .i64 b, .int .i64 c], .int .i64 0]) ?_ rfl ⟨by rw [HPN.out]; rfl, HBZ.out⟩
            simp [results, Tryd.results16, go_sem, z0, z1, z2, z3]
end Go.Proofs.YtophffmofpmbpaaDoor
