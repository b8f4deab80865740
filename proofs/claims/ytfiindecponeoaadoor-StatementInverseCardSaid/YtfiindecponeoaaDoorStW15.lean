/-
  The program's Parse.
-/
import Derived.Test.YtfiindecponeoaaDoorStW12
import Derived.Test.YtfiindecponeoaaDoorStPz2
namespace Go.Proofs.YtfiindecponeoaaDoor
open Go.RowKit
set_option linter.unusedVariables false
theorem info_row : (Tryd.prog.info? 40).map (fun i => (i.zero, i.size, i.bytes)) = some (some (.agg #[.string ⟨#[]⟩, .int .i64 0, .int .i64 0, .int .i64 0, .bool false]), 5, 48) := by kernel_rfl
theorem row_one (r : SRow) : ∀ u ∈ rowCells r, u.oneCell' = true := by
  intro u hu
  unfold rowCells at hu
  simp only [List.mem_cons, List.not_mem_nil, or_false] at hu
  rcases hu with rfl | rfl | rfl | rfl | rfl <;> rfl
def ParseSays (s : List UInt8) (w : World) (e : Ending) (w' : World) : Prop :=
  ∃ (v : Value) (out : List SRow) (i er : Int), e = .returned (.tuple #[v, .int .i64 i, .int .i64 er]) ∧ PzR [] s out i er ∧ w'.ownsRow w.heap.size 40 5 v out.length (rowsCells out) ∧ Below w.heap.size w w'
theorem parse_nil {s : List UInt8} {w w' : World} {i er : Int} (h : PzR [] s [] i er) (hb : Below w.heap.size w w') : ParseSays s w (.returned (.tuple #[.slice none 0 0, .int .i64 i, .int .i64 er])) w' :=
  ⟨_, [], i, er, rfl, h, World.ownsRow_nil _ _ _ _, hb⟩
theorem valid_names {acc : List SRow} (h : validF (-1) acc = true) : ∀ r ∈ acc, r.name.length ≤ 3000 := by
  intro r hr
  obtain ⟨k, hk, rfl⟩ := List.getElem_of_mem hr
  have := okRow_bds (validF_lvl.1 h k hk)
  have e : acc.getD k default = acc[k] := by simp [List.getD, hk]
  rw [e] at this
  omega
theorem valid_lvE {acc : List SRow} (h : validF (-1) acc = true) : 0 < acc.length → 0 ≤ lvl acc acc.length ∧ lvl acc acc.length ≤ 9 := by
  have := lvl_bd (rs := acc) (Nat.le_refl _) (by rwa [List.take_length])
  exact this.1
theorem own_cap {w : World} {base : Nat} {e : TypeId} {size n c : Nat} {A : Option Addr} {xs : List Value} (h : w.ownsRow base e size (.slice A n c) n xs) : n ≤ c := by
  obtain ⟨_, h⟩ := h
  rcases h with ⟨h1, h2⟩ | ⟨g, cap, cur, h1, _, _, h2, _⟩
  · omega
  · injection h1 with _ _ hc
    omega
theorem cut_big (l s : List UInt8) (w : World) (hE : Env w) (hl : l.length ≤ 40000) :
    Calls Tryd.prog 25 #[.string ⟨l.toArray⟩, .string ⟨s.toArray⟩] w fun e w' => e = .returned (.tuple #[.string ⟨(Lib.cut l s).1.toArray⟩, .string ⟨(Lib.cut l s).2.1.toArray⟩, .bool (Lib.cut l s).2.2]) ∧ Below w.heap.size w w' := by
  obtain ⟨m, hm⟩ := hE.maxlen
  refine (Tryd.strings_Cut ⟨l.toArray⟩ ⟨s.toArray⟩ m w (by rw [mk_size]; omega) hm).mono ?_
  rintro e w1 ⟨rfl, hw⟩
  exact ⟨rfl, below_draws hw⟩
/-- each line is short -/
def LN (t : List UInt8) : Prop := ∀ a u b : List UInt8, t = a ++ u ++ b → (10 : UInt8) ∉ u → u.length ≤ 2000
theorem LN.first {t : List UInt8} (h : LN t) : (Lib.cut t [10]).1.length ≤ 2000 := by
  by_cases hm : (10 : UInt8) ∈ t
  · obtain ⟨a, b, rfl, hna⟩ := split_at hm
    rw [cut_at hna]
    exact h [] a (10 :: b) (by simp) hna
  · rw [cut_no hm]
    exact h [] t [] (by simp) hm
theorem LN.rest {t : List UInt8} (h : LN t) : LN (Lib.cut t [10]).2.1 := by
  by_cases hm : (10 : UInt8) ∈ t
  · obtain ⟨a, b, rfl, hna⟩ := split_at hm
    rw [cut_at hna]
    intro x u y e hu
    simp only at e
    exact h (a ++ 10 :: x) u y (by rw [e]; simp) hu
  · rw [cut_no hm]
    intro x u y e hu
    simp at e
    rw [e.2.1]; simp
theorem LN.of_short {t : List UInt8} (h : t.length ≤ 2000) : LN t := by
  intro a u b e _
  have := congrArg List.length e
  simp only [List.length_append] at this
  omega
theorem cut_nl {s : List UInt8} : (Lib.cut s [10]).2.2 = true → s = (Lib.cut s [10]).1 ++ 10 :: (Lib.cut s [10]).2.1 ∧ (10 : UInt8) ∉ (Lib.cut s [10]).1 := by
  intro h
  by_cases hm : (10 : UInt8) ∈ s
  · obtain ⟨a, b, rfl, hna⟩ := split_at hm
    rw [cut_at hna]
    exact ⟨rfl, hna⟩
  · rw [cut_no hm] at h; cases h
theorem cut_nl_no {s : List UInt8} (h : (Lib.cut s [10]).2.2 = false) : (10 : UInt8) ∉ s := by
  intro hm
  obtain ⟨a, b, rfl, hna⟩ := split_at hm
  rw [cut_at hna] at h
  cases h
theorem line_first {b : Int} {s rest : List UInt8} {r : SRow} (h : okRow b r = true) (e : s = lineL r ++ 10 :: rest) : (Lib.cut s [10]).2.2 = true ∧ (Lib.cut s [10]).1 = lineL r ∧ (Lib.cut s [10]).2.1 = rest := by
  rw [e, cut_at (line_no10 h)]; exact ⟨rfl, rfl, rfl⟩
set_option maxRecDepth 100000 in
set_option maxHeartbeats 8000000 in
theorem parse_of (hread : ∀ (l : List UInt8) (w : World), Env w → EnvE w → l.length ≤ 2000 → Calls Tryd.prog 26 #[.string ⟨l.toArray⟩] w (ReadSays l w)) (s : List UInt8) (w : World) (hE : Env w) (hEE : EnvE w) (hs2 : s.length ≤ 30000) (hLN : LN s) :
    Calls Tryd.prog 16 #[.string ⟨s.toArray⟩] w (ParseSays s w) := by
  obtain ⟨i0, hi0, hz0, hz1, hz2⟩ := info_parts info_row
  have HES := Lib.hid hE.size
  go_enter Tryd.func16, Tryd.ntmps16
  go_wp2_with fail
  go_loopw [0, 5] (fun z v wr => ∃ (acc : List SRow) (t : List UInt8), z = .string ⟨t.toArray⟩ ∧ t.length ≤ 30000 ∧ LN t ∧ acc.length ≤ 300 ∧ validF (-1) acc = true ∧ (∀ o i e, PzR acc t o i e → PzR [] s o i e) ∧ wr.ownsRow w.heap.size 40 5 v acc.length (rowsCells acc) ∧ Below w.heap.size w wr) (fun z _ _ => strLen z)
  case atStart => exact ⟨[], s, rfl, hs2, hLN, by simp, rfl, fun o i e h => h, World.ownsRow_nil _ _ _ _, Below.refl _ _⟩
  case round =>
    obtain ⟨acc, t, rfl, htl, hln, hal, hv, hG, hown, hbr⟩ := hrel
    obtain ⟨wo, rfl⟩ : ∃ wo : World, wo = wr := ⟨_, rfl⟩
    have HV := Lib.hid hv
    have HG := Lib.hid hG
    obtain ⟨A, c, rfl⟩ := own_slice hown
    have HO := Lib.hid hown
    have HBR := Lib.hid hbr
    clear hv hG hown hbr
    cases htn : (t == [])
    · have htne : t ≠ [] := by simpa using htn
      have tb : t.isEmpty = false := by cases t <;> simp_all
      have hlf := hln.first
      have HLR := Lib.hid hln.rest
      clear hln
      have hcs := cut_sub t [10]
      have HTN := Lib.hid htne
      clear htne htn
      have HC := Lib.hid (cut_big t [10] wo (hE.after HBR.out) (by omega))
      have hcnl := @cut_nl t
      have hcno := @cut_nl_no t
      have HCL := Lib.hid hcnl
      have HCN := Lib.hid hcno
      have HLF : Hid (∀ b r rest, okRow b r = true → t = lineL r ++ 10 :: rest → (Lib.cut t [10]).2.2 = true ∧ (Lib.cut t [10]).1 = lineL r ∧ (Lib.cut t [10]).2.1 = rest) := fun b r rest h e => line_first h e
      clear hcnl hcno
      generalize (Lib.cut t [10]).1 = first at *
      generalize (Lib.cut t [10]).2.1 = rest at *
      generalize (Lib.cut t [10]).2.2 = bz at *
      by_cases h300 : acc.length = 300
      · have F : Hid (PzR [] s [] 300 6) := HG.out _ _ _ (.full HTN.out h300)
        clear HLF HCL HCN HG HTN HLR
        have h3b : ((acc.length : Int) == 300) = true := by rw [beq_iff_eq]; omega
        have h300' : (acc.length : Int) = 300 := by omega
        have H3 := Lib.hid h300
        clear h300 h300'
        go_wp2_with fail
        refine HC.out.mono ?_
        rintro e w1 ⟨rfl, hb1⟩
        go_wp2_with fail
        go_ret3
        exact parse_nil F.out (below_two HBR.out hb1)
      have h3b : ((acc.length : Int) == 300) = false := by rw [beq_eq_false_iff_ne]; omega
      have H3 := Lib.hid h300
      clear h300
      go_wp2_with fail
      refine HC.out.mono ?_
      rintro e w1 ⟨rfl, hb1⟩
      have HB1 := Lib.hid (below_two HBR.out hb1)
      have HO1 := Lib.hid (own_below HO.out hb1)
      clear hb1
      go_wp2_with fail
      refine (hread first _ (hE.after HB1.out) (hEE.below HB1.out HES.out) (by omega)).mono ?_
      rintro e w2 ⟨r, ok, rfl, hr1, hr2, hr3, hb2⟩
      have HR1 := Lib.hid hr1
      have HR2 := Lib.hid hr2
      have HB2 := Lib.hid (below_two HB1.out hb2)
      have HO2 := Lib.hid (own_below HO1.out hb2)
      clear hr1 hr2 hb2
      have hown2 := HO2.out
      have hcap := own_cap hown2
      have HRD := Lib.hid (Reads.of_own hown2)
      have hsz2 : w.heap.size ≤ w2.heap.size := HB2.out.size
      have HLE := Lib.hid (valid_lvE HV.out)
      have HNM := Lib.hid (valid_names HV.out)
      clear hown2
      cases ok
      · have F : Hid (PzR [] s [] acc.length 3) := HG.out _ _ _ (.bad HTN.out H3.out (fun r0 rest0 h1 h2 => by
          have h3 := (HLF.out _ _ _ h1 h2).2.1
          have := (HR2.out _ r0 h1 h3.symm).1
          cases this))
        clear HLF HCL HCN HG HTN HLR HR1 HR2
        obtain ⟨nm, lv, fr, to_, ng⟩ := r
        unfold rowV
        go_wp2_with fail
        go_ret3
        exact parse_nil F.out ((HB2.out).alloc hsz2 _)
      · cases bz
        · have F : Hid (PzR [] s [] acc.length 3) := HG.out _ _ _ (.bad HTN.out H3.out (fun r0 rest0 h1 h2 => by
            have h3 := (HLF.out _ _ _ h1 h2).1
            cases h3))
          clear HLF HCL HCN HG HTN HLR HR1 HR2
          obtain ⟨nm, lv, fr, to_, ng⟩ := r
          unfold rowV
          go_wp2_with fail
          go_ret3
          exact parse_nil F.out ((HB2.out).alloc hsz2 _)
        · obtain ⟨ht, h10⟩ := HCL.out rfl
          have HHT := Lib.hid ht
          have e1 := HR1.out rfl
          have HE1 := Lib.hid e1
          have hba := HB2.out.alloc hsz2 (.cells (rowArr r) 40)
          have HPR := Lib.hid (proper_any acc A acc.length c r w2.heap.size (w2.alloc (.cells (rowArr r) 40)) (HRD.out.alloc (Nat.le_refl _) _) (by simp) (by omega) HLE.out (by omega))
          have HBA := Lib.hid hba
          have HOA := Lib.hid (HO2.out.alloc (.cells (rowArr r) 40))
          have HKA := Lib.hid (Blk.new w2 40 (rowArr r))
          clear ht h10 e1 hba
          cases hok : okRow (lvl acc acc.length) r
          · have F : Hid (PzR [] s [] acc.length 3) := HG.out _ _ _ (.bad HTN.out H3.out (fun r0 rest0 h1 h2 => by
              have h3 := (HLF.out _ _ _ h1 h2).2.1
              obtain ⟨_, rfl⟩ := HR2.out _ r0 h1 h3.symm
              unfold lvE at h1
              rw [hok] at h1
              cases h1))
            have HOK := Lib.hid hok
            clear hok HLF HCL HCN HG HTN HLR HR1 HR2
            rw [HOK.out] at HPR
            obtain ⟨nm, lv, fr, to_, ng⟩ := r
            unfold rowV rowArr at *
            go_wp2_with fail
            refine HPR.out.mono ?_
            rintro e w3 ⟨rfl, hb3⟩
            go_wp2_with fail
            go_ret3
            exact parse_nil F.out (below_two HBA.out hb3)
          · have G : Hid (∀ o i e, PzR (acc ++ [r]) rest o i e → PzR [] s o i e) := fun o i e h => HG.out _ _ _ (.step H3.out hok (by rw [HE1.out]; exact HHT.out) h)
            have HVS := Lib.hid (validF_snoc HV.out (show okRow (lvE acc) r = true from hok))
            have HLL : Hid (rest.length < t.length) := by
              show _ < _
              rw [HHT.out]; simp; omega
            have HSN := Lib.hid (rowsCells_snoc acc r)
            have HRO := Lib.hid (row_one r)
            have HOK := Lib.hid hok
            clear hok HLF HCL HCN HG HTN HR1 HR2
            rw [HOK.out] at HPR
            obtain ⟨nm, lv, fr, to_, ng⟩ := r
            unfold rowV rowArr at *
            go_wp2_with fail
            refine HPR.out.mono ?_
            rintro e w3 ⟨rfl, hb3⟩
            have hb23 := below_two HBA.out hb3
            have HO3 := Lib.hid (own_below HOA.out hb3)
            have hk3 := HKA.out.below hb3 (by simp)
            obtain ⟨c0, c1, c2, c3, c4⟩ := row_cells hk3
            clear hk3 hb3
            go_wp2_with (at_builtin; refine wpList_append_any _ rfl (.tmp 41) (.tmp 43) _ rfl w.heap.size 40 i0 _ 5 48 Tryd.underlying22 hi0 hz0 hz1 hz2 rfl (by omega) _ acc.length (rowsCells acc) rfl (HO3.out.alloc _) (w3.heap.size + 1) (some ⟨w3.heap.size, 0, none⟩) 1 1 (rowCells ⟨nm, lv, fr, to_, ng⟩) rfl (reads_one w3 #[.string ⟨nm.toArray⟩, .int .i64 lv, .int .i64 fr, .int .i64 to_, .bool ng] 40 5 rfl) HRO.out (by simp only [maxLen]; omega) (by omega) (by simp only [World.size_alloc]; have := hb23.size; omega) ?_; intro v4 w4 hown4 hg4 hat4)
            go_wp2_with fail
            refine ⟨⟨acc ++ [⟨nm, lv, fr, to_, ng⟩], rest, rfl, by omega, HLR.out, by rw [List.length_append]; simp; have := H3.out; omega, HVS.out, G.out, ?_, (hb23.alloc hb23.size _).grown hg4 (by simp only [World.size_alloc]; have := hb23.size; omega) (own_base HO3.out)⟩, ?_⟩
            · rw [HSN.out, List.length_append]
              exact hown4
            · simp only [strLen_mk]
              exact HLL.out
    · have htne : t = [] := by simpa using htn
      subst htne
      have F : Hid (PzR [] s acc 0 0) := HG.out _ _ _ (.done acc)
      clear htn
      go_wp2_with fail
      go_ret3
      exact ⟨_, acc, 0, 0, rfl, F.out, HO.out, HBR.out⟩
end Go.Proofs.YtfiindecponeoaaDoor
