/-
  query.Parse.
-/
import Derived.Test.YtfnlddloalineaaGreatDoorQryW16
namespace Go.Proofs.YtfnlddloalineaaGreatDoor
open Go.RowKit
set_option linter.unusedVariables false
set_option maxRecDepth 100000
theorem query_any (ws : List Wd) (ps : List Int) (len : Int) (B R : Nat) (w : World) (hE : Env w) (hEE : EnvE w) (hR : NG ≤ R) (hl : ∀ x, x ∈ ws → x.length ≤ 2000) (hws : ws.length ≤ 100000) (h : Rdr w B R ws ps len) :
    Calls Tryz.prog 33 #[.pointer (some ⟨R, 0, none⟩)] w (QrySays B R ws ps len w) := by
  cases ws with
  | nil =>
    refine (qry_fell [] ps len B R 3 w h (by decide) (fun w1 G hr _ => name_none ps len B R w1 _ 3 hr)).mono ?_
    rintro e w' ⟨h1, h2, h3⟩
    unfold QrySays
    exact ⟨h1, by simpa using h2, h3⟩
  | cons v ws =>
    obtain ⟨p, ps, rfl⟩ := rdr_ps h
    by_cases hv : idxW vbL v < 0
    · refine (qry_fell (v :: ws) (p :: ps) len B R 3 w h (by decide) (fun w1 G hr hc => name_bad v ws (p :: ps) len B R w1 vbL G 2 2 3 hr hc (by decide) (by decide) hv)).mono ?_
      rintro e w' ⟨h1, h2, h3⟩
      unfold QrySays
      rw [qryR_verb hv]
      exact ⟨h1, by simpa using h2, h3⟩
    · exact qry_ok v ws p ps len B R w hE hEE hR hl (by simp only [List.length_cons] at hws; omega) h hv
theorem plL_drop (ws : List Wd) (n k : Nat) (hk : k ≤ n) (d : Int) : ((plL ws n).drop k).headD d = if k = n then d else (plS ws k : Int) := by
  by_cases h : k = n
  · subst h
    rw [if_pos rfl, List.drop_of_length_le (by rw [plL_len]; exact Nat.le_refl _)]
    rfl
  · rw [if_neg h]
    have hlt : k < (plL ws n).length := by rw [plL_len]; omega
    rw [List.drop_eq_getElem_cons hlt]
    simp [plL]
theorem err_inj {α : Type} {r r' : List Wd} {E E' : Int} (h : (Except.error (r, E) : Except (List Wd × Int) α) = .error (r', E')) : r = r' ∧ E = E' := by
  injection h with h
  injection h with h1 h2
  exact ⟨h1, h2⟩
theorem whR_suf : ∀ {n : Nat} {acc : List SCond} {ws r : List Wd} {E : Int}, whR n acc ws = .error (r, E) → r.length ≤ ws.length ∧ E ≠ 0 := by
  intro n
  induction n with
  | zero =>
    intro acc ws r E h
    unfold whR at h
    split at h
    · obtain ⟨rfl, rfl⟩ := err_inj h
      exact ⟨by simp, by decide⟩
    · obtain ⟨rfl, rfl⟩ := err_inj h
      exact ⟨Nat.le_refl _, by decide⟩
  | succ n ih =>
    intro acc ws r E h
    rcases hc : cndR ws with ⟨r', E'⟩ | ⟨c, r'⟩
    · rw [whR_err hc (.inl (by omega))] at h
      obtain ⟨rfl, rfl⟩ := err_inj h
      obtain ⟨a, rfl⟩ := cndR_err_suf hc
      exact ⟨by simp, cndR_err hc⟩
    · obtain ⟨a, rfl, _⟩ := cndR_ok_suf hc
      cases r' with
      | nil => rw [whR_end hc] at h; cases h
      | cons y r2 =>
        by_cases hy : y = andW
        · subst hy
          rw [whR_and hc] at h
          obtain ⟨h1, h2⟩ := ih h
          exact ⟨by simp only [List.length_append, List.length_cons]; omega, h2⟩
        · rw [whR_bad hc hy] at h
          obtain ⟨rfl, rfl⟩ := err_inj h
          exact ⟨by simp, by decide⟩
theorem tailR_suf {verb : Int} {by_ : List Int} {ws r : List Wd} {E : Int} (h : tailR verb by_ ws = .error (r, E)) : r.length ≤ ws.length ∧ E ≠ 0 := by
  cases ws with
  | nil => cases h
  | cons x rs =>
    by_cases hx : x = whereW
    · subst hx
      rw [tailR_where] at h
      rcases hw : whR 20 [] rs with ⟨r', E'⟩ | cs
      · rw [hw] at h
        obtain ⟨rfl, rfl⟩ := err_inj h
        obtain ⟨h1, h2⟩ := whR_suf hw
        exact ⟨by simp only [List.length_cons]; omega, h2⟩
      · rw [hw] at h; cases h
    · rw [tailR_bad hx] at h
      obtain ⟨rfl, rfl⟩ := err_inj h
      exact ⟨Nat.le_refl _, by decide⟩
theorem qryR_suf {ws r : List Wd} {E : Int} (h : qryR ws = .error (r, E)) : r.length ≤ ws.length ∧ E ≠ 0 := by
  cases ws with
  | nil => obtain ⟨rfl, rfl⟩ := err_inj h; exact ⟨Nat.le_refl _, by decide⟩
  | cons v ws =>
    by_cases hv : idxW vbL v < 0
    · rw [qryR_verb hv] at h
      obtain ⟨rfl, rfl⟩ := err_inj h
      exact ⟨Nat.le_refl _, by decide⟩
    · cases ws with
      | nil => rw [qryR_one hv] at h; cases h
      | cons b ws =>
        by_cases hb : b = byW
        · subst hb
          cases ws with
          | nil =>
            rw [qryR_by0 hv] at h
            obtain ⟨rfl, rfl⟩ := err_inj h
            exact ⟨by simp, by decide⟩
          | cons f ws =>
            rw [qryR_by hv] at h
            rcases hf : byR f with E' | l
            · rw [hf] at h
              obtain ⟨rfl, rfl⟩ := err_inj h
              exact ⟨by simp, byR_err hf⟩
            · rw [hf] at h
              obtain ⟨h1, h2⟩ := tailR_suf h
              exact ⟨by simp only [List.length_cons]; omega, h2⟩
        · rw [qryR_plain hv hb] at h
          obtain ⟨h1, h2⟩ := tailR_suf h
          exact ⟨by simp only [List.length_cons] at h1 ⊢; omega, h2⟩
theorem piece_len {c : UInt8} {l x : Wd} (h : x ∈ piecesL c l) : x.length ≤ l.length := by
  have h1 := pieces_sum c l
  have h2 : ∀ L : List Wd, x ∈ L → x.length + 1 ≤ plSum L := by
    intro L hL
    induction L with
    | nil => cases hL
    | cons y r ih =>
      simp only [plSum]
      rcases List.mem_cons.1 hL with rfl | hL
      · omega
      · have := ih hL; omega
  have := h2 _ h
  omega
/-- how Parse ends -/
def ParSays (s : Wd) (w : World) (e : Ending) (w' : World) : Prop := match qryR (piecesL 32 s) with
  | .error (r, E) => e = .returned (.tuple #[.agg #[.int .i64 0, .slice none 0 0, .slice none 0 0], .int .i64 (plcR (piecesL 32 s) r s.length : Int), .int .i64 E]) ∧ Below w.heap.size w w'
  | .ok q => ∃ vb vw, e = .returned (.tuple #[.agg #[.int .i64 q.verb, vb, vw], .int .i64 0, .int .i64 0]) ∧ w'.ownsRow w.heap.size 3 1 vb q.by_.length (q.by_.map intV) ∧ w'.ownsRow w.heap.size 95 3 vw q.wh.length (cndC q.wh) ∧ Below w.heap.size w w'
theorem below_grown {w w1 w2 : World} {R : Nat} (h : Below w.heap.size w w1) (hg : w1.grownBy w2 (some R)) (hR : w.heap.size ≤ R) : Below w.heap.size w w2 :=
  h.grown hg h.size (fun r e => by injection e; omega)
set_option maxHeartbeats 2000000 in
theorem parse_any (s : Wd) (w : World) (hE : Env w) (hEE : EnvE w) (hl : s.length ≤ 1000) : Calls Tryz.prog 12 #[.string ⟨s.toArray⟩] w (ParSays s w) := by
  have hb0 : Below w.heap.size w (w.alloc (.cells #[.int .i64 0, .slice none 0 0, .slice none 0 0] 26)) := (Below.refl w.heap.size w).alloc (Nat.le_refl _) _
  have HK0 := Lib.hid (Blk.new w 26 #[.int .i64 0, .slice none 0 0, .slice none 0 0])
  have hE0 := hE.after hb0
  have hEE0 := hEE.below hb0 hE.size
  have HN := Lib.hid (newReader_any s _ hE0 hl)
  have HB0 := Lib.hid hb0
  have HE0 := Lib.hid hE0
  have HEE0 := Lib.hid hEE0
  have HEW := Lib.hid hE.size
  have HML : Hid (∀ x, x ∈ piecesL 32 s → x.length ≤ 2000) := fun x hx => by have := piece_len hx; omega
  have hwl : (piecesL 32 s).length ≤ 100000 := by
    have h2 := plSum_len (piecesL 32 s)
    have h3 := pieces_sum 32 s
    omega
  clear hE hEE hb0 hE0 hEE0
  go_enter Tryz.func12, Tryz.ntmps12
  go_wp2_with fail
  refine HN.out.mono ?_
  rintro e w1 ⟨B, R, rfl, hR, hr, hb⟩
  rw [World.size_alloc] at hR
  have hb' := HB0.out.trans (hb.mono (by rw [World.size_alloc]; omega))
  have HK1 := Lib.hid (HK0.out.below hb (by rw [World.size_alloc]; omega))
  have HB1 := Lib.hid hb'
  have hNR : NG ≤ R := by have := HEW.out; omega
  have HQ := Lib.hid (query_any (piecesL 32 s) _ _ B R w1 (HE0.out.after hb) (HEE0.out.below hb HE0.out.size) hNR HML.out hwl hr)
  clear hb hb' hr HN HK0 HB0 HE0 HEE0
  rcases hq : qryR (piecesL 32 s) with ⟨r, E⟩ | q
  · obtain ⟨hrl, hE0⟩ := qryR_suf hq
    have q0 : (E != 0) = true := by rw [bne_iff_ne]; exact hE0
    have HQ2 : Hid (Calls Tryz.prog 33 #[.pointer (some ⟨R, 0, none⟩)] w1 fun e w' => (∃ a A n c A' n' c', e = .returned (.tuple #[.agg #[.int .i64 a, .slice A n c, .slice A' n' c'], .int .i64 E])) ∧ Rdr w' B R r ((plL (piecesL 32 s) (piecesL 32 s).length).drop ((piecesL 32 s).length - r.length)) s.length ∧ w1.grownBy w' (some R)) := by
      show Calls _ _ _ _ _
      refine HQ.out.mono fun e w' hh => ?_
      unfold QrySays at hh
      rw [hq] at hh
      exact hh
    have HPL : Hid (((plL (piecesL 32 s) (piecesL 32 s).length).drop ((piecesL 32 s).length - r.length)).headD (s.length : Int) = (plcR (piecesL 32 s) r s.length : Int)) := by
      show _ = _
      rw [plL_drop _ _ _ (by omega)]
      unfold plcR
      by_cases hr0 : r = []
      · subst hr0; simp
      · have : 0 < r.length := by rcases r with _ | _ <;> simp_all
        rw [if_neg (by omega), if_neg hr0]
    have HHQ := Lib.hid hq
    clear HQ hq hE0
    generalize (plL (piecesL 32 s) (piecesL 32 s).length).drop ((piecesL 32 s).length - r.length) = qs at *
    go_wp2_with fail
    refine HQ2.out.mono ?_
    rintro e w2 ⟨⟨a, A, n, c, A', n', c', rfl⟩, hr2, hg2⟩
    have hk2 := HK1.out.grown hg2 (by intro e; injection e; omega)
    have hb2 := below_grown HB1.out hg2 (by omega)
    have hb3 := hb2.alloc hb2.size (.cells (#[.int .i64 a, .slice A n c, .slice A' n' c'] : Array Value) 26)
    have hr3 := hr2.below ((Below.refl w2.heap.size w2).alloc (Nat.le_refl _) (.cells (#[.int .i64 a, .slice A n c, .slice A' n' c'] : Array Value) 26))
    have hk3 := hk2.alloc (.cells (#[.int .i64 a, .slice A n c, .slice A' n' c'] : Array Value) 26)
    have HA := Lib.hid (at_any r qs s.length B R _ hr3)
    rw [HPL.out] at HA
    obtain ⟨x0, x1, x2⟩ := rd_cells hk3
    have fx := hk3.frozen
    have HK3 := Lib.hid hk3
    have HB3 := Lib.hid hb3
    clear hk2 hb2 hb3 hr3 hk3 hr2 hg2 HQ2 HK1 HB1
    go_wp2_with fail
    refine HA.out.mono ?_
    rintro e wx ⟨rfl, rfl⟩
    go_wp2_with fail
    have hkF := set3 (a' := .int .i64 0) (b' := .slice none 0 0) (c' := .slice none 0 0) HK3.out
    have hbF := (((HB3.out.setCell (p := ⟨w.heap.size, 0, none⟩) (Nat.le_refl _) (.int .i64 0)).setCell (p := ⟨w.heap.size, 1, none⟩) (Nat.le_refl _) (.slice none 0 0)).setCell (p := ⟨w.heap.size, 2, none⟩) (Nat.le_refl _) (.slice none 0 0))
    obtain ⟨z0, z1, z2⟩ := rd_cells hkF
    refine bodyPost_ret (v := .tuple #[.agg #[.int .i64 0, .slice none 0 0, .slice none 0 0], .int .i64 (plcR (piecesL 32 s) r s.length : Int), .int .i64 E]) ?_ rfl ?_
    · simp [results, Tryz.results12, go_sem, z0, z1, z2]
    · unfold ParSays
      rw [HHQ.out]
      exact ⟨rfl, hbF⟩
  · have HQ2 : Hid (Calls Tryz.prog 33 #[.pointer (some ⟨R, 0, none⟩)] w1 fun e w' => ∃ vb vw, e = .returned (.tuple #[.agg #[.int .i64 q.verb, vb, vw], .int .i64 0]) ∧ w'.ownsRow w1.heap.size 3 1 vb q.by_.length (q.by_.map intV) ∧ w'.ownsRow w1.heap.size 95 3 vw q.wh.length (cndC q.wh) ∧ w1.grownBy w' (some R)) := by
      show Calls _ _ _ _ _
      refine HQ.out.mono fun e w' hh => ?_
      unfold QrySays at hh
      rw [hq] at hh
      exact hh
    have HHQ := Lib.hid hq
    clear HQ hq
    go_wp2_with fail
    refine HQ2.out.mono ?_
    rintro e w2 ⟨vb, vw, rfl, ho1, ho2, hg2⟩
    obtain ⟨A, c, rfl⟩ := own_slice ho1
    obtain ⟨A', c', rfl⟩ := own_slice ho2
    have hsz1 := HB1.out.size
    have hk2 := HK1.out.grown hg2 (by intro e; injection e; omega)
    have hb2 := below_grown HB1.out hg2 (by omega)
    have hb3 := hb2.alloc hb2.size (.cells (#[.int .i64 q.verb, .slice A q.by_.length c, .slice A' q.wh.length c'] : Array Value) 26)
    have hk3 := hk2.alloc (.cells (#[.int .i64 q.verb, .slice A q.by_.length c, .slice A' q.wh.length c'] : Array Value) 26)
    have HO1 := Lib.hid (ho1.alloc (.cells (#[.int .i64 q.verb, .slice A q.by_.length c, .slice A' q.wh.length c'] : Array Value) 26))
    have HO2 := Lib.hid (ho2.alloc (.cells (#[.int .i64 q.verb, .slice A q.by_.length c, .slice A' q.wh.length c'] : Array Value) 26))
    obtain ⟨x0, x1, x2⟩ := rd_cells hk3
    have fx := hk3.frozen
    have HK3 := Lib.hid hk3
    have HB3 := Lib.hid hb3
    have hlt : w.heap.size < w1.heap.size := HK1.out.lt
    clear hk2 hb2 hb3 hk3 hg2 HQ2 HK1 HB1 ho1 ho2
    go_wp2_with fail
    have hkF := set3 (a' := .int .i64 q.verb) (b' := .slice A q.by_.length c) (c' := .slice A' q.wh.length c') HK3.out
    have hbF := (((HB3.out.setCell (p := ⟨w.heap.size, 0, none⟩) (Nat.le_refl _) (.int .i64 q.verb)).setCell (p := ⟨w.heap.size, 1, none⟩) (Nat.le_refl _) (.slice A q.by_.length c)).setCell (p := ⟨w.heap.size, 2, none⟩) (Nat.le_refl _) (.slice A' q.wh.length c'))
    obtain ⟨z0, z1, z2⟩ := rd_cells hkF
    have hfar : ∀ {e : TypeId} {size n : Nat} {v : Value} {xs : List Value} {z : World}, z.ownsRow w1.heap.size e size v n xs → ∀ (j : Nat) (u : Value), (z.setCell ⟨w.heap.size, j, none⟩ u).ownsRow w1.heap.size e size v n xs := fun ho j u =>
      ownsRow_setCell_other ho (a := ⟨w.heap.size, j, none⟩) (by intro e; have := own_base ho _ e; simp only [] at this; omega) u
    refine bodyPost_ret (v := .tuple #[.agg #[.int .i64 q.verb, .slice A q.by_.length c, .slice A' q.wh.length c'], .int .i64 0, .int .i64 0]) ?_ rfl ?_
    · simp [results, Tryz.results12, go_sem, z0, z1, z2]
    · unfold ParSays
      rw [HHQ.out]
      exact ⟨_, _, rfl, own_low (hfar (hfar (hfar HO1.out _ _) _ _) _ _) (by omega), own_low (hfar (hfar (hfar HO2.out _ _) _ _) _ _) (by omega), hbF⟩
end Go.Proofs.YtfnlddloalineaaGreatDoor
