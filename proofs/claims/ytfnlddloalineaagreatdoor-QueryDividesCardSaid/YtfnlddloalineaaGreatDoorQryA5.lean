/-
  The program's reader: query, where the verb stands: the first half (by).
  query.Parse.
-/
import Derived.Test.YtfnlddloalineaaGreatDoorQryA4
import Derived.Deep.Cut
import Derived.Deep.CutRange
namespace Go.Proofs.YtfnlddloalineaaGreatDoor
open Go.RowKit
set_option linter.unusedVariables false
set_option maxRecDepth 100000
theorem word_any (y : Wd) (ws : List Wd) (ps : List Int) (len : Int) (B R : Nat) (w : World) (h : Rdr w B R ws ps len) :
    Calls Tryz.prog 71 #[.pointer (some ⟨R, 0, none⟩), .string ⟨y.toArray⟩] w fun e w' => ∃ b : Bool, e = .returned (.bool b) ∧ w.grownBy w' (some R) ∧
      (b = true → ∃ r p qs, ws = y :: r ∧ ps = p :: qs ∧ Rdr w' B R r qs len) ∧ (b = false → (∀ r, ws ≠ y :: r) ∧ w = w') := by
  cases ws with
  | nil =>
    refine (word_none y ps len B R w h).mono ?_
    rintro e w' ⟨rfl, rfl⟩
    exact ⟨false, rfl, World.grownBy.refl w _, fun e => (by cases e), fun _ => ⟨fun r e => (by cases e), rfl⟩⟩
  | cons x ws =>
    obtain ⟨p, ps, rfl⟩ := rdr_ps h
    by_cases hx : x = y
    · subst hx
      refine (word_yes x ws p ps len B R w h).mono ?_
      rintro e w' ⟨rfl, h1, h2⟩
      exact ⟨true, rfl, h2, fun _ => ⟨ws, p, ps, rfl, rfl, h1⟩, fun e => (by cases e)⟩
    · refine (word_no x y ws (p :: ps) len B R w h hx).mono ?_
      rintro e w' ⟨rfl, rfl⟩
      exact ⟨false, rfl, World.grownBy.refl w _, fun e => (by cases e), fun _ => ⟨fun r e => hx (by injection e), rfl⟩⟩
theorem QSt.setBy {w x : World} {B R : Nat} {rs : List Wd} {ps : List Int} {len verb : Int} {byl : List Int} {byv : Value} {whl : List SCond} {whv : Value} (h : QSt w B R rs ps len verb byl byv whl whv x) {l : List Int} {v : Value} (ho : x.ownsRow (w.heap.size + 1 + 1) 3 1 v l.length (l.map intV)) : QSt w B R rs ps len verb l v whl whv (x.setCell ⟨w.heap.size + 1, 1, none⟩ v) where
  rdr := h.rdr.low ((Below.refl B x).setCell (p := ⟨w.heap.size + 1, 1, none⟩) (by have := h.lowB; simp only []; omega) _)
  res := h.res.far (p := ⟨w.heap.size + 1, 1, none⟩) (by simp) _
  qry := by have := h.qry.set_ 1 v; simpa using this
  byo := ownsRow_setCell_other ho (a := ⟨w.heap.size + 1, 1, none⟩) (by intro e; have := own_base ho _ e; simp only [] at this; omega) _
  who := ownsRow_setCell_other h.who (a := ⟨w.heap.size + 1, 1, none⟩) (by intro e; have := own_base h.who _ e; simp only [] at this; omega) _
  grown := grown_new h.grown (by omega) _ _
  low := h.low
  lowB := h.lowB
/-- behind by -/
def TailSt (w : World) (B R : Nat) (ws : List Wd) (ps : List Int) (len : Int) (x : World) : Prop :=
  ∃ rs qs verb byl byv, qryR ws = tailR verb byl rs ∧ Suf ws ps rs qs ∧ QSt w B R rs qs len verb byl byv [] (.slice none 0 0) x
/-- how many words are left -/
def rdLen (W : World) (R : Nat) : Nat := match W.cell? ⟨R, 0, none⟩ with
  | some (.slice _ n _) => n
  | _ => 0
theorem rdLen_eq {w : World} {B R : Nat} {ws : List Wd} {ps : List Int} {len : Int} (h : Rdr w B R ws ps len) : rdLen w R = ws.length := by
  obtain ⟨A, c, A', c', hk, _⟩ := h
  unfold rdLen
  rw [hk.cell 0]
  rfl
theorem info_cond : (Tryz.prog.info? 95).map (fun i => (i.zero, i.size, i.bytes)) = some (some (.agg #[.int .i64 0, .int .i64 0, .int .i64 0]), 3, 24) := by kernel_rfl
theorem cond_one (a b c : Int) : ∀ u ∈ ([.int .i64 a, .int .i64 b, .int .i64 c] : List Value), u.oneCell' = true := by
  intro u hu
  simp only [List.mem_cons, List.not_mem_nil, or_false] at hu
  rcases hu with rfl | rfl | rfl <;> rfl
/-- between two conditions -/
def WhSt (w : World) (B R : Nat) (ws : List Wd) (ps : List Int) (r0 : List Wd) (len verb : Int) (byl : List Int) (byv : Value) (x : World) : Prop :=
  ∃ acc rr qq whv, whR 20 [] r0 = whR (20 - acc.length) acc rr ∧ acc.length ≤ 20 ∧ Suf ws ps rr qq ∧ QSt w B R rr qq len verb byl byv acc whv x
set_option maxHeartbeats 4000000 in
theorem qry_ok (v : Wd) (ws : List Wd) (p : Int) (ps : List Int) (len : Int) (B R : Nat) (w : World) (hE : Env w) (hEE : EnvE w) (hR : NG ≤ R) (hl : ∀ x, x ∈ v :: ws → x.length ≤ 2000) (hws : ws.length ≤ 100000) (h : Rdr w B R (v :: ws) (p :: ps) len) (hv : ¬ idxW vbL v < 0) :
    Calls Tryz.prog 33 #[.pointer (some ⟨R, 0, none⟩)] w (QrySays B R (v :: ws) (p :: ps) len w) := by
  have hs := qst_start h
  obtain ⟨W, hW⟩ : ∃ W, (w.alloc (.cells #[.int .i64 0, .slice none 0 0, .slice none 0 0] 26)).alloc (.cells #[.int .i64 0, .slice none 0 0, .slice none 0 0] 26) = W := ⟨_, rfl⟩
  rw [hW] at hs
  have hs1 := hs.same ((Below.refl W.heap.size W).alloc (Nat.le_refl _) (.cells (vbL.map strV).toArray 9))
  have HN := Lib.hid (name_ok v ws p ps len B R _ vbL W.heap.size 2 2 3 hs1.rdr (fun j hj => word_cell (Blk.new W 9 (vbL.map strV).toArray) hj) (by decide) (by decide) hv)
  rw [show vbL.take 2 = vbL from rfl] at HN
  have HV := Lib.hid (vb_any W)
  have HS1 := Lib.hid hs1
  have HSUF := Lib.hid (Suf.refl (v :: ws) (p :: ps)).step
  have HVB := Lib.hid hv
  have HH := Lib.hid h
  have HL := Lib.hid hl
  have HE := Lib.hid hE
  have HEE := Lib.hid hEE
  clear hs hs1 h hl hv hE hEE
  obtain ⟨iv, hiv⟩ : ∃ iv, idxW vbL v = iv := ⟨_, rfl⟩
  rw [hiv] at HN
  have HIV := Lib.hid hiv
  clear hiv
  go_enter Tryz.func33, Tryz.ntmps33
  go_wp2_with fail
  refine HV.out.mono ?_
  rintro e w1 ⟨rfl, hw1⟩
  rw [← hw1] at HS1 HN
  clear hw1 HV hW
  go_wp2_with fail
  refine HN.out.mono ?_
  rintro e w2 ⟨rfl, hr2, hg2⟩
  have HS2 := Lib.hid (HS1.out.turn hr2 hg2)
  clear HN HS1 hr2 hg2
  obtain ⟨x0, x1, x2⟩ := rd_cells HS2.out.qry
  have fx := HS2.out.qry.frozen
  have HS3 := Lib.hid (HS2.out.setVerb iv)
  have HWD := Lib.hid (word_any byW ws ps len B R _ HS3.out.rdr)
  go_wp2_with fail
  refine HWD.out.mono ?_
  rintro e w4 ⟨b, rfl, hg4, hb1, hb2⟩
  have HB1 := Lib.hid hb1
  have HB2 := Lib.hid hb2
  have HG4 := Lib.hid hg4
  clear hb1 hb2 hg4 HWD x0 x1 x2 fx
  go_upto_if 20 with fail
  go_cut [3, 5] from 20 (fun s3 s5 x => s3 = .int .i64 0 ∧ s5 = .int .i64 0 ∧ TailSt w B R (v :: ws) (p :: ps) len x)
  case first =>
    cases b with
    | false =>
      obtain ⟨hn, hw4⟩ := HB2.out rfl
      have HNN := Lib.hid hn
      have HW4 := Lib.hid hw4
      clear hn hw4 HB1 HB2
      go_wp2_with fail
      go_meet
      case rel =>
        have hn := HNN.out
        rw [← HW4.out]
        refine ⟨rfl, rfl, ws, ps, iv, [], .slice none 0 0, ?_, HSUF.out, HS3.out⟩
        cases ws with
        | nil => rw [qryR_one (by have := HVB.out; omega), HIV.out]
        | cons b ws => rw [qryR_plain (by have := HVB.out; omega) (fun e => hn ws (by rw [e])), HIV.out]
    | true =>
      obtain ⟨r, q, qs, hws2, hps2, hr4⟩ := HB1.out rfl
      have HWS := Lib.hid hws2
      have hr4' := hr4
      have HS4 := Lib.hid (HS3.out.turn hr4 HG4.out)
      have HSUF2 : Hid (Suf (v :: ws) (p :: ps) r qs) := by
        show Suf _ _ _ _
        have := HSUF.out
        rw [hws2, hps2] at this ⊢
        exact this.step
      have hvb : ¬ idxW vbL v < 0 := by have := HVB.out; omega
      clear hws2 hps2 hr4 HB1 HB2 HS3 HG4
      obtain ⟨x0, x1, x2⟩ := rd_cells HS4.out.qry
      have fx := HS4.out.qry.frozen
      obtain ⟨r0, r1, rZ⟩ := rd_cells HS4.out.res
      have fr := HS4.out.res.frozen
      cases r with
      | nil =>
        have HBY := Lib.hid (by_none qs len B R w4 hr4')
        have HQ : Hid (qryR (v :: ws) = .error ([], 3)) := by show _ = _; rw [HWS.out]; exact qryR_by0 hvb
        clear hr4' hvb
        go_wp2_with fail
        refine HBY.out.mono ?_
        rintro e w5 ⟨rfl, hr5, hg5⟩
        have HS5 := Lib.hid (HS4.out.turn hr5 hg5)
        have HS6 := Lib.hid (HS5.out.setBy (l := []) (World.ownsRow_nil _ _ _ _))
        clear hr5 hg5 x0 x1 x2 fx r0 r1 rZ fr HS4
        obtain ⟨x0, x1, x2⟩ := rd_cells HS5.out.qry
        have fx := HS5.out.qry.frozen
        obtain ⟨y0, y1, y2⟩ := rd_cells HS6.out.qry
        obtain ⟨r0, r1, rZ⟩ := rd_cells HS6.out.res
        have fr := HS6.out.res.frozen
        go_wp2_with fail
        obtain ⟨hr, hk, _, _, hg⟩ := HS6.out.fin _ rfl
        obtain ⟨z0, z1, z2⟩ := rd_cells hk
        refine bodyPost_ret (v := .tuple #[.agg #[.int .i64 iv, .slice none 0 0, .slice none 0 0], .int .i64 3]) ?_ rfl ?_
        · simp [results, Tryz.results33, go_sem, z0, z1, z2]
        · unfold QrySays
          rw [HQ.out]
          exact ⟨⟨_, _, _, _, _, _, _, rfl⟩, by have := HSUF2.out.2; rw [← this]; exact hr, hg⟩
      | cons f rr =>
        obtain ⟨q2, qs2, rfl⟩ := rdr_ps hr4'
        have hfl : f.length ≤ 2000 := HL.out f (HSUF2.out.mem (by simp))
        have HBY := Lib.hid (by_some f rr q2 qs2 len B R w4 hr4' hfl)
        clear hr4'
        cases hby : byR f with
        | error E =>
          have HE0 := Lib.hid (byR_err hby)
          have q1 : (E != 0) = true := by rw [bne_iff_ne]; exact HE0.out
          have HBY2 : Hid (Calls Tryz.prog 72 #[.pointer (some ⟨R, 0, none⟩)] w4 fun e w' => e = .returned (.tuple #[.slice none 0 0, .int .i64 E]) ∧ Rdr w' B R (f :: rr) (q2 :: qs2) len ∧ w4.grownBy w' (some R)) := by
            show Calls _ _ _ _ _
            refine HBY.out.mono fun e w' hh => ?_
            unfold BySays at hh
            rw [hby] at hh
            exact hh
          have HQ2 : Hid (qryR (v :: ws) = .error (f :: rr, E)) := by show _ = _; rw [HWS.out, qryR_by hvb, hby]
          clear HBY hby hvb
          go_wp2_with fail
          refine HBY2.out.mono ?_
          rintro e w5 ⟨rfl, hr5, hg5⟩
          have HS5 := Lib.hid (HS4.out.turn hr5 hg5)
          have HS6 := Lib.hid (HS5.out.setBy (l := []) (World.ownsRow_nil _ _ _ _))
          clear hr5 hg5 x0 x1 x2 fx r0 r1 rZ fr HS4
          obtain ⟨x0, x1, x2⟩ := rd_cells HS5.out.qry
          have fx := HS5.out.qry.frozen
          obtain ⟨y0, y1, y2⟩ := rd_cells HS6.out.qry
          obtain ⟨r0, r1, rZ⟩ := rd_cells HS6.out.res
          have fr := HS6.out.res.frozen
          go_wp2_with fail
          obtain ⟨hr, hk, _, _, hg⟩ := HS6.out.fin _ rfl
          obtain ⟨z0, z1, z2⟩ := rd_cells hk
          refine bodyPost_ret (v := .tuple #[.agg #[.int .i64 iv, .slice none 0 0, .slice none 0 0], .int .i64 E]) ?_ rfl ?_
          · simp [results, Tryz.results33, go_sem, z0, z1, z2]
          · unfold QrySays
            rw [HQ2.out]
            exact ⟨⟨_, _, _, _, _, _, _, rfl⟩, by have := HSUF2.out.2; rw [← this]; exact hr, hg⟩
        | ok l =>
          have HBY2 : Hid (Calls Tryz.prog 72 #[.pointer (some ⟨R, 0, none⟩)] w4 fun e w' => ∃ v, e = .returned (.tuple #[v, .int .i64 0]) ∧ w'.ownsRow w4.heap.size 3 1 v l.length (l.map intV) ∧ Rdr w' B R rr qs2 len ∧ w4.grownBy w' (some R)) := by
            show Calls _ _ _ _ _
            refine HBY.out.mono fun e w' hh => ?_
            unfold BySays at hh
            rw [hby] at hh
            exact hh
          have HQ2 : Hid (qryR (v :: ws) = tailR iv l rr) := by show _ = _; rw [HWS.out, qryR_by hvb, hby, HIV.out]
          clear HBY hby hvb
          go_wp2_with fail
          refine HBY2.out.mono ?_
          rintro e w5 ⟨bv, rfl, ho5, hr5, hg5⟩
          obtain ⟨Ab, cb, rfl⟩ := own_slice ho5
          have HS5 := Lib.hid (HS4.out.turn hr5 hg5)
          have HS6 := Lib.hid (HS5.out.setBy (l := l) (own_low ho5 HS4.out.size))
          clear hr5 hg5 x0 x1 x2 fx r0 r1 rZ fr HS4 ho5
          obtain ⟨x0, x1, x2⟩ := rd_cells HS5.out.qry
          have fx := HS5.out.qry.frozen
          go_wp2_with fail
          go_meet
          case rel => exact ⟨rfl, rfl, rr, qs2, iv, l, _, HQ2.out, HSUF2.out.step, HS6.out⟩
  case rest =>
    clear HB1 HB2 HG4 HS3 HS2 HSUF HVB HIV
    obtain ⟨rfl, rfl, rs, qs, verb, byl, byv, hq, hsuf, hst⟩ := hcut
    have HQ := Lib.hid hq
    have HSUF := Lib.hid hsuf
    have HST := Lib.hid hst
    have HM := Lib.hid (more_any rs qs len B R wc hst.rdr)
    clear hq hsuf hst
    obtain ⟨Ab, cb, rfl⟩ := own_slice HST.out.byo
    obtain ⟨x0, x1, x2⟩ := rd_cells HST.out.qry
    obtain ⟨r0, r1, r2⟩ := rd_cells HST.out.res
    have fr := HST.out.res.frozen
    cases rs with
    | nil =>
      rw [show decide (0 < ([] : List Wd).length) = false from rfl] at HM
      go_wp2_with fail
      refine HM.out.mono ?_
      rintro e wx ⟨rfl, rfl⟩
      go_wp2_with fail
      obtain ⟨hr, hk, hb, hw, hg⟩ := HST.out.fin _ rfl
      obtain ⟨z0, z1, z2⟩ := rd_cells hk
      refine bodyPost_ret (v := .tuple #[.agg #[.int .i64 verb, .slice Ab byl.length cb, .slice none 0 0], .int .i64 0]) ?_ rfl ?_
      · simp [results, Tryz.results33, go_sem, z0, z1, z2]
      · unfold QrySays
        rw [HQ.out]
        exact ⟨_, _, rfl, hb, hw, hg⟩
    | cons x r =>
      have HM2 : Hid (Calls Tryz.prog 73 #[.pointer (some ⟨R, 0, none⟩)] wc fun e w' => e = .returned (.bool true) ∧ wc = w') := by
        rw [show decide (0 < (x :: r).length) = true by simp] at HM
        exact HM
      clear HM
      obtain ⟨q1, qs, rfl⟩ := rdr_ps HST.out.rdr
      by_cases hx : x = whereW
      · subst hx
        have HWD := Lib.hid (word_yes whereW r q1 qs len B R wc HST.out.rdr)
        have HQ3 := Lib.hid (HQ.out.trans tailR_where)
        have HSUF3 := Lib.hid HSUF.out.step
        obtain ⟨i0, hi0, hz0, hz1, hz2⟩ := info_parts info_cond
        go_wp2_with fail
        refine HM2.out.mono ?_
        rintro e wx ⟨rfl, rfl⟩
        go_wp2_with fail
        refine HWD.out.mono ?_
        rintro e w5 ⟨rfl, hr5, hg5⟩
        have HST5 := Lib.hid (HST.out.turn hr5 hg5)
        clear hr5 hg5 HWD HM2 x0 x1 x2 r0 r1 r2 fr HQ HSUF
        go_wp2_with fail
        go_loopw [7] (fun _ wr => WhSt w B R (v :: ws) (p :: ps) r len verb byl (.slice Ab byl.length cb) wr) (fun _ wr => rdLen wr R)
        case atStart => exact ⟨[], r, qs, .slice none 0 0, rfl, by simp, HSUF3.out, HST5.out⟩
        case round =>
          clear HST5 HSUF3 HST
          obtain ⟨acc, rr, qq, whv, hwr, hal, hsuf, hst⟩ := hrel
          have HWR := Lib.hid hwr
          have HSUF := Lib.hid hsuf
          have HST := Lib.hid hst
          have HM := Lib.hid (more_any rr qq len B R wr hst.rdr)
          obtain ⟨Aw, cw, rfl⟩ := own_slice hst.who
          obtain ⟨x0, x1, x2⟩ := rd_cells hst.qry
          obtain ⟨r0, r1, r2⟩ := rd_cells hst.res
          have fr := hst.res.frozen
          have fx := hst.qry.frozen
          have HE1 := Lib.hid (env_grown HE.out hst.grown hR)
          have HEE1 := Lib.hid (enve_grown HEE.out HE.out hst.grown hR)
          have HC := Lib.hid (cond_any rr qq len B R wr HE1.out HEE1.out hR (fun x hx => HL.out x (hsuf.mem hx)) hst.rdr)
          clear hwr hsuf hst HE1 HEE1
          cases rr with
          | nil =>
            rw [show decide (0 < ([] : List Wd).length) = false from rfl] at HM
            have HC2 : Hid (Calls Tryz.prog 74 #[.pointer (some ⟨R, 0, none⟩)] wr fun e w' => (∃ a b c : Int, e = .returned (.tuple #[.agg #[.int .i64 a, .int .i64 b, .int .i64 c], .int .i64 3])) ∧ Rdr w' B R [] qq len ∧ wr.grownBy w' (some R)) := by
              show Calls _ _ _ _ _
              refine HC.out.mono fun e w' hh => ?_
              unfold CndAny at hh
              rw [cndR_nil] at hh
              exact ⟨hh.1, by simpa using hh.2.1, hh.2.2⟩
            have HQE : Hid (qryR (v :: ws) = .error ([], 3)) := by show _ = _; rw [HQ3.out, HWR.out, whR_err cndR_nil (.inr rfl)]
            clear HC
            go_wp2_with fail
            refine HM.out.mono ?_
            rintro e wx ⟨rfl, rfl⟩
            go_wp2_with fail
            refine HC2.out.mono ?_
            rintro e w6 ⟨⟨a, b, c, rfl⟩, hr6, hg6⟩
            have HS7 := Lib.hid ((HST.out.turn hr6 hg6).same ((Below.refl w6.heap.size w6).alloc (Nat.le_refl _) (.cells (#[.int .i64 a, .int .i64 b, .int .i64 c] : Array Value) 95)))
            clear hr6 hg6 x0 x1 x2 r0 r1 r2 fr fx HST HM HC2
            obtain ⟨x0, x1, x2⟩ := rd_cells HS7.out.qry
            obtain ⟨r0, r1, r2⟩ := rd_cells HS7.out.res
            have fr := HS7.out.res.frozen
            go_wp2_with fail
            obtain ⟨hr, hk, hb, hw, hg⟩ := HS7.out.fin _ rfl
            obtain ⟨z0, z1, z2⟩ := rd_cells hk
            refine bodyPost_ret (v := .tuple #[.agg #[.int .i64 verb, .slice Ab byl.length cb, .slice Aw acc.length cw], .int .i64 3]) ?_ rfl ?_
            · simp [results, Tryz.results33, go_sem, z0, z1, z2]
            · unfold QrySays
              rw [HQE.out]
              exact ⟨⟨_, _, _, _, _, _, _, rfl⟩, by rw [← HSUF.out.2]; exact hr, hg⟩
          | cons y rr =>
            rw [show decide (0 < (y :: rr).length) = true by simp] at HM
            have b20 : (20 : Int) ≤ 20 := by omega
            by_cases hfull : acc.length = 20
            · have k20 : ((acc.length : Int) == 20) = true := by rw [beq_iff_eq]; omega
              have k21 : (acc.length == 20) = true := by rw [beq_iff_eq]; omega
              have HQE : Hid (qryR (v :: ws) = .error (y :: rr, 6)) := by show _ = _; rw [HQ3.out, HWR.out, hfull, whR_full (by simp)]
              clear hfull HC
              go_wp2_with fail
              refine HM.out.mono ?_
              rintro e wx ⟨rfl, rfl⟩
              obtain ⟨x0, x1, x2⟩ := rd_cells HST.out.qry
              obtain ⟨r0, r1, r2⟩ := rd_cells HST.out.res
              have fr := HST.out.res.frozen
              go_wp2_with fail
              obtain ⟨hr, hk, hb, hw, hg⟩ := HST.out.fin _ rfl
              obtain ⟨z0, z1, z2⟩ := rd_cells hk
              refine bodyPost_ret (v := .tuple #[.agg #[.int .i64 verb, .slice Ab byl.length cb, .slice Aw acc.length cw], .int .i64 6]) ?_ rfl ?_
              · simp [results, Tryz.results33, go_sem, z0, z1, z2]
              · unfold QrySays
                rw [HQE.out]
                exact ⟨⟨_, _, _, _, _, _, _, rfl⟩, by rw [← HSUF.out.2]; exact hr, hg⟩
            · have k20 : ((acc.length : Int) == 20) = false := by rw [beq_eq_false_iff_ne]; omega
              have k21 : (acc.length == 20) = false := by rw [beq_eq_false_iff_ne]; omega
              obtain ⟨m, hm⟩ : ∃ m, 20 - acc.length = m + 1 := ⟨19 - acc.length, by omega⟩
              have HMM := Lib.hid hm
              have HWR2 := Lib.hid (HWR.out.trans (by rw [hm]))
              clear hm HWR
              have hacc : acc.length + 1 ≤ 20 := by omega
              clear hfull
              rcases hcr : cndR (y :: rr) with ⟨r', E⟩ | ⟨c, r'⟩
              · have HE0 := Lib.hid (cndR_err hcr)
                have q0 : (E != 0) = true := by rw [bne_iff_ne]; exact HE0.out
                have HQE : Hid (qryR (v :: ws) = .error (r', E)) := by show _ = _; rw [HQ3.out, HWR2.out, whR_err hcr (.inl (by omega))]
                have HSF := Lib.hid (HSUF.out.far (cndR_err_suf hcr))
                have HC2 : Hid (Calls Tryz.prog 74 #[.pointer (some ⟨R, 0, none⟩)] wr fun e w' => (∃ a b c : Int, e = .returned (.tuple #[.agg #[.int .i64 a, .int .i64 b, .int .i64 c], .int .i64 E])) ∧ Rdr w' B R r' (qq.drop ((y :: rr).length - r'.length)) len ∧ wr.grownBy w' (some R)) := by
                  show Calls _ _ _ _ _
                  refine HC.out.mono fun e w' hh => ?_
                  unfold CndAny at hh
                  rw [hcr] at hh
                  exact hh
                clear HC hcr
                generalize (y :: rr).length - r'.length = dd at *
                go_wp2_with fail
                refine HM.out.mono ?_
                rintro e wx ⟨rfl, rfl⟩
                go_wp2_with fail
                refine HC2.out.mono ?_
                rintro e w6 ⟨⟨a, b, c, rfl⟩, hr6, hg6⟩
                have HS7 := Lib.hid ((HST.out.turn hr6 hg6).same ((Below.refl w6.heap.size w6).alloc (Nat.le_refl _) (.cells (#[.int .i64 a, .int .i64 b, .int .i64 c] : Array Value) 95)))
                clear hr6 hg6 x0 x1 x2 r0 r1 r2 fr fx HST HM HC2
                obtain ⟨x0, x1, x2⟩ := rd_cells HS7.out.qry
                obtain ⟨r0, r1, r2⟩ := rd_cells HS7.out.res
                have fr := HS7.out.res.frozen
                go_wp2_with fail
                obtain ⟨hr, hk, hb, hw, hg⟩ := HS7.out.fin _ rfl
                obtain ⟨z0, z1, z2⟩ := rd_cells hk
                refine bodyPost_ret (v := .tuple #[.agg #[.int .i64 verb, .slice Ab byl.length cb, .slice Aw acc.length cw], .int .i64 E]) ?_ rfl ?_
                · simp [results, Tryz.results33, go_sem, z0, z1, z2]
                · unfold QrySays
                  rw [HQE.out]
                  exact ⟨⟨_, _, _, _, _, _, _, rfl⟩, by rw [← HSF.out.2]; exact hr, hg⟩
              · have HSF := Lib.hid (HSUF.out.far (Exists.imp (fun _ h => h.1) (cndR_ok_suf hcr)))
                have hlr : r'.length < (y :: rr).length := by
                  obtain ⟨a, ha, hb⟩ := cndR_ok_suf hcr
                  rw [ha, List.length_append]; omega
                have HC2 : Hid (Calls Tryz.prog 74 #[.pointer (some ⟨R, 0, none⟩)] wr fun e w' => e = .returned (.tuple #[.agg #[.int .i64 c.f, .int .i64 c.o, .int .i64 c.v], .int .i64 0]) ∧ Rdr w' B R r' (qq.drop ((y :: rr).length - r'.length)) len ∧ wr.grownBy w' (some R)) := by
                  show Calls _ _ _ _ _
                  refine HC.out.mono fun e w' hh => ?_
                  unfold CndAny at hh
                  rw [hcr] at hh
                  exact hh
                have HCR := Lib.hid hcr
                have HRL := Lib.hid (rdLen_eq HST.out.rdr)
                clear HC hcr
                generalize (y :: rr).length - r'.length = dd at *
                generalize qq.drop dd = q' at *
                obtain ⟨cf, co, cv⟩ := c
                simp only [] at HC2
                cases r' with
                | nil =>
                  have HQE : Hid (qryR (v :: ws) = .ok ⟨verb, byl, acc ++ [⟨cf, co, cv⟩]⟩) := by show _ = _; rw [HQ3.out, HWR2.out, whR_end HCR.out]
                  go_wp2_with fail
                  refine HM.out.mono ?_
                  rintro e wx ⟨rfl, rfl⟩
                  go_wp2_with fail
                  refine HC2.out.mono ?_
                  rintro e w6 ⟨rfl, hr6, hg6⟩
                  have HS7 := Lib.hid ((HST.out.turn hr6 hg6).same ((Below.refl w6.heap.size w6).alloc (Nat.le_refl _) (.cells (#[.int .i64 cf, .int .i64 co, .int .i64 cv] : Array Value) 95)))
                  clear hr6 hg6 x0 x1 x2 r0 r1 r2 fr fx HST HM HC2
                  have hsz := HS7.out.size
                  obtain ⟨x0, x1, x2⟩ := rd_cells HS7.out.qry
                  go_wp2_with (at_builtin; refine wpList_append_any _ rfl (.tmp 58) (.tmp 60) _ rfl (w.heap.size + 1 + 1) 95 i0 _ 3 24 Tryz.underlying24 hi0 hz0 hz1 hz2 rfl (by omega) _ acc.length (cndC acc) rfl (HS7.out.who.alloc _) (w6.heap.size + 1 + 1) (some ⟨w6.heap.size + 1, 0, none⟩) 1 1 [.int .i64 cf, .int .i64 co, .int .i64 cv] rfl (by have hh := reads_one (w6.alloc (.cells (#[.int .i64 cf, .int .i64 co, .int .i64 cv] : Array Value) 95)) #[.int .i64 cf, .int .i64 co, .int .i64 cv] 95 3 rfl; rw [World.size_alloc] at hh; exact hh) (cond_one _ _ _) (by simp only [maxLen]; omega) (by omega) (by simp only [World.size_alloc] at hsz ⊢; omega) ?_; intro v4 w4 hown4 hg4 hat4; obtain ⟨A4, c4, rfl⟩ := own_slice hown4; obtain ⟨hq4, hst4⟩ := HS7.out.push hg4 hown4; obtain ⟨y0, y1, y2⟩ := rd_cells hq4; have f4 := hq4.frozen; have HST4 := Lib.hid hst4; clear hst4 hq4 hown4 hg4 hat4 x0 x1 x2 hsz)
                  have HM2 := Lib.hid (more_any [] q' len B R _ HST4.out.rdr)
                  rw [show decide (0 < ([] : List Wd).length) = false from rfl] at HM2
                  go_wp2_with fail
                  refine HM2.out.mono ?_
                  rintro e wx ⟨rfl, rfl⟩
                  clear HM2 y0 y1 y2 f4
                  obtain ⟨x0, x1, x2⟩ := rd_cells HST4.out.qry
                  obtain ⟨r0, r1, r2⟩ := rd_cells HST4.out.res
                  have fr := HST4.out.res.frozen
                  go_wp2_with fail
                  obtain ⟨hr, hk, hb, hw, hg⟩ := HST4.out.fin _ rfl
                  obtain ⟨z0, z1, z2⟩ := rd_cells hk
                  refine bodyPost_ret (v := .tuple #[.agg #[.int .i64 verb, .slice Ab byl.length cb, .slice A4 (acc.length + 1) c4], .int .i64 0]) ?_ rfl ?_
                  · simp [results, Tryz.results33, go_sem, z0, z1, z2]
                  · unfold QrySays
                    rw [HQE.out]
                    exact ⟨_, _, rfl, hb, hw, hg⟩
                | cons z rt =>
                  obtain ⟨p2, q', rfl⟩ : ∃ p2 qs2, q' = p2 :: qs2 := by
                    have := HSF.out.plen (by simpa using rdr_len HH.out)
                    cases q' with
                    | nil => simp at this
                    | cons p2 q' => exact ⟨p2, q', rfl⟩
                  by_cases hz : z = andW
                  · subst hz
                    have HNX := Lib.hid (HWR2.out.trans (whR_and HCR.out))
                    have HSF2 := Lib.hid HSF.out.step
                    go_wp2_with fail
                    refine HM.out.mono ?_
                    rintro e wx ⟨rfl, rfl⟩
                    go_wp2_with fail
                    refine HC2.out.mono ?_
                    rintro e w6 ⟨rfl, hr6, hg6⟩
                    have HS7 := Lib.hid ((HST.out.turn hr6 hg6).same ((Below.refl w6.heap.size w6).alloc (Nat.le_refl _) (.cells (#[.int .i64 cf, .int .i64 co, .int .i64 cv] : Array Value) 95)))
                    clear hr6 hg6 x0 x1 x2 r0 r1 r2 fr fx HST HM HC2
                    have hsz := HS7.out.size
                    obtain ⟨x0, x1, x2⟩ := rd_cells HS7.out.qry
                    go_wp2_with (at_builtin; refine wpList_append_any _ rfl (.tmp 58) (.tmp 60) _ rfl (w.heap.size + 1 + 1) 95 i0 _ 3 24 Tryz.underlying24 hi0 hz0 hz1 hz2 rfl (by omega) _ acc.length (cndC acc) rfl (HS7.out.who.alloc _) (w6.heap.size + 1 + 1) (some ⟨w6.heap.size + 1, 0, none⟩) 1 1 [.int .i64 cf, .int .i64 co, .int .i64 cv] rfl (by have hh := reads_one (w6.alloc (.cells (#[.int .i64 cf, .int .i64 co, .int .i64 cv] : Array Value) 95)) #[.int .i64 cf, .int .i64 co, .int .i64 cv] 95 3 rfl; rw [World.size_alloc] at hh; exact hh) (cond_one _ _ _) (by simp only [maxLen]; omega) (by omega) (by simp only [World.size_alloc] at hsz ⊢; omega) ?_; intro v4 w4 hown4 hg4 hat4; obtain ⟨A4, c4, rfl⟩ := own_slice hown4; obtain ⟨hq4, hst4⟩ := HS7.out.push hg4 hown4; obtain ⟨y0, y1, y2⟩ := rd_cells hq4; have f4 := hq4.frozen; have HST4 := Lib.hid hst4; clear hst4 hq4 hown4 hg4 hat4 x0 x1 x2 hsz)
                    have HM2 := Lib.hid (more_any (andW :: rt) (p2 :: q') len B R _ HST4.out.rdr)
                    rw [show decide (0 < (andW :: rt).length) = true by simp] at HM2
                    have HWD2 := Lib.hid (word_yes andW rt p2 q' len B R _ HST4.out.rdr)
                    go_wp2_with fail
                    refine HM2.out.mono ?_
                    rintro e wx ⟨rfl, rfl⟩
                    go_wp2_with fail
                    refine HWD2.out.mono ?_
                    rintro e w8 ⟨rfl, hr8, hg8⟩
                    have HST8 := Lib.hid (HST4.out.turn hr8 hg8)
                    have HRL8 := Lib.hid (rdLen_eq hr8)
                    clear hr8 hg8 HM2 HWD2 y0 y1 y2 f4
                    go_wp2_with fail
                    go_roundw
                    case rel =>
                      refine ⟨acc ++ [⟨cf, co, cv⟩], rt, q', _, ?_, by rw [List.length_append]; simp only [List.length_cons, List.length_nil]; omega, HSF2.out, HST8.out⟩
                      have e1 : 20 - (acc ++ [(⟨cf, co, cv⟩ : SCond)]).length = m := by
                        have := HMM.out
                        rw [List.length_append]
                        simp only [List.length_cons, List.length_nil]
                        omega
                      rw [e1]
                      exact HNX.out
                    case measure =>
                      rw [HRL8.out, HRL.out]
                      simp only [List.length_cons] at hlr ⊢
                      omega
                  · have HZ := Lib.hid hz
                    have HQE : Hid (qryR (v :: ws) = .error (z :: rt, 3)) := by show _ = _; rw [HQ3.out, HWR2.out, whR_bad HCR.out hz]
                    clear hz
                    go_wp2_with fail
                    refine HM.out.mono ?_
                    rintro e wx ⟨rfl, rfl⟩
                    go_wp2_with fail
                    refine HC2.out.mono ?_
                    rintro e w6 ⟨rfl, hr6, hg6⟩
                    have HS7 := Lib.hid ((HST.out.turn hr6 hg6).same ((Below.refl w6.heap.size w6).alloc (Nat.le_refl _) (.cells (#[.int .i64 cf, .int .i64 co, .int .i64 cv] : Array Value) 95)))
                    clear hr6 hg6 x0 x1 x2 r0 r1 r2 fr fx HST HM HC2
                    have hsz := HS7.out.size
                    obtain ⟨x0, x1, x2⟩ := rd_cells HS7.out.qry
                    go_wp2_with (at_builtin; refine wpList_append_any _ rfl (.tmp 58) (.tmp 60) _ rfl (w.heap.size + 1 + 1) 95 i0 _ 3 24 Tryz.underlying24 hi0 hz0 hz1 hz2 rfl (by omega) _ acc.length (cndC acc) rfl (HS7.out.who.alloc _) (w6.heap.size + 1 + 1) (some ⟨w6.heap.size + 1, 0, none⟩) 1 1 [.int .i64 cf, .int .i64 co, .int .i64 cv] rfl (by have hh := reads_one (w6.alloc (.cells (#[.int .i64 cf, .int .i64 co, .int .i64 cv] : Array Value) 95)) #[.int .i64 cf, .int .i64 co, .int .i64 cv] 95 3 rfl; rw [World.size_alloc] at hh; exact hh) (cond_one _ _ _) (by simp only [maxLen]; omega) (by omega) (by simp only [World.size_alloc] at hsz ⊢; omega) ?_; intro v4 w4 hown4 hg4 hat4; obtain ⟨A4, c4, rfl⟩ := own_slice hown4; obtain ⟨hq4, hst4⟩ := HS7.out.push hg4 hown4; obtain ⟨y0, y1, y2⟩ := rd_cells hq4; have f4 := hq4.frozen; have HST4 := Lib.hid hst4; clear hst4 hq4 hown4 hg4 hat4 x0 x1 x2 hsz)
                    have HM2 := Lib.hid (more_any (z :: rt) (p2 :: q') len B R _ HST4.out.rdr)
                    rw [show decide (0 < (z :: rt).length) = true by simp] at HM2
                    have HWD2 := Lib.hid (word_no z andW rt (p2 :: q') len B R _ HST4.out.rdr HZ.out)
                    go_wp2_with fail
                    refine HM2.out.mono ?_
                    rintro e wx ⟨rfl, rfl⟩
                    go_wp2_with fail
                    refine HWD2.out.mono ?_
                    rintro e wx ⟨rfl, rfl⟩
                    clear HM2 HWD2 y0 y1 y2 f4
                    obtain ⟨x0, x1, x2⟩ := rd_cells HST4.out.qry
                    obtain ⟨r0, r1, r2⟩ := rd_cells HST4.out.res
                    have fr := HST4.out.res.frozen
                    go_wp2_with fail
                    obtain ⟨hr, hk, hb, hw, hg⟩ := HST4.out.fin _ rfl
                    obtain ⟨z0, z1, z2⟩ := rd_cells hk
                    refine bodyPost_ret (v := .tuple #[.agg #[.int .i64 verb, .slice Ab byl.length cb, .slice A4 (acc.length + 1) c4], .int .i64 3]) ?_ rfl ?_
                    · simp [results, Tryz.results33, go_sem, z0, z1, z2]
                    · unfold QrySays
                      rw [HQE.out]
                      exact ⟨⟨_, _, _, _, _, _, _, rfl⟩, by rw [← HSF.out.2]; exact hr, hg⟩
      · have HWD := Lib.hid (word_no x whereW r (q1 :: qs) len B R wc HST.out.rdr hx)
        have HX := Lib.hid hx
        clear hx
        go_wp2_with fail
        refine HM2.out.mono ?_
        rintro e wx ⟨rfl, rfl⟩
        go_wp2_with fail
        refine HWD.out.mono ?_
        rintro e wx ⟨rfl, rfl⟩
        go_wp2_with fail
        obtain ⟨hr, hk, hb, hw, hg⟩ := HST.out.fin _ rfl
        obtain ⟨z0, z1, z2⟩ := rd_cells hk
        refine bodyPost_ret (v := .tuple #[.agg #[.int .i64 verb, .slice Ab byl.length cb, .slice none 0 0], .int .i64 3]) ?_ rfl ?_
        · simp [results, Tryz.results33, go_sem, z0, z1, z2]
        · unfold QrySays
          rw [HQ.out, tailR_bad HX.out]
          exact ⟨⟨_, _, _, _, _, _, _, rfl⟩, by have := HSUF.out.2; rw [← this]; exact hr, hg⟩
end Go.Proofs.YtfnlddloalineaaGreatDoor
namespace Go.Proofs.YtfnlddloalineaaGreatDoor
open Go.RowKit
set_option linter.unusedVariables false
set_option maxRecDepth 100000
theorem query_any (ws : List Wd) (ps : List Int) (len : Int) (B R : Nat) (w : World) (hE : Env w) (hEE : EnvE w) (hR : NG ≤ R) (hl : ∀ x, x ∈ ws → x.length ≤ 2000) (hws : ws.length ≤ 100000) (h : Rdr w B R ws ps len) :
    Calls Tryz.prog 33 #[.pointer (some ⟨R, 0, none⟩)] w (QrySays B R ws ps len w) := by
  cases ws with
  | nil =>
    refine (qry_fell [] ps len B R 3 w h (by decide) (fun w1 G hr _ => name_none ps len B R w1 _ 3 hr)).mono ?_
    rintro e w' ⟨h1, h2, h3⟩
    unfold QrySays
    exact ⟨h1, by simpa using h2, h3⟩
  | cons v ws =>
    obtain ⟨p, ps, rfl⟩ := rdr_ps h
    by_cases hv : idxW vbL v < 0
    · refine (qry_fell (v :: ws) (p :: ps) len B R 3 w h (by decide) (fun w1 G hr hc => name_bad v ws (p :: ps) len B R w1 vbL G 2 2 3 hr hc (by decide) (by decide) hv)).mono ?_
      rintro e w' ⟨h1, h2, h3⟩
      unfold QrySays
      rw [qryR_verb hv]
      exact ⟨h1, by simpa using h2, h3⟩
    · exact qry_ok v ws p ps len B R w hE hEE hR hl (by simp only [List.length_cons] at hws; omega) h hv
theorem plL_drop (ws : List Wd) (n k : Nat) (hk : k ≤ n) (d : Int) : ((plL ws n).drop k).headD d = if k = n then d else (plS ws k : Int) := by
  by_cases h : k = n
  · subst h
    rw [if_pos rfl, List.drop_of_length_le (by rw [plL_len]; exact Nat.le_refl _)]
    rfl
  · rw [if_neg h]
    have hlt : k < (plL ws n).length := by rw [plL_len]; omega
    rw [List.drop_eq_getElem_cons hlt]
    simp [plL]
theorem err_inj {α : Type} {r r' : List Wd} {E E' : Int} (h : (Except.error (r, E) : Except (List Wd × Int) α) = .error (r', E')) : r = r' ∧ E = E' := by
  injection h with h
  injection h with h1 h2
  exact ⟨h1, h2⟩
theorem whR_suf : ∀ {n : Nat} {acc : List SCond} {ws r : List Wd} {E : Int}, whR n acc ws = .error (r, E) → r.length ≤ ws.length ∧ E ≠ 0 := by
  intro n
  induction n with
  | zero =>
    intro acc ws r E h
    unfold whR at h
    split at h
    · obtain ⟨rfl, rfl⟩ := err_inj h
      exact ⟨by simp, by decide⟩
    · obtain ⟨rfl, rfl⟩ := err_inj h
      exact ⟨Nat.le_refl _, by decide⟩
  | succ n ih =>
    intro acc ws r E h
    rcases hc : cndR ws with ⟨r', E'⟩ | ⟨c, r'⟩
    · rw [whR_err hc (.inl (by omega))] at h
      obtain ⟨rfl, rfl⟩ := err_inj h
      obtain ⟨a, rfl⟩ := cndR_err_suf hc
      exact ⟨by simp, cndR_err hc⟩
    · obtain ⟨a, rfl, _⟩ := cndR_ok_suf hc
      cases r' with
      | nil => rw [whR_end hc] at h; cases h
      | cons y r2 =>
        by_cases hy : y = andW
        · subst hy
          rw [whR_and hc] at h
          obtain ⟨h1, h2⟩ := ih h
          exact ⟨by simp only [List.length_append, List.length_cons]; omega, h2⟩
        · rw [whR_bad hc hy] at h
          obtain ⟨rfl, rfl⟩ := err_inj h
          exact ⟨by simp, by decide⟩
theorem tailR_suf {verb : Int} {by_ : List Int} {ws r : List Wd} {E : Int} (h : tailR verb by_ ws = .error (r, E)) : r.length ≤ ws.length ∧ E ≠ 0 := by
  cases ws with
  | nil => cases h
  | cons x rs =>
    by_cases hx : x = whereW
    · subst hx
      rw [tailR_where] at h
      rcases hw : whR 20 [] rs with ⟨r', E'⟩ | cs
      · rw [hw] at h
        obtain ⟨rfl, rfl⟩ := err_inj h
        obtain ⟨h1, h2⟩ := whR_suf hw
        exact ⟨by simp only [List.length_cons]; omega, h2⟩
      · rw [hw] at h; cases h
    · rw [tailR_bad hx] at h
      obtain ⟨rfl, rfl⟩ := err_inj h
      exact ⟨Nat.le_refl _, by decide⟩
theorem qryR_suf {ws r : List Wd} {E : Int} (h : qryR ws = .error (r, E)) : r.length ≤ ws.length ∧ E ≠ 0 := by
  cases ws with
  | nil => obtain ⟨rfl, rfl⟩ := err_inj h; exact ⟨Nat.le_refl _, by decide⟩
  | cons v ws =>
    by_cases hv : idxW vbL v < 0
    · rw [qryR_verb hv] at h
      obtain ⟨rfl, rfl⟩ := err_inj h
      exact ⟨Nat.le_refl _, by decide⟩
    · cases ws with
      | nil => rw [qryR_one hv] at h; cases h
      | cons b ws =>
        by_cases hb : b = byW
        · subst hb
          cases ws with
          | nil =>
            rw [qryR_by0 hv] at h
            obtain ⟨rfl, rfl⟩ := err_inj h
            exact ⟨by simp, by decide⟩
          | cons f ws =>
            rw [qryR_by hv] at h
            rcases hf : byR f with E' | l
            · rw [hf] at h
              obtain ⟨rfl, rfl⟩ := err_inj h
              exact ⟨by simp, byR_err hf⟩
            · rw [hf] at h
              obtain ⟨h1, h2⟩ := tailR_suf h
              exact ⟨by simp only [List.length_cons]; omega, h2⟩
        · rw [qryR_plain hv hb] at h
          obtain ⟨h1, h2⟩ := tailR_suf h
          exact ⟨by simp only [List.length_cons] at h1 ⊢; omega, h2⟩
theorem piece_len {c : UInt8} {l x : Wd} (h : x ∈ piecesL c l) : x.length ≤ l.length := by
  have h1 := pieces_sum c l
  have h2 : ∀ L : List Wd, x ∈ L → x.length + 1 ≤ plSum L := by
    intro L hL
    induction L with
    | nil => cases hL
    | cons y r ih =>
      simp only [plSum]
      rcases List.mem_cons.1 hL with rfl | hL
      · omega
      · have := ih hL; omega
  have := h2 _ h
  omega
/-- how Parse ends -/
def ParSays (s : Wd) (w : World) (e : Ending) (w' : World) : Prop := match qryR (piecesL 32 s) with
  | .error (r, E) => e = .returned (.tuple #[.agg #[.int .i64 0, .slice none 0 0, .slice none 0 0], .int .i64 (plcR (piecesL 32 s) r s.length : Int), .int .i64 E]) ∧ Below w.heap.size w w'
  | .ok q => ∃ vb vw, e = .returned (.tuple #[.agg #[.int .i64 q.verb, vb, vw], .int .i64 0, .int .i64 0]) ∧ w'.ownsRow w.heap.size 3 1 vb q.by_.length (q.by_.map intV) ∧ w'.ownsRow w.heap.size 95 3 vw q.wh.length (cndC q.wh) ∧ Below w.heap.size w w'
theorem below_grown {w w1 w2 : World} {R : Nat} (h : Below w.heap.size w w1) (hg : w1.grownBy w2 (some R)) (hR : w.heap.size ≤ R) : Below w.heap.size w w2 :=
  h.grown hg h.size (fun r e => by injection e; omega)
set_option maxHeartbeats 2000000 in
theorem parse_any (s : Wd) (w : World) (hE : Env w) (hEE : EnvE w) (hl : s.length ≤ 1000) : Calls Tryz.prog 12 #[.string ⟨s.toArray⟩] w (ParSays s w) := by
  have hb0 : Below w.heap.size w (w.alloc (.cells #[.int .i64 0, .slice none 0 0, .slice none 0 0] 26)) := (Below.refl w.heap.size w).alloc (Nat.le_refl _) _
  have HK0 := Lib.hid (Blk.new w 26 #[.int .i64 0, .slice none 0 0, .slice none 0 0])
  have hE0 := hE.after hb0
  have hEE0 := hEE.below hb0 hE.size
  have HN := Lib.hid (newReader_any s _ hE0 hl)
  have HB0 := Lib.hid hb0
  have HE0 := Lib.hid hE0
  have HEE0 := Lib.hid hEE0
  have HEW := Lib.hid hE.size
  have HML : Hid (∀ x, x ∈ piecesL 32 s → x.length ≤ 2000) := fun x hx => by have := piece_len hx; omega
  have hwl : (piecesL 32 s).length ≤ 100000 := by
    have h2 := plSum_len (piecesL 32 s)
    have h3 := pieces_sum 32 s
    omega
  clear hE hEE hb0 hE0 hEE0
  go_enter Tryz.func12, Tryz.ntmps12
  go_wp2_with fail
  refine HN.out.mono ?_
  rintro e w1 ⟨B, R, rfl, hR, hr, hb⟩
  rw [World.size_alloc] at hR
  have hb' := HB0.out.trans (hb.mono (by rw [World.size_alloc]; omega))
  have HK1 := Lib.hid (HK0.out.below hb (by rw [World.size_alloc]; omega))
  have HB1 := Lib.hid hb'
  have hNR : NG ≤ R := by have := HEW.out; omega
  have HQ := Lib.hid (query_any (piecesL 32 s) _ _ B R w1 (HE0.out.after hb) (HEE0.out.below hb HE0.out.size) hNR HML.out hwl hr)
  clear hb hb' hr HN HK0 HB0 HE0 HEE0
  rcases hq : qryR (piecesL 32 s) with ⟨r, E⟩ | q
  · obtain ⟨hrl, hE0⟩ := qryR_suf hq
    have q0 : (E != 0) = true := by rw [bne_iff_ne]; exact hE0
    have HQ2 : Hid (Calls Tryz.prog 33 #[.pointer (some ⟨R, 0, none⟩)] w1 fun e w' => (∃ a A n c A' n' c', e = .returned (.tuple #[.agg #[.int .i64 a, .slice A n c, .slice A' n' c'], .int .i64 E])) ∧ Rdr w' B R r ((plL (piecesL 32 s) (piecesL 32 s).length).drop ((piecesL 32 s).length - r.length)) s.length ∧ w1.grownBy w' (some R)) := by
      show Calls _ _ _ _ _
      refine HQ.out.mono fun e w' hh => ?_
      unfold QrySays at hh
      rw [hq] at hh
      exact hh
    have HPL : Hid (((plL (piecesL 32 s) (piecesL 32 s).length).drop ((piecesL 32 s).length - r.length)).headD (s.length : Int) = (plcR (piecesL 32 s) r s.length : Int)) := by
      show _ = _
      rw [plL_drop _ _ _ (by omega)]
      unfold plcR
      by_cases hr0 : r = []
      · subst hr0; simp
      · have : 0 < r.length := by rcases r with _ | _ <;> simp_all
        rw [if_neg (by omega), if_neg hr0]
    have HHQ := Lib.hid hq
    clear HQ hq hE0
    generalize (plL (piecesL 32 s) (piecesL 32 s).length).drop ((piecesL 32 s).length - r.length) = qs at *
    go_wp2_with fail
    refine HQ2.out.mono ?_
    rintro e w2 ⟨⟨a, A, n, c, A', n', c', rfl⟩, hr2, hg2⟩
    have hk2 := HK1.out.grown hg2 (by intro e; injection e; omega)
    have hb2 := below_grown HB1.out hg2 (by omega)
    have hb3 := hb2.alloc hb2.size (.cells (#[.int .i64 a, .slice A n c, .slice A' n' c'] : Array Value) 26)
    have hr3 := hr2.below ((Below.refl w2.heap.size w2).alloc (Nat.le_refl _) (.cells (#[.int .i64 a, .slice A n c, .slice A' n' c'] : Array Value) 26))
    have hk3 := hk2.alloc (.cells (#[.int .i64 a, .slice A n c, .slice A' n' c'] : Array Value) 26)
    have HA := Lib.hid (at_any r qs s.length B R _ hr3)
    rw [HPL.out] at HA
    obtain ⟨x0, x1, x2⟩ := rd_cells hk3
    have fx := hk3.frozen
    have HK3 := Lib.hid hk3
    have HB3 := Lib.hid hb3
    clear hk2 hb2 hb3 hr3 hk3 hr2 hg2 HQ2 HK1 HB1
    go_wp2_with fail
    refine HA.out.mono ?_
    rintro e wx ⟨rfl, rfl⟩
    go_wp2_with fail
    have hkF := set3 (a' := .int .i64 0) (b' := .slice none 0 0) (c' := .slice none 0 0) HK3.out
    have hbF := (((HB3.out.setCell (p := ⟨w.heap.size, 0, none⟩) (Nat.le_refl _) (.int .i64 0)).setCell (p := ⟨w.heap.size, 1, none⟩) (Nat.le_refl _) (.slice none 0 0)).setCell (p := ⟨w.heap.size, 2, none⟩) (Nat.le_refl _) (.slice none 0 0))
    obtain ⟨z0, z1, z2⟩ := rd_cells hkF
    refine bodyPost_ret (v := .tuple #[.agg #[.int .i64 0, .slice none 0 0, .slice none 0 0], .int .i64 (plcR (piecesL 32 s) r s.length : Int), .int .i64 E]) ?_ rfl ?_
    · simp [results, Tryz.results12, go_sem, z0, z1, z2]
    · unfold ParSays
      rw [HHQ.out]
      exact ⟨rfl, hbF⟩
  · have HQ2 : Hid (Calls Tryz.prog 33 #[.pointer (some ⟨R, 0, none⟩)] w1 fun e w' => ∃ vb vw, e = .returned (.tuple #[.agg #[.int .i64 q.verb, vb, vw], .int .i64 0]) ∧ w'.ownsRow w1.heap.size 3 1 vb q.by_.length (q.by_.map intV) ∧ w'.ownsRow w1.heap.size 95 3 vw q.wh.length (cndC q.wh) ∧ w1.grownBy w' (some R)) := by
      show Calls _ _ _ _ _
      refine HQ.out.mono fun e w' hh => ?_
      unfold QrySays at hh
      rw [hq] at hh
      exact hh
    have HHQ := Lib.hid hq
    clear HQ hq
    go_wp2_with fail
    refine HQ2.out.mono ?_
    rintro e w2 ⟨vb, vw, rfl, ho1, ho2, hg2⟩
    obtain ⟨A, c, rfl⟩ := own_slice ho1
    obtain ⟨A', c', rfl⟩ := own_slice ho2
    have hsz1 := HB1.out.size
    have hk2 := HK1.out.grown hg2 (by intro e; injection e; omega)
    have hb2 := below_grown HB1.out hg2 (by omega)
    have hb3 := hb2.alloc hb2.size (.cells (#[.int .i64 q.verb, .slice A q.by_.length c, .slice A' q.wh.length c'] : Array Value) 26)
    have hk3 := hk2.alloc (.cells (#[.int .i64 q.verb, .slice A q.by_.length c, .slice A' q.wh.length c'] : Array Value) 26)
    have HO1 := Lib.hid (ho1.alloc (.cells (#[.int .i64 q.verb, .slice A q.by_.length c, .slice A' q.wh.length c'] : Array Value) 26))
    have HO2 := Lib.hid (ho2.alloc (.cells (#[.int .i64 q.verb, .slice A q.by_.length c, .slice A' q.wh.length c'] : Array Value) 26))
    obtain ⟨x0, x1, x2⟩ := rd_cells hk3
    have fx := hk3.frozen
    have HK3 := Lib.hid hk3
    have HB3 := Lib.hid hb3
    have hlt : w.heap.size < w1.heap.size := HK1.out.lt
    clear hk2 hb2 hb3 hk3 hg2 HQ2 HK1 HB1 ho1 ho2
    go_wp2_with fail
    have hkF := set3 (a' := .int .i64 q.verb) (b' := .slice A q.by_.length c) (c' := .slice A' q.wh.length c') HK3.out
    have hbF := (((HB3.out.setCell (p := ⟨w.heap.size, 0, none⟩) (Nat.le_refl _) (.int .i64 q.verb)).setCell (p := ⟨w.heap.size, 1, none⟩) (Nat.le_refl _) (.slice A q.by_.length c)).setCell (p := ⟨w.heap.size, 2, none⟩) (Nat.le_refl _) (.slice A' q.wh.length c'))
    obtain ⟨z0, z1, z2⟩ := rd_cells hkF
    have hfar : ∀ {e : TypeId} {size n : Nat} {v : Value} {xs : List Value} {z : World}, z.ownsRow w1.heap.size e size v n xs → ∀ (j : Nat) (u : Value), (z.setCell ⟨w.heap.size, j, none⟩ u).ownsRow w1.heap.size e size v n xs := fun ho j u =>
      ownsRow_setCell_other ho (a := ⟨w.heap.size, j, none⟩) (by intro e; have := own_base ho _ e; simp only [] at this; omega) u
    refine bodyPost_ret (v := .tuple #[.agg #[.int .i64 q.verb, .slice A q.by_.length c, .slice A' q.wh.length c'], .int .i64 0, .int .i64 0]) ?_ rfl ?_
    · simp [results, Tryz.results12, go_sem, z0, z1, z2]
    · unfold ParSays
      rw [HHQ.out]
      exact ⟨_, _, rfl, own_low (hfar (hfar (hfar HO1.out _ _) _ _) _ _) (by omega), own_low (hfar (hfar (hfar HO2.out _ _) _ _) _ _) (by omega), hbF⟩
end Go.Proofs.YtfnlddloalineaaGreatDoor
