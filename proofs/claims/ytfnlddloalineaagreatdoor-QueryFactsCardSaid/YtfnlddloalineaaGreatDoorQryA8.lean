/-
  awake: the examples of the document.   SameInts, from.   Same at equal queries; the law QueryParse.   The law QueryParse.
  Plain: what is read is the text of the result: pieces, names, by.   Plain: numbers, dates, conditions that are read are their own texts.   Plain: a query that is read stands, and its text is what was read.   The law QueryText.
-/
import Derived.Test.YtfnlddloalineaaGreatDoorQryA0
import Derived.Test.YtfnlddloalineaaGreatDoorQryA7
import Derived.Test.YtfnlddloalineaaGreatDoorQryA6
namespace Go.Proofs.YtfnlddloalineaaGreatDoor
open Go.RowKit
set_option linter.unusedVariables false
set_option maxRecDepth 100000
def exS : Wd := [115, 117, 109, 32, 98, 121, 32, 97, 99, 99, 111, 117, 110, 116, 44, 101, 110, 116, 105, 116, 121, 32, 119, 104, 101, 114, 101, 32, 101, 110, 116, 105, 116, 121, 32, 61, 32, 49, 32, 97, 110, 100, 32, 100, 97, 116, 101, 32, 62, 61, 32, 50, 48, 50, 54, 45, 48, 49, 45, 48, 49, 32, 97, 110, 100, 32, 107, 105, 110, 100, 32, 33, 61, 32, 114, 117, 108, 101]
def exQ : SQry := ⟨0, [0, 1], [⟨1, 0, 1⟩, ⟨4, 5, 20454⟩, ⟨3, 1, 10⟩]⟩
theorem ex_read : qryR (piecesL 32 exS) = .ok exQ := by kernel_rfl
theorem ex_date : datT 20454 = ymdT 2026 1 1 := by
  have h : dayN 2026 1 1 = 20454 := by kernel_rfl
  rw [← h]
  exact datT_of (by kernel_rfl)
theorem ex_one : Lib.itoa 1 = [49] := by
  have h := Lib.itoa_nonneg 1
  rw [Lib.decDigits_one (by omega)] at h
  exact h
theorem ex_print : prT exQ = exS := by
  have h1 : valT ⟨1, 0, 1⟩ = [49] := by unfold valT; rw [if_neg (by decide), if_neg (by decide)]; exact ex_one
  have h2 : valT ⟨4, 5, 20454⟩ = ymdT 2026 1 1 := by unfold valT; rw [if_neg (by decide), if_pos rfl]; exact ex_date
  have h3 : valT ⟨3, 1, 10⟩ = kdL.getD 10 [] := by unfold valT; rw [if_pos rfl]; rfl
  unfold prT
  simp only [exQ, whP, cW, List.flatMap_cons, List.flatMap_nil, List.cons_append, List.nil_append, List.append_nil]
  rw [h1, h2, h3]
  generalize hz : ymdT 2026 1 1 = z
  have hz2 : z = [50, 48, 50, 54, 45, 48, 49, 45, 48, 49] := by rw [← hz]; decide
  subst hz2
  decide
theorem ex_ok : OkQ exQ := by
  refine ⟨by decide, by decide, by decide, ?_, ?_, ?_⟩
  · intro k hk
    have hk : k < 2 := hk
    rcases k with _ | _ | k
    · exact ⟨by decide, by decide⟩
    · exact ⟨by decide, by decide⟩
    · omega
  · intro k hk
    have hk : k < 2 := hk
    rcases k with _ | _ | k
    · rfl
    · rfl
    · omega
  · intro x hx
    have hx : x = ⟨1, 0, 1⟩ ∨ x = ⟨4, 5, 20454⟩ ∨ x = ⟨3, 1, 10⟩ := by simpa [exQ] using hx
    rcases hx with rfl | rfl | rfl
    · exact ⟨by decide, by decide, by decide, by decide, fun h => absurd h (by decide), fun h => absurd h (by decide), fun _ _ => ⟨by decide, by decide⟩⟩
    · exact ⟨by decide, by decide, by decide, by decide, fun h => absurd h (by decide), fun _ => rfl, fun _ h => absurd rfl h⟩
    · exact ⟨by decide, by decide, by decide, by decide, fun _ => ⟨by decide, by decide, by decide⟩, fun h => absurd h (by decide), fun h => absurd rfl h⟩
theorem own_capQ {w : World} {base size n c : Nat} {e : TypeId} {A : Option Addr} {xs : List Value} (h : w.ownsRow base e size (.slice A n c) n xs) : n ≤ c := by
  obtain ⟨_, h⟩ := h
  rcases h with ⟨h1, h2⟩ | ⟨g, cap, cur, h1, _, _, h2, _⟩
  · omega
  · injection h1 with _ _ hc
    omega
def exB : Wd := [115, 117, 109, 32, 98, 121]
theorem ex_bad : qryR (piecesL 32 exB) = .error ([], 3) := by kernel_rfl
set_option maxHeartbeats 4000000 in
theorem awake_true (w : World) (hE : Env w) (hEE : EnvE w) : Calls Tryz.prog 11 #[] w fun e w' => e = .returned (.bool true) ∧ Below w.heap.size w w' := by
  have HP1 : Hid (Calls Tryz.prog 12 #[.string ⟨exS.toArray⟩] w fun e w1 => ∃ vb vw, e = .returned (.tuple #[.agg #[.int .i64 0, vb, vw], .int .i64 0, .int .i64 0]) ∧ w1.ownsRow w.heap.size 3 1 vb 2 (exQ.by_.map intV) ∧ w1.ownsRow w.heap.size 95 3 vw 3 (cndC exQ.wh) ∧ Below w.heap.size w w1) := by
    show Calls _ _ _ _ _
    refine (parse_any exS w hE hEE (by decide)).mono fun e w1 h => ?_
    unfold ParSays at h
    rw [ex_read] at h
    exact h
  have HPB : Hid (∀ w, Env w → EnvE w → Calls Tryz.prog 12 #[.string ⟨exB.toArray⟩] w fun e w1 => e = .returned (.tuple #[.agg #[.int .i64 0, .slice none 0 0, .slice none 0 0], .int .i64 6, .int .i64 3]) ∧ Below w.heap.size w w1) := by
    intro w hE hEE
    refine (parse_any exB w hE hEE (by decide)).mono fun e w1 h => ?_
    unfold ParSays at h
    rw [ex_bad] at h
    exact h
  have HES := Lib.hid hE.size
  have HEB : Hid (∀ w_, Below w.heap.size w w_ → Env w_) := fun w_ h => hE.after h
  have HEEB : Hid (∀ w_, Below w.heap.size w w_ → EnvE w_) := fun w_ h => hEE.below h hE.size
  have HPR : Hid (∀ (Ab Aw : Option Addr) (cb cw : Nat) (w1 : World), Env w1 → w1.ownsRow w.heap.size 3 1 (.slice Ab 2 cb) 2 (exQ.by_.map intV) → w1.ownsRow w.heap.size 95 3 (.slice Aw 3 cw) 3 (cndC exQ.wh) → Calls Tryz.prog 17 #[.agg #[.int .i64 0, .slice Ab 2 cb, .slice Aw 3 cw]] w1 fun e w' => e = .returned (.tuple #[.string ⟨exS.toArray⟩, .int .i64 0]) ∧ Below w1.heap.size w1 w') := by
    intro Ab Aw cb cw w1 h1 h2 h3
    have h := print_yes exQ Ab Aw 2 3 cb cw w1.heap.size w1 h1 ex_ok (RdBy.of_own h2) rfl (own_capQ h2) (Reads.of_own h3) (Nat.le_refl _) (by decide) (by rw [ex_print]; decide) (by decide)
    rw [ex_print] at h
    exact h
  clear hE hEE
  go_enter Tryz.func11, Tryz.ntmps11
  go_wp2_with fail
  refine HP1.out.mono ?_
  rintro e w1 ⟨vb, vw, rfl, hob, how, hb1⟩
  obtain ⟨Ab, cb, rfl⟩ := own_slice hob
  obtain ⟨Aw, cw, rfl⟩ := own_slice how
  have hb2 := hb1.alloc hb1.size (.cells (#[.int .i64 0, .slice Ab 2 cb, .slice Aw 3 cw] : Array Value) 26)
  have HPR2 := Lib.hid (HPR.out Ab Aw cb cw _ (HEB.out _ hb2) (hob.alloc _) (how.alloc _))
  have HB2 := Lib.hid hb2
  clear hb1 hob how hb2
  go_wp2_with fail
  refine HPR2.out.mono ?_
  rintro e w3 ⟨rfl, hb3⟩
  have HB3 := Lib.hid (below_two HB2.out hb3)
  clear hb3
  go_wp2_with fail
  refine (HPB.out _ (HEB.out _ HB3.out) (HEEB.out _ HB3.out)).mono ?_
  rintro e w4 ⟨rfl, hb4⟩
  have HB4 := Lib.hid (below_two HB3.out hb4)
  have HB5 := Lib.hid (HB4.out.alloc HB4.out.size (.cells (#[.int .i64 0, .slice none 0 0, .slice none 0 0] : Array Value) 26))
  clear hb4
  go_wp2_with fail
  · go_ret
    exact ⟨rfl, HB5.out⟩
end Go.Proofs.YtfnlddloalineaaGreatDoor
namespace Go.Proofs.YtfnlddloalineaaGreatDoor
open Go.RowKit
set_option linter.unusedVariables false
set_option maxRecDepth 100000
set_option maxHeartbeats 4000000 in
theorem sameI_yes (l : List Int) (A A' : Option Addr) (n c c' B : Nat) (w : World) (h : RdBy w B A l) (h' : RdBy w B A' l) (hn : n = l.length) (hb : n ≤ 9223372036854775807) :
    Calls Tryz.prog 30 #[.slice A n c, .slice A' n c'] w fun e w' => e = .returned (.bool true) ∧ ∃ k, w' = w.drewN k := by
  have HA := Lib.hid h
  have HA' := Lib.hid h'
  have HN := Lib.hid hn
  have q1 : ((n : Int) != (n : Int)) = false := by simp
  clear h h' hn
  go_enter Tryz.func30, Tryz.ntmps30
  go_wp2_with fail
  go_loopw [5] (fun i wr => ∃ k m : Nat, k ≤ n ∧ i = .int .i64 k ∧ wr = w.drewN m) (fun i _ => n - (intOf i).toNat)
  case atStart => exact ⟨0, 0, by omega, rfl, rfl⟩
  case round =>
    obtain ⟨k, m, hk, rfl, rfl⟩ := hrel
    by_cases hlt : k < n
    · have k3 : decide ((k : Int) < (n : Int)) = true := by rw [decide_eq_true_eq]; omega
      have k4 : (k : Int) < (n : Int) := by omega
      have hkl : k < l.length := by have := HN.out; omega
      obtain ⟨g, o, rfl, hg, hc⟩ := HA.out (by omega)
      obtain ⟨g', o', rfl, hg', hc'⟩ := HA'.out (by omega)
      have y3 := hc k hkl
      have y3' := hc' k hkl
      generalize l.getD k 0 = x at *
      clear hc hc' hkl
      have q2 : (x != x) = false := by simp
      go_wp2_with fail
      go_quiet (fail)
      go_wp2_with fail
      go_roundw
      case rel => exact ⟨k + 1, _, by omega, by go_num, rfl⟩
      case measure => simp [intOf]; omega
    · have k3 : decide ((k : Int) < (n : Int)) = false := by rw [decide_eq_false_iff_not]; omega
      go_wp2_with fail
      go_ret
      exact ⟨rfl, m, rfl⟩
theorem info_rcnd : (Tryz.prog.info? 72).map (fun i => (i.zero, i.size, i.bytes)) = some (some (.agg #[.int .i64 0, .int .i64 0, .int .i64 0]), 3, 24) := by kernel_rfl
structure FrS (w : World) (verb : Int) (vb v' : Value) (Aw : Option Addr) (nw B : Nat) (wh : List SCond) (k : Nat) (x : World) : Prop where
  res : Blk x (w.heap.size + 1) 32 #[.int .i64 0, .slice none 0 0, .slice none 0 0]
  out : Blk x (w.heap.size + 1 + 1) 32 #[.int .i64 verb, vb, v']
  rwh : Reads x B 3 Aw nw (cndC wh)
  row : x.ownsRow (w.heap.size + 1 + 1 + 1) 72 3 v' k (cndC (wh.take k))
  below : Below w.heap.size w x
theorem cndC_step {l : List SCond} {k : Nat} (hk : k < l.length) : cndC (l.take (k + 1)) = cndC (l.take k) ++ [.int .i64 (l.getD k default).f, .int .i64 (l.getD k default).o, .int .i64 (l.getD k default).v] := by
  rw [List.take_succ_eq_append_getElem hk, cndC_app]
  simp [List.getD, hk]
theorem FrS.step {w : World} {verb : Int} {vb v' v6 : Value} {Aw : Option Addr} {nw B : Nat} {wh : List SCond} {k : Nat} {x w6 : World} {o1 o2 : Obj} (h : FrS w verb vb v' Aw nw B wh k x) (hB : B ≤ w.heap.size) (hk : k < wh.length) (hg : ((x.alloc o1).alloc o2).grownBy w6 v'.ownBlock)
    (hown : w6.ownsRow (w.heap.size + 1 + 1 + 1) 72 3 v6 (k + 1) (cndC (wh.take k) ++ [.int .i64 (wh.getD k default).f, .int .i64 (wh.getD k default).o, .int .i64 (wh.getD k default).v])) :
    FrS w verb vb v6 Aw nw B wh (k + 1) (w6.setCell ⟨w.heap.size + 1 + 1, 2, none⟩ v6) ∧ w6.cell? ⟨w.heap.size + 1 + 1, 2, none⟩ = some v' ∧ w6.frozen? ⟨w.heap.size + 1 + 1, 2, none⟩ = false := by
  have hs := h.below.size
  have hb5 : ∀ b, v'.ownBlock = some b → w.heap.size + 1 + 1 + 1 ≤ b := own_base h.row
  have hO := (((h.out.alloc o1).alloc o2).grown hg (fun e => own_blk_ne h.row h.out (by decide) e.symm))
  have hR := (((h.res.alloc o1).alloc o2).grown hg (fun e => own_blk_ne h.row h.res (by decide) e.symm))
  refine ⟨⟨hR.far (p := ⟨w.heap.size + 1 + 1, 2, none⟩) (by simp only []; omega) _, by have := hO.set_ 2 v6; simpa using this, (((h.rwh.alloc (by omega) o1).alloc (by rw [World.size_alloc]; omega) o2).grown hg (by simp only [World.size_alloc]; omega) (fun g e => by have := hb5 _ e; omega)).setCell (by simp only []; omega) _, ?_, ?_⟩, hO.cell 2, hO.frozen 2⟩
  · rw [cndC_step hk]
    exact ownsRow_setCell_other hown (a := ⟨w.heap.size + 1 + 1, 2, none⟩) (own_blk_ne hown hO (by decide)) v6
  · exact ((((h.below.alloc hs o1).alloc (by rw [World.size_alloc]; omega) o2).grown hg (by simp only [World.size_alloc]; omega) (fun r e => by have := hb5 _ e; omega)).setCell (p := ⟨w.heap.size + 1 + 1, 2, none⟩) (by simp only []; omega) _)
set_option maxHeartbeats 8000000 in
theorem from_any (verb : Int) (wh : List SCond) (Ab Aw : Option Addr) (nb nw cb cw B : Nat) (w : World) (hw : Reads w B 3 Aw nw (cndC wh)) (hB : B ≤ w.heap.size) (hn : nw ≤ 1000) :
    Calls Tryz.prog 15 #[.agg #[.int .i64 verb, .slice Ab nb cb, .slice Aw nw cw]] w fun e w' => ∃ A' c', e = .returned (.agg #[.int .i64 verb, .slice Ab nb cb, .slice A' nw c']) ∧ w'.ownsRow w.heap.size 72 3 (.slice A' nw c') nw (cndC wh) ∧ Below w.heap.size w w' := by
  have hnw : wh.length = nw := by have := hw.1; rw [cndC_len] at this; omega
  have HNW := Lib.hid hnw
  have h1 := (Below.refl w.heap.size w).alloc (Nat.le_refl _) (.cells (#[.int .i64 verb, .slice Ab nb cb, .slice Aw nw cw] : Array Value) 26)
  have hk1 := Blk.new w 26 #[.int .i64 verb, .slice Ab nb cb, .slice Aw nw cw]
  obtain ⟨x1, hx1⟩ : ∃ x1, w.alloc (.cells (#[.int .i64 verb, .slice Ab nb cb, .slice Aw nw cw] : Array Value) 26) = x1 := ⟨_, rfl⟩
  have s1 : x1.heap.size = w.heap.size + 1 := by rw [← hx1, World.size_alloc]
  rw [hx1] at h1 hk1
  have h2 := h1.alloc h1.size (.cells (#[.int .i64 0, .slice none 0 0, .slice none 0 0] : Array Value) 32)
  have hk2 := Blk.new x1 32 #[.int .i64 0, .slice none 0 0, .slice none 0 0]
  have h3 := h2.alloc h2.size (.cells (#[.int .i64 verb, .slice Ab nb cb, .slice none 0 0] : Array Value) 32)
  have hk3 := Blk.new (x1.alloc (.cells (#[.int .i64 0, .slice none 0 0, .slice none 0 0] : Array Value) 32)) 32 #[.int .i64 verb, .slice Ab nb cb, .slice none 0 0]
  rw [World.size_alloc, s1] at hk3
  rw [s1] at hk2
  have hf : FrS w verb (.slice Ab nb cb) (.slice none 0 0) Aw nw B wh 0 ((x1.alloc (.cells (#[.int .i64 0, .slice none 0 0, .slice none 0 0] : Array Value) 32)).alloc (.cells (#[.int .i64 verb, .slice Ab nb cb, .slice none 0 0] : Array Value) 32)) :=
    ⟨hk2.alloc _, hk3, hw.lowQ hB (Nat.le_refl _) h3, World.ownsRow_nil _ _ _ _, h3⟩
  have HF := Lib.hid hf
  have HX := Lib.hid hx1
  obtain ⟨c0, c1, c2⟩ := rd_cells hk1
  have hl1 : w.heap.size < x1.heap.size := by omega
  obtain ⟨i0, hi0, hz0, hz1, hz2⟩ := info_parts info_rcnd
  clear h1 h2 h3 hk1 hk2 hk3 hw hnw hf
  go_enter Tryz.func15, Tryz.ntmps15
  go_wp2_with fail
  go_loopw [14] (fun i x => ∃ (k : Nat) (v' : Value), k ≤ nw ∧ i = .int .i64 k ∧ FrS w verb (.slice Ab nb cb) v' Aw nw B wh k x) (fun i _ => nw - (intOf i).toNat)
  case atStart => exact ⟨0, _, by omega, rfl, HF.out⟩
  case round =>
    clear HF c0 c1 c2 hx1 hl1 s1
    obtain ⟨k, v', hk, rfl, hs⟩ := hrel
    obtain ⟨A', c', rfl⟩ := own_slice hs.row
    have HS := Lib.hid hs
    obtain ⟨d0, d1, d2⟩ := rd_cells hs.out
    have hlt2 : w.heap.size + 1 + 1 < wr.heap.size := hs.out.lt
    by_cases hlt : k < nw
    · have k3 : decide ((k : Int) < (nw : Int)) = true := by rw [decide_eq_true_eq]; omega
      have hkl : k < wh.length := by have := HNW.out; omega
      obtain ⟨ad, rfl, had, b0, b1, b2⟩ := hs.rwh.cnd_at hlt
      have hadl : ad.block < wr.heap.size := by omega
      have HSTP : Hid (∀ (v6 : Value) (w6 : World) (o1 o2 : Obj), ((wr.alloc o1).alloc o2).grownBy w6 (Value.slice A' k c').ownBlock → w6.ownsRow (w.heap.size + 1 + 1 + 1) 72 3 v6 (k + 1) (cndC (wh.take k) ++ [.int .i64 (wh.getD k default).f, .int .i64 (wh.getD k default).o, .int .i64 (wh.getD k default).v]) → FrS w verb (.slice Ab nb cb) v6 (some ad) nw B wh (k + 1) (w6.setCell ⟨w.heap.size + 1 + 1, 2, none⟩ v6) ∧ w6.cell? ⟨w.heap.size + 1 + 1, 2, none⟩ = some (.slice A' k c') ∧ w6.frozen? ⟨w.heap.size + 1 + 1, 2, none⟩ = false) := fun v6 w6 o1 o2 hg ho => HS.out.step hB hkl hg ho
      generalize wh.getD k default = cc at *
      obtain ⟨f, o, v⟩ := cc
      simp only [] at b0 b1 b2 HSTP
      have HRO : Hid (Reads ((wr.alloc (.cells (#[.int .i64 f, .int .i64 o, .int .i64 v] : Array Value) 95)).alloc (.cells (#[.int .i64 f, .int .i64 o, .int .i64 v] : Array Value) 72)) (wr.heap.size + 1 + 1) 3 (some ⟨wr.heap.size + 1, 0, none⟩) 1 [.int .i64 f, .int .i64 o, .int .i64 v]) := by
        have := reads_one (wr.alloc (.cells (#[.int .i64 f, .int .i64 o, .int .i64 v] : Array Value) 95)) #[.int .i64 f, .int .i64 o, .int .i64 v] 72 3 rfl
        rw [World.size_alloc] at this
        exact this
      clear hs hkl
      go_wp2_with (at_builtin; refine wpList_append_any _ rfl (.tmp 19) (.tmp 21) _ rfl (w.heap.size + 1 + 1 + 1) 72 i0 _ 3 24 Tryz.underlying30 hi0 hz0 hz1 hz2 rfl (by omega) _ k (cndC (wh.take k)) rfl ((HS.out.row.alloc _).alloc _) (wr.heap.size + 1 + 1) (some ⟨wr.heap.size + 1, 0, none⟩) 1 1 [.int .i64 f, .int .i64 o, .int .i64 v] rfl HRO.out (cond_one _ _ _) (by simp only [maxLen]; omega) (by omega) (by simp only [World.size_alloc]; omega) ?_; intro v6 w6 hown6 hg6 hat6; obtain ⟨A6, c6, rfl⟩ := own_slice hown6; obtain ⟨hF6, hc6, hf6⟩ := HSTP.out _ _ _ _ hg6 hown6; have HF6 := Lib.hid hF6; clear hF6 hown6 hg6 hat6)
      go_roundw
      case rel => exact ⟨k + 1, _, by omega, by go_num, HF6.out⟩
      case measure => simp [intOf]; omega
    · have k3 : decide ((k : Int) < (nw : Int)) = false := by rw [decide_eq_false_iff_not]; omega
      have hk' : k = nw := by omega
      subst hk'
      obtain ⟨e0, e1, e2⟩ := rd_cells hs.res
      have hz := hs.res.frozen
      have hrow := hs.row
      rw [List.take_of_length_le (by have := HNW.out; omega)] at hrow
      have HROW := Lib.hid (own_low (own_set3 hrow hs.res (by decide) (.int .i64 verb) (.slice Ab nb cb) (.slice A' k c')) (show w.heap.size ≤ w.heap.size + 1 + 1 + 1 by omega))
      have HBL := Lib.hid (below_set3 hs.below (show w.heap.size ≤ w.heap.size + 1 by omega) (.int .i64 verb) (.slice Ab nb cb) (.slice A' k c'))
      have HC3 := Lib.hid (rd_cells3 hs.res (.int .i64 verb) (.slice Ab nb cb) (.slice A' k c'))
      clear hs hrow
      go_wp2_with fail
      obtain ⟨z0, z1, z2⟩ := HC3.out
      refine bodyPost_ret (v := .agg #[.int .i64 verb, .slice Ab nb cb, .slice A' k c']) ?_ rfl ⟨A', c', rfl, HROW.out, HBL.out⟩
      simp [results, Tryz.results15, go_sem, z0, z1, z2]
end Go.Proofs.YtfnlddloalineaaGreatDoor
namespace Go.Proofs.YtfnlddloalineaaGreatDoor
open Go.RowKit
set_option linter.unusedVariables false
set_option maxRecDepth 100000
set_option maxHeartbeats 8000000 in
theorem same_yes (verb : Int) (byl : List Int) (wh : List SCond) (Ab Aw Ab' Aw' : Option Addr) (nb nw cb cw cb' cw' B : Nat) (w : World) (hB : B ≤ w.heap.size) (h1 : RdBy w B Ab byl) (h2 : RdBy w B Ab' byl) (h3 : Reads w B 3 Aw nw (cndC wh)) (h4 : Reads w B 3 Aw' nw (cndC wh)) (hn : nb = byl.length) (hbn : nb ≤ 9223372036854775807) (hbw : nw ≤ 100000) :
    Calls Tryz.prog 14 #[.agg #[.int .i64 verb, .slice Ab nb cb, .slice Aw nw cw], .agg #[.int .i64 verb, .slice Ab' nb cb', .slice Aw' nw cw']] w fun e w' => e = .returned (.bool true) ∧ Below w.heap.size w w' := by
  have hb0 := ((Below.refl w.heap.size w).alloc (Nat.le_refl _) (.cells (#[.int .i64 verb, .slice Ab nb cb, .slice Aw nw cw] : Array Value) 32))
  have hb1 := hb0.alloc hb0.size (.cells (#[.int .i64 verb, .slice Ab' nb cb', .slice Aw' nw cw'] : Array Value) 32)
  have hk0 := (Blk.new w 32 #[.int .i64 verb, .slice Ab nb cb, .slice Aw nw cw]).alloc (.cells (#[.int .i64 verb, .slice Ab' nb cb', .slice Aw' nw cw'] : Array Value) 32)
  have hk1 := Blk.new (w.alloc (.cells (#[.int .i64 verb, .slice Ab nb cb, .slice Aw nw cw] : Array Value) 32)) 32 #[.int .i64 verb, .slice Ab' nb cb', .slice Aw' nw cw']
  rw [World.size_alloc] at hk1
  obtain ⟨x, hx⟩ : ∃ x, (w.alloc (.cells (#[.int .i64 verb, .slice Ab nb cb, .slice Aw nw cw] : Array Value) 32)).alloc (.cells (#[.int .i64 verb, .slice Ab' nb cb', .slice Aw' nw cw'] : Array Value) 32) = x := ⟨_, rfl⟩
  rw [hx] at hb1 hk0 hk1
  obtain ⟨c0, c1, c2⟩ := rd_cells hk0
  obtain ⟨e0, e1, e2⟩ := rd_cells hk1
  have hlx : w.heap.size + 1 < x.heap.size := hk1.lt
  have HSI := Lib.hid (sameI_yes byl Ab Ab' nb cb cb' B x (h1.low hB (Nat.le_refl _) hb1) (h2.low hB (Nat.le_refl _) hb1) hn hbn)
  have HR3 := Lib.hid (h3.lowQ hB (Nat.le_refl _) hb1)
  have HR4 := Lib.hid (h4.lowQ hB (Nat.le_refl _) hb1)
  have HB1 := Lib.hid hb1
  have q1 : (verb != verb) = false := by simp
  have q2 : ((nw : Int) != (nw : Int)) = false := by simp
  clear h1 h2 h3 h4 hb0 hb1 hk0 hk1 hn
  go_enter Tryz.func14, Tryz.ntmps14
  go_wp2_with fail
  refine HSI.out.mono ?_
  rintro e wy ⟨rfl, m0, rfl⟩
  go_wp2_with fail
  go_loopw [5] (fun i wr => ∃ k m : Nat, k ≤ nw ∧ i = .int .i64 k ∧ wr = x.drewN m) (fun i _ => nw - (intOf i).toNat)
  case atStart => exact ⟨0, m0, by omega, rfl, rfl⟩
  case round =>
    obtain ⟨k, m, hk, rfl, rfl⟩ := hrel
    by_cases hlt : k < nw
    · have k3 : decide ((k : Int) < (nw : Int)) = true := by rw [decide_eq_true_eq]; omega
      have k4 : (k : Int) < (nw : Int) := by omega
      obtain ⟨ad, rfl, had, b0, b1, b2⟩ := HR3.out.cnd_at hlt
      obtain ⟨ad', rfl, had', d0, d1, d2⟩ := HR4.out.cnd_at hlt
      generalize wh.getD k default = cc at *
      obtain ⟨f, o, v⟩ := cc
      simp only [] at b0 b1 b2 d0 d1 d2
      go_wp2_with fail
      go_quiet (fail)
      go_wp2_with fail
      go_roundw
      case rel => exact ⟨k + 1, _, by omega, by go_num, rfl⟩
      case measure => simp [intOf]; omega
    · have k3 : decide ((k : Int) < (nw : Int)) = false := by rw [decide_eq_false_iff_not]; omega
      go_wp2_with fail
      go_ret
      exact ⟨rfl, below_drewN HB1.out m⟩
theorem own_max {w : World} {b : Nat} {e : TypeId} {size n : Nat} {v : Value} {xs : List Value} (h : w.ownsRow b e size v n xs) : n ≤ maxLen := by
  rcases h.2 with ⟨_, h0⟩ | ⟨g, cap, cur, rfl, _, _, h1, h2, _⟩
  · omega
  · omega
theorem whR_len : ∀ {n : Nat} {acc : List SCond} {ws : List Wd} {cs : List SCond}, whR n acc ws = .ok cs → cs.length ≤ acc.length + n := by
  intro n
  induction n with
  | zero =>
    intro acc ws cs h
    unfold whR at h
    split at h <;> cases h
  | succ n ih =>
    intro acc ws cs h
    rcases hc : cndR ws with p | ⟨c, r⟩
    · rw [whR_err hc (.inl (by omega))] at h; cases h
    · cases r with
      | nil => rw [whR_end hc] at h; cases h; simp
      | cons y r =>
        by_cases hy : y = andW
        · subst hy
          rw [whR_and hc] at h
          have := ih h
          simp at this; omega
        · rw [whR_bad hc hy] at h; cases h
theorem tailR_len {verb : Int} {byl : List Int} {ws : List Wd} {q : SQry} (h : tailR verb byl ws = .ok q) : q.wh.length ≤ 20 := by
  cases ws with
  | nil => cases h; simp
  | cons x r =>
    by_cases hx : x = whereW
    · subst hx
      rw [tailR_where] at h
      cases hw : whR 20 [] r with
      | error p => rw [hw] at h; cases h
      | ok cs =>
        rw [hw] at h
        cases h
        have := whR_len hw
        simpa using this
    · rw [tailR_bad hx] at h; cases h
theorem qryR_len {ws : List Wd} {q : SQry} (h : qryR ws = .ok q) : q.wh.length ≤ 20 := by
  cases ws with
  | nil => cases h
  | cons v ws =>
    by_cases hv : idxW vbL v < 0
    · rw [qryR_verb hv] at h; cases h
    · cases ws with
      | nil => rw [qryR_one hv] at h; exact tailR_len h
      | cons b ws =>
        by_cases hb : b = byW
        · subst hb
          cases ws with
          | nil => rw [qryR_by0 hv] at h; cases h
          | cons f ws =>
            rw [qryR_by hv] at h
            cases hf : byR f with
            | error e => rw [hf] at h; cases h
            | ok l => rw [hf] at h; exact tailR_len h
        · rw [qryR_plain hv hb] at h; exact tailR_len h
/-- both parses, in one form -/
theorem par_both (s : Wd) : ∃ (V : Int) (L : List Int) (H : List SCond) (P E : Int), H.length ≤ 20 ∧
    (∀ w e w', ParSays s w e w' → ∃ Ab cb Aw cw, e = .returned (.tuple #[.agg #[.int .i64 V, .slice Ab L.length cb, .slice Aw H.length cw], .int .i64 P, .int .i64 E]) ∧ w'.ownsRow w.heap.size 3 1 (.slice Ab L.length cb) L.length (L.map intV) ∧ w'.ownsRow w.heap.size 95 3 (.slice Aw H.length cw) H.length (cndC H) ∧ Below w.heap.size w w') ∧
    (∀ w e w', RParSays s w e w' → ∃ Ab cb Aw cw, e = .returned (.tuple #[.agg #[.int .i64 V, .slice Ab L.length cb, .slice Aw H.length cw], .int .i64 P, .int .i64 E]) ∧ w'.ownsRow w.heap.size 3 1 (.slice Ab L.length cb) L.length (L.map intV) ∧ w'.ownsRow w.heap.size 72 3 (.slice Aw H.length cw) H.length (cndC H) ∧ Below w.heap.size w w') := by
  cases hq : qryR (piecesL 32 s) with
  | error p =>
    obtain ⟨r, E⟩ := p
    refine ⟨0, [], [], (plcR (piecesL 32 s) r s.length : Int), E, by simp, fun w e w' h => ?_, fun w e w' h => ?_⟩
    · unfold ParSays at h; rw [hq] at h
      exact ⟨none, 0, none, 0, h.1, World.ownsRow_nil _ _ _ _, World.ownsRow_nil _ _ _ _, h.2⟩
    · unfold RParSays at h; rw [hq] at h
      exact ⟨none, 0, none, 0, h.1, World.ownsRow_nil _ _ _ _, World.ownsRow_nil _ _ _ _, h.2⟩
  | ok q =>
    refine ⟨q.verb, q.by_, q.wh, 0, 0, qryR_len hq, fun w e w' h => ?_, fun w e w' h => ?_⟩
    · unfold ParSays at h; rw [hq] at h
      obtain ⟨vb, vw, he, h1, h2, h3⟩ := h
      obtain ⟨Ab, cb, rfl⟩ := own_slice h1
      obtain ⟨Aw, cw, rfl⟩ := own_slice h2
      exact ⟨Ab, cb, Aw, cw, he, h1, h2, h3⟩
    · unfold RParSays at h; rw [hq] at h
      obtain ⟨vb, vw, he, h1, h2, h3⟩ := h
      obtain ⟨Ab, cb, rfl⟩ := own_slice h1
      obtain ⟨Aw, cw, rfl⟩ := own_slice h2
      exact ⟨Ab, cb, Aw, cw, he, h1, h2, h3⟩
end Go.Proofs.YtfnlddloalineaaGreatDoor
namespace Go.Proofs.YtfnlddloalineaaGreatDoor
open Go.RowKit
set_option linter.unusedVariables false
set_option maxRecDepth 100000
set_option maxHeartbeats 8000000 in
theorem lawParse (s0 : ByteArray) (w : World) (hE : Env w) (hEE : EnvE w) (hs : s0.size ≤ 9223372036854775807) : Calls Tryz.prog 3 #[.string s0] w fun e w' => e = .returned (.bool true) ∧ Below w.heap.size w w' := by
  obtain ⟨l, rfl⟩ : ∃ l : List UInt8, s0 = ⟨l.toArray⟩ := ⟨s0.data.toList, rfl⟩
  by_cases hl : l.length ≤ 600
  · have hln : decide ((600 : Int) < (l.length : Int)) = false := by rw [decide_eq_false_iff_not]; omega
    obtain ⟨V, L, H, P, E, hH, hA, hR⟩ := par_both l
    have HEB : Hid (∀ w_, Below w.heap.size w w_ → Env w_) := fun w_ h => hE.after h
    have HEEB : Hid (∀ w_, Below w.heap.size w w_ → EnvE w_) := fun w_ h => hEE.below h hE.size
    obtain ⟨nb, hnb⟩ : ∃ nb, L.length = nb := ⟨_, rfl⟩
    obtain ⟨nw, hnw⟩ : ∃ nw, H.length = nw := ⟨_, rfl⟩
    rw [hnb, hnw] at hA hR
    have hw20 : nw ≤ 20 := by omega
    have HNB := Lib.hid hnb
    have HP : Hid (∀ w, Env w → EnvE w → Calls Tryz.prog 12 #[.string ⟨l.toArray⟩] w fun e w' => ∃ Ab cb Aw cw, e = .returned (.tuple #[.agg #[.int .i64 V, .slice Ab nb cb, .slice Aw nw cw], .int .i64 P, .int .i64 E]) ∧ w'.ownsRow w.heap.size 3 1 (.slice Ab nb cb) nb (L.map intV) ∧ w'.ownsRow w.heap.size 95 3 (.slice Aw nw cw) nw (cndC H) ∧ Below w.heap.size w w') := fun w h1 h2 => (parse_any l w h1 h2 (by omega)).mono fun e w' h => hA w e w' h
    have HRP : Hid (∀ w, Calls Tryz.prog 13 #[.string ⟨l.toArray⟩] w fun e w' => ∃ Ab cb Aw cw, e = .returned (.tuple #[.agg #[.int .i64 V, .slice Ab nb cb, .slice Aw nw cw], .int .i64 P, .int .i64 E]) ∧ w'.ownsRow w.heap.size 3 1 (.slice Ab nb cb) nb (L.map intV) ∧ w'.ownsRow w.heap.size 72 3 (.slice Aw nw cw) nw (cndC H) ∧ Below w.heap.size w w') := fun w => (rparse_any l w (by omega)).mono fun e w' h => hR w e w' h
    have q1 : (E == E) = true := by simp
    have q2 : (P == P) = true := by simp
    clear hA hR hH hnb hnw hl
    go_enter Tryz.func3, Tryz.ntmps3
    go_wp2_with fail
    refine (awake_true _ hE hEE).mono ?_
    rintro e w1 ⟨rfl, hb⟩
    have HB1 := Lib.hid hb
    clear hb hE hEE
    go_wp2_with fail
    refine (HP.out _ (HEB.out _ HB1.out) (HEEB.out _ HB1.out)).mono ?_
    rintro e w2 ⟨Ab, cb, Aw, cw, rfl, ho1, ho2, hb⟩
    have HB2 := Lib.hid (below_two HB1.out hb)
    have HO1 := Lib.hid (ho1.alloc (.cells (#[.int .i64 V, .slice Ab nb cb, .slice Aw nw cw] : Array Value) 26))
    have HO2 := Lib.hid (ho2.alloc (.cells (#[.int .i64 V, .slice Ab nb cb, .slice Aw nw cw] : Array Value) 26))
    have HK2 := Lib.hid (Blk.new w2 26 #[.int .i64 V, .slice Ab nb cb, .slice Aw nw cw])
    have HB3 := Lib.hid (HB2.out.alloc HB2.out.size (.cells (#[.int .i64 V, .slice Ab nb cb, .slice Aw nw cw] : Array Value) 26))
    clear hb ho1 ho2
    go_wp2_with fail
    refine (HRP.out _).mono ?_
    rintro e w4 ⟨Ab', cb', Aw', cw', rfl, ho3, ho4, hb⟩
    have hk4 := (HK2.out.below hb HK2.out.lt).alloc (.cells (#[.int .i64 V, .slice Ab' nb cb', .slice Aw' nw cw'] : Array Value) 32)
    have hk5 := Blk.new w4 32 #[.int .i64 V, .slice Ab' nb cb', .slice Aw' nw cw']
    have HB4 := Lib.hid (below_two HB3.out hb)
    have hl24 : w2.heap.size < w4.heap.size := (HK2.out.below hb HK2.out.lt).lt
    have HP1 := Lib.hid ((own_below HO1.out hb).alloc (.cells (#[.int .i64 V, .slice Ab' nb cb', .slice Aw' nw cw'] : Array Value) 32))
    have HP2 := Lib.hid ((own_below HO2.out hb).alloc (.cells (#[.int .i64 V, .slice Ab' nb cb', .slice Aw' nw cw'] : Array Value) 32))
    have HP3 := Lib.hid (ho3.alloc (.cells (#[.int .i64 V, .slice Ab' nb cb', .slice Aw' nw cw'] : Array Value) 32))
    have HP4 := Lib.hid (ho4.alloc (.cells (#[.int .i64 V, .slice Ab' nb cb', .slice Aw' nw cw'] : Array Value) 32))
    have HB5 := Lib.hid (HB4.out.alloc HB4.out.size (.cells (#[.int .i64 V, .slice Ab' nb cb', .slice Aw' nw cw'] : Array Value) 32))
    have HK4 := Lib.hid hk4
    have HK5 := Lib.hid hk5
    clear hb ho3 ho4 hk4 hk5 HO1 HO2
    go_upto_region 5 with fail
    obtain ⟨w5, hw5⟩ : ∃ w5, w4.alloc (.cells (#[.int .i64 V, .slice Ab' nb cb', .slice Aw' nw cw'] : Array Value) 32) = w5 := ⟨_, rfl⟩
    rw [hw5] at HP1 HP2 HP3 HP4 HB5 HK4 HK5 ⊢
    clear hw5
    obtain ⟨x0, x1, x2⟩ := rd_cells HK4.out
    obtain ⟨y0, y1, y2⟩ := rd_cells HK5.out
    have hl45 : w4.heap.size < w5.heap.size := HK5.out.lt
    have HFR := Lib.hid (from_any V H Ab Aw nb nw cb cw w5.drew.heap.size w5.drew (Reads.of_own HP2.out.drew) (Nat.le_refl _) (by omega))
    have HAF : Hid (∀ A6 c6 w6, w6.ownsRow w5.drew.heap.size 72 3 (.slice A6 nw c6) nw (cndC H) → Below w5.drew.heap.size w5.drew w6 → Blk w6 w4.heap.size 32 #[.int .i64 V, .slice Ab' nb cb', .slice Aw' nw cw'] ∧ Below w.heap.size w w6 ∧ Hid (Calls Tryz.prog 14 #[.agg #[.int .i64 V, .slice Ab nb cb, .slice A6 nw c6], .agg #[.int .i64 V, .slice Ab' nb cb', .slice Aw' nw cw']] w6 fun e w' => e = .returned (.bool true) ∧ Below w6.heap.size w6 w')) := by
      intro A6 c6 w6 ho hb
      have e1 := own_below HP1.out.drew hb
      have e3 := own_below HP3.out.drew hb
      have e4 := own_below HP4.out.drew hb
      refine ⟨HK5.out.drew.below hb (by rw [World.size_drew]; exact HK5.out.lt), below_two HB5.out.drew hb, ?_⟩
      rw [← HNB.out] at e1 e3
      have r := same_yes V L H Ab A6 Ab' Aw' L.length nw cb c6 cb' cw' w6.heap.size w6 (Nat.le_refl _) (RdBy.of_own e1) (RdBy.of_own e3) (Reads.of_own ho) (Reads.of_own e4) rfl (by have := own_max e1; simp only [maxLen] at this; omega) (by omega)
      rw [HNB.out] at r
      exact r
    go_region_with (first
      | (go_at_call 15; refine HFR.out.mono ?_; rintro e w6 ⟨A6, c6, rfl, ho6, hb6⟩; obtain ⟨hk6, hb6', hs6⟩ := HAF.out A6 c6 w6 ho6 hb6; obtain ⟨z0, z1, z2⟩ := rd_cells hk6; have hl6 := hk6.lt)
      | (go_at_call 14; refine hs6.out.mono ?_; rintro e w7 ⟨rfl, hb7⟩; have hb8 := below_two hb6' hb7))
    all_goals
      go_wp2_with fail
      go_ret
      exact ⟨rfl, hb8⟩
  · have hln : decide ((600 : Int) < (l.length : Int)) = true := by rw [decide_eq_true_eq]; omega
    have HEB : Hid (∀ w_, Below w.heap.size w w_ → Env w_) := fun w_ h => hE.after h
    have HEEB : Hid (∀ w_, Below w.heap.size w w_ → EnvE w_) := fun w_ h => hEE.below h hE.size
    go_enter Tryz.func3, Tryz.ntmps3
    go_wp2_with fail
    refine (awake_true _ hE hEE).mono ?_
    rintro e w1 ⟨rfl, hb1⟩
    have HB1 := Lib.hid hb1
    clear hb1 hE hEE
    go_wp2_with fail
    refine (awake_true _ (HEB.out _ HB1.out) (HEEB.out _ HB1.out)).mono ?_
    rintro e w2 ⟨rfl, hb2⟩
    have HB2 := Lib.hid (below_two HB1.out hb2)
    clear hb2
    go_wp2_with fail
    go_ret
    exact ⟨rfl, HB2.out⟩
end Go.Proofs.YtfnlddloalineaaGreatDoor
namespace Go.Proofs.YtfnlddloalineaaGreatDoor
set_option linter.unusedVariables false
theorem joinTail_cons (sep x : Wd) (r : List Wd) : Lib.joinTail sep (x :: r) = sep ++ x ++ Lib.joinTail sep r := by
  unfold Lib.joinTail
  simp
theorem join_pieces (c : UInt8) : ∀ s : Wd, Lib.join (piecesL c s) [c] = s := by
  intro s
  induction s with
  | nil => exact Lib.join_one [] [c]
  | cons b r ih =>
    obtain ⟨w, ws, hw⟩ : ∃ w ws, piecesL c r = w :: ws := by
      cases h : piecesL c r with
      | nil => exact absurd h (piecesL_ne c r)
      | cons w ws => exact ⟨w, ws, rfl⟩
    rw [hw, Lib.join_cons] at ih
    by_cases hb : b = c
    · subst hb
      have e : piecesL b (b :: r) = [] :: piecesL b r := by rw [piecesL]; exact if_pos rfl
      rw [e, hw, Lib.join_cons, joinTail_cons]
      simp only [List.nil_append, List.cons_append]
      rw [ih]
    · have e : piecesL c (b :: r) = (b :: w) :: ws := by rw [piecesL, if_neg hb, hw]
      rw [e, Lib.join_cons, List.cons_append, ih]
theorem idxW_get : ∀ {l : List Wd} {s : Wd}, ¬ idxW l s < 0 → l.getD (idxW l s).toNat [] = s := by
  intro l
  induction l with
  | nil => intro s h; exact absurd (show (-1 : Int) < 0 by decide) h
  | cons x r ih =>
    intro s h
    rw [idxW_cons] at h ⊢
    by_cases hx : (x == s) = true
    · rw [if_pos hx]
      exact beq_iff_eq.1 hx
    · rw [if_neg hx] at h ⊢
      by_cases hr : idxW r s < 0
      · rw [if_pos hr] at h; exact absurd (show (-1 : Int) < 0 by decide) h
      · rw [if_neg hr]
        have e : (idxW r s + 1).toNat = (idxW r s).toNat + 1 := by omega
        rw [e]
        exact ih hr
theorem byR_ok {f : Wd} {l : List Int} (h : byR f = .ok l) : Lib.join (l.map fdW) [44] = f ∧ (∀ k, k < l.length → 0 ≤ l.getD k 0 ∧ l.getD k 0 ≤ 4) ∧ (∀ k, k < l.length → (l.take k).contains (l.getD k 0) = false) := by
  unfold byR at h
  split at h
  · cases h
  · rename_i h1
    split at h
    · cases h
    · rename_i h2
      cases h
      have hall : ∀ x, x ∈ piecesL 44 f → ¬ idxW fdL x < 0 := by
        intro x hx hlt
        refine h1 (List.any_eq_true.2 ⟨idxW fdL x, ?_, by rw [decide_eq_true_eq]; exact hlt⟩)
        unfold byN
        exact List.mem_map.2 ⟨x, hx, rfl⟩
      refine ⟨?_, fun k hk => ?_, fun k hk => ?_⟩
      · have e : (byN f).map fdW = piecesL 44 f := by
          unfold byN
          rw [List.map_map]
          conv => rhs; rw [← List.map_id (piecesL 44 f)]
          apply List.map_congr_left
          intro x hx
          exact idxW_get (hall x hx)
        rw [e]
        exact join_pieces 44 f
      · have hm : (byN f).getD k 0 ∈ byN f := by rw [List.getD_eq_getElem?_getD, List.getElem?_eq_getElem hk]; exact List.getElem_mem hk
        unfold byN at hm
        obtain ⟨x, hx, he⟩ := List.mem_map.1 hm
        have h3 := hall x hx
        have h4 := idxW_bd fdL x
        have h5 : fdL.length = 5 := rfl
        unfold byN
        rw [← he]
        exact ⟨by omega, by omega⟩
      · cases hc : ((byN f).take k).contains ((byN f).getD k 0) with
        | false => rfl
        | true =>
          exfalso
          refine h2 ?_
          unfold dupB
          exact List.any_eq_true.2 ⟨k, List.mem_range.2 hk, hc⟩
end Go.Proofs.YtfnlddloalineaaGreatDoor
namespace Go.Proofs.YtfnlddloalineaaGreatDoor
open Go.Lib (decDigits)
set_option linter.unusedVariables false
theorem trim45 (s : Wd) : (sgnD s = s ∧ (s.head? ≠ some 45)) ∨ (∃ d, s = 45 :: d ∧ sgnD s = d) := by
  cases s with
  | nil => exact .inl ⟨rfl, by simp⟩
  | cons c d =>
    by_cases hc : c = 45
    · subst hc
      exact .inr ⟨d, rfl, sgnD_minus d⟩
    · have h : (c :: d).head? ≠ some 45 := by simpa using hc
      exact .inl ⟨sgnD_no h, h⟩
theorem dig_ge {l : Wd} (hn : l ≠ []) (ha : l.all isDig = true) (h0 : l.getD 0 0 ≠ 48) : 49 ≤ (l.getD 0 0).toNat := by
  cases l with
  | nil => exact absurd rfl hn
  | cons b r =>
    rw [List.all_cons, Bool.and_eq_true] at ha
    have h1 := isDig_iff.1 ha.1
    have h2 : b ≠ 48 := h0
    have h3 : b.toNat ≠ 48 := fun e => h2 (UInt8.toNat_inj.1 e)
    show 49 ≤ b.toNat
    omega
theorem int_inv {s : Wd} {n : Int} (h : intR s = (n, 0)) : Lib.itoa n = s ∧ -1000000000000 ≤ n ∧ n ≤ 1000000000000 := by
  unfold intR at h
  split at h
  · rename_i hf
    rw [intN_eq hf] at h
    by_cases hr : -1000000000000 ≤ rintN s ∧ rintN s ≤ 1000000000000
    · rw [if_pos hr] at h
      simp only [Prod.mk.injEq] at h
      obtain ⟨rfl, _⟩ := h
      refine ⟨?_, hr⟩
      obtain ⟨p1, p2, p3⟩ := intF_parts hf
      have hnum : isNum (sgnD s) = true := by
        unfold isNum
        rw [p2]
        cases hh : sgnD s with
        | nil => exact absurd hh p1
        | cons a b => rfl
      have hcan : decDigits (decVal (sgnD s)) = sgnD s := by
        refine dec_canon _ hnum ?_
        rcases p3 with h1 | h1
        · refine .inl ?_
          rw [h1]; rfl
        · exact .inr (dig_ge p1 p2 h1)
      rcases trim45 s with ⟨he, _⟩ | ⟨d, rfl, he⟩
      · unfold rintN
        rw [if_pos (by rw [he]; simp), Lib.itoa_nonneg, hcan, he]
      · have hne : (sgnD (45 :: d) == 45 :: d) = false := by
          rw [he, beq_eq_false_iff_ne]
          intro e
          have := congrArg List.length e
          simp at this
        unfold rintN
        rw [if_neg (by rw [hne]; decide)]
        rw [he] at p1 p2 p3 hcan ⊢
        have hpos : 1 ≤ decVal d := by
          rcases p3 with h1 | h1
          · simp at h1
          · have h2 := dig_ge p1 p2 h1
            cases d with
            | nil => exact absurd rfl p1
            | cons b r =>
              have := decVal_ge (l := r) (show 49 ≤ b.toNat from h2)
              have := Nat.one_le_two_pow (n := r.length)
              have : 1 ≤ 10 ^ r.length := Nat.one_le_pow _ _ (by omega)
              omega
        rw [Lib.itoa_neg _ hpos, hcan]
    · rw [if_neg hr] at h
      simp at h
  · simp at h
theorem twoL_dig {a b : UInt8} (ha : isDig a = true) (hb : isDig b = true) {k : Int} (hk : k = (((a.toNat - 48) * 10 + (b.toNat - 48) : Nat) : Int)) : twoL k = [a, b] := by
  have h1 := isDig_iff.1 ha
  have h2 := isDig_iff.1 hb
  subst hk
  unfold twoL
  have e1 : (48 + (((a.toNat - 48) * 10 + (b.toNat - 48) : Nat) : Int) / 10).toNat = a.toNat := by omega
  have e2 : (48 + (((a.toNat - 48) * 10 + (b.toNat - 48) : Nat) : Int) % 10).toNat = b.toNat := by omega
  rw [e1, e2]
  simp
theorem date_inv {s : Wd} {n : Int} (h : datP s = (n, 0)) : datT n = s ∧ dateB n = true := by
  unfold datP at h
  split at h
  · rename_i hf
    split at h
    · rename_i hd
      simp only [Prod.mk.injEq] at h
      obtain ⟨rfl, _⟩ := h
      have hbd := dayN_bd hd
      refine ⟨?_, by unfold dateB; rw [Bool.and_eq_true, decide_eq_true_eq, decide_eq_true_eq]; exact hbd⟩
      rw [datT_of hd]
      rw [Bool.and_eq_true] at hf
      obtain ⟨hf, hg⟩ := hf
      unfold datF at hf
      rw [Bool.and_eq_true, Bool.and_eq_true, decide_eq_true_eq, beq_iff_eq, beq_iff_eq] at hf
      obtain ⟨hl, h4, h7⟩ := hf
      obtain ⟨a, b, c, d, x, e, f, y, g, i, rfl⟩ : ∃ a b c d x e f y g i, s = [a, b, c, d, x, e, f, y, g, i] := by
        match s, hl with
        | [a, b, c, d, x, e, f, y, g, i], _ => exact ⟨a, b, c, d, x, e, f, y, g, i, rfl⟩
      have h4 : x = 45 := h4
      have h7 : y = 45 := h7
      subst h4 h7
      unfold datD at hg
      simp only [List.take_succ_cons, List.take_zero, List.drop_succ_cons, List.drop_zero, List.all_cons, List.all_nil, Bool.and_true, Bool.and_eq_true] at hg
      obtain ⟨⟨ga, gb, gc, gd⟩, ⟨ge, gf⟩, gg, gi⟩ := hg
      have da := isDig_iff.1 ga
      have db := isDig_iff.1 gb
      have dc := isDig_iff.1 gc
      have dd := isDig_iff.1 gd
      unfold ymdT
      simp only [List.take_succ_cons, List.take_zero, List.drop_succ_cons, List.drop_zero, decVal, List.foldl_cons, List.foldl_nil, Nat.zero_mul, Nat.zero_add]
      rw [twoL_dig ga gb (by omega), twoL_dig gc gd (by omega), twoL_dig ge gf rfl, twoL_dig gg gi rfl]
      rfl
    · simp at h
  · simp at h
end Go.Proofs.YtfnlddloalineaaGreatDoor
namespace Go.Proofs.YtfnlddloalineaaGreatDoor
set_option linter.unusedVariables false
def cV (c : SCond) : List Wd := [fdW c.f, opL.getD c.o.toNat [], valT c]
theorem cW_cV (j : Wd) (c : SCond) : cW j c = j :: cV c := rfl
theorem cndR_inv {ws r : List Wd} {c : SCond} (h : cndR ws = .ok (c, r)) : okCnd c ∧ ws = cV c ++ r := by
  cases ws with
  | nil => cases h
  | cons x ws =>
    rw [cndR.eq_def] at h
    simp only [] at h
    by_cases hx : idxW fdL x < 0
    · rw [if_pos hx] at h; cases h
    · rw [if_neg hx] at h
      cases ws with
      | nil => cases h
      | cons o vs =>
        simp only [] at h
        by_cases ho : idxW (opL.take (opN (idxW fdL x))) o < 0
        · rw [if_pos ho] at h; cases h
        · rw [if_neg ho] at h
          cases vs with
          | nil => cases h
          | cons v r' =>
            simp only [] at h
            by_cases hv : (valO (idxW fdL x) v).2 = 0
            · rw [if_pos hv] at h
              injection h with h
              injection h with h1 h2
              subst h1 h2
              have hf := idxW_bd fdL x
              have hf5 : fdL.length = 5 := rfl
              have hot := idxW_take opL (opN (idxW fdL x)) o
              have hb := idxW_bd opL o
              have hop6 : opL.length = 6 := rfl
              by_cases hc : 0 ≤ idxW opL o ∧ idxW opL o < opN (idxW fdL x)
              · rw [if_pos hc] at hot
                rw [hot] at ho ⊢
                have hpair : valO (idxW fdL x) v = ((valO (idxW fdL x) v).1, 0) := by rw [← hv]
                have hfd : fdW (idxW fdL x) = x := idxW_get hx
                have hod : opL.getD (idxW opL o).toNat [] = o := idxW_get ho
                have key : okCnd ⟨idxW fdL x, idxW opL o, (valO (idxW fdL x) v).1⟩ ∧ valT ⟨idxW fdL x, idxW opL o, (valO (idxW fdL x) v).1⟩ = v := by
                  generalize (valO (idxW fdL x) v).1 = n at *
                  have hon := hc.2
                  generalize idxW fdL x = f at *
                  generalize idxW opL o = k at *
                  unfold valO at hpair
                  unfold opN at hon
                  unfold okCnd valT
                  simp only []
                  by_cases h3 : f = 3
                  · rw [if_pos h3] at hpair hon ⊢
                    unfold kndP at hpair
                    by_cases hk : idxW kdL v < 0
                    · rw [if_pos hk] at hpair; simp at hpair
                    · rw [if_neg hk] at hpair
                      simp only [Prod.mk.injEq, and_true] at hpair
                      have hkb := idxW_bd kdL v
                      have hk11 : kdL.length = 11 := rfl
                      subst hpair
                      exact ⟨⟨by omega, by omega, by omega, by omega, fun _ => ⟨by omega, by omega, by omega⟩, fun h => by omega, fun h => absurd h3 h⟩, idxW_get hk⟩
                  · rw [if_neg h3] at hpair hon ⊢
                    by_cases h4 : f = 4
                    · rw [if_pos h4] at hpair ⊢
                      obtain ⟨d1, d2⟩ := date_inv hpair
                      exact ⟨⟨by omega, by omega, by omega, by omega, fun h => absurd h h3, fun _ => d2, fun _ h => absurd h4 h⟩, d1⟩
                    · rw [if_neg h4] at hpair ⊢
                      obtain ⟨d1, d2⟩ := int_inv hpair
                      exact ⟨⟨by omega, by omega, by omega, by omega, fun h => absurd h h3, fun h => absurd h h4, fun _ _ => d2⟩, d1⟩
                refine ⟨key.1, ?_⟩
                unfold cV
                rw [key.2]
                simp only []
                rw [hfd, hod]
                rfl
              · rw [if_neg hc] at hot
                rw [hot] at ho
                exact absurd (by decide) ho
            · rw [if_neg hv] at h; cases h
theorem whR_inv : ∀ {n : Nat} {acc : List SCond} {ws : List Wd} {cs : List SCond}, whR n acc ws = .ok cs → ∃ c l, cs = acc ++ c :: l ∧ ws = cV c ++ l.flatMap (cW andW) ∧ ∀ x, x ∈ c :: l → okCnd x := by
  intro n
  induction n with
  | zero =>
    intro acc ws cs h
    unfold whR at h
    split at h <;> cases h
  | succ n ih =>
    intro acc ws cs h
    rcases hc : cndR ws with p | ⟨c, r⟩
    · rw [whR_err hc (.inl (by omega))] at h; cases h
    · obtain ⟨hok, hws⟩ := cndR_inv hc
      cases r with
      | nil =>
        rw [whR_end hc] at h
        cases h
        exact ⟨c, [], rfl, hws, fun x hx => by simp at hx; subst hx; exact hok⟩
      | cons y r =>
        by_cases hy : y = andW
        · subst hy
          rw [whR_and hc] at h
          obtain ⟨c', l, h1, h2, h3⟩ := ih h
          refine ⟨c, c' :: l, by rw [h1]; simp, ?_, fun x hx => ?_⟩
          · rw [hws, h2, List.flatMap_cons, cW_cV]; simp
          · rcases List.mem_cons.1 hx with rfl | hx
            · exact hok
            · exact h3 x hx
        · rw [whR_bad hc hy] at h; cases h
theorem tailR_inv {verb : Int} {byl : List Int} {ws : List Wd} {q : SQry} (h : tailR verb byl ws = .ok q) : q.verb = verb ∧ q.by_ = byl ∧ ws = whP q.wh ∧ ∀ x, x ∈ q.wh → okCnd x := by
  cases ws with
  | nil => cases h; exact ⟨rfl, rfl, rfl, by simp⟩
  | cons x r =>
    by_cases hx : x = whereW
    · subst hx
      rw [tailR_where] at h
      cases hw : whR 20 [] r with
      | error p => rw [hw] at h; cases h
      | ok cs =>
        rw [hw] at h
        cases h
        obtain ⟨c, l, h1, h2, h3⟩ := whR_inv hw
        simp only [List.nil_append] at h1
        subst h1
        refine ⟨rfl, rfl, ?_, h3⟩
        show whereW :: r = cW whereW c ++ l.flatMap (cW andW)
        rw [cW_cV, h2]; rfl
    · rw [tailR_bad hx] at h; cases h
theorem qryR_inv {ws : List Wd} {q : SQry} (h : qryR ws = .ok q) : OkQ q ∧ ws = hdP q ++ whP q.wh := by
  have hlen := qryR_len h
  cases ws with
  | nil => cases h
  | cons v ws =>
    by_cases hv : idxW vbL v < 0
    · rw [qryR_verb hv] at h; cases h
    · have hvb := idxW_bd vbL v
      have h2 : vbL.length = 2 := rfl
      have hvd : vbL.getD (idxW vbL v).toNat [] = v := idxW_get hv
      have go : ∀ {byl : List Int} {r : List Wd}, tailR (idxW vbL v) byl r = .ok q → (∀ k, k < byl.length → 0 ≤ byl.getD k 0 ∧ byl.getD k 0 ≤ 4) → (∀ k, k < byl.length → (byl.take k).contains (byl.getD k 0) = false) → OkQ q ∧ v :: (byP byl ++ r) = hdP q ++ whP q.wh := by
        intro byl r ht hb1 hb2
        obtain ⟨e1, e2, e3, e4⟩ := tailR_inv ht
        refine ⟨⟨by rw [e1]; omega, by rw [e1]; omega, hlen, by rw [e2]; exact hb1, by rw [e2]; exact hb2, e4⟩, ?_⟩
        unfold hdP
        rw [e1, e2, hvd, e3]; rfl
      cases ws with
      | nil =>
        rw [qryR_one hv] at h
        exact go h (by simp) (by simp)
      | cons b ws =>
        by_cases hb : b = byW
        · subst hb
          cases ws with
          | nil => rw [qryR_by0 hv] at h; cases h
          | cons f ws =>
            rw [qryR_by hv] at h
            cases hf : byR f with
            | error e => rw [hf] at h; cases h
            | ok l =>
              rw [hf] at h
              obtain ⟨j1, j2, j3⟩ := byR_ok hf
              have hne : l ≠ [] := by
                intro e
                unfold byR at hf
                split at hf
                · cases hf
                · split at hf
                  · cases hf
                  · cases hf
                    unfold byN at e
                    exact piecesL_ne 44 f (List.map_eq_nil_iff.1 e)
              have := go h j2 j3
              rwa [show byP l = [byW, f] by unfold byP; rw [if_neg hne, j1]] at this
        · rw [qryR_plain hv hb] at h
          exact go h (by simp) (by simp)
/-- a text that is read is the text of the result -/
theorem text_inv {s : Wd} {q : SQry} (h : qryR (piecesL 32 s) = .ok q) : OkQ q ∧ prT q = s := by
  obtain ⟨h1, h2⟩ := qryR_inv h
  refine ⟨h1, ?_⟩
  unfold prT
  rw [← h2]
  exact join_pieces 32 s
end Go.Proofs.YtfnlddloalineaaGreatDoor
namespace Go.Proofs.YtfnlddloalineaaGreatDoor
open Go.RowKit
set_option linter.unusedVariables false
set_option maxRecDepth 100000
theorem joinTail_mem (sep : Wd) : ∀ (r : List Wd) (x : Wd), x ∈ r → x.length ≤ (Lib.joinTail sep r).length := by
  intro r
  induction r with
  | nil => intro x h; simp at h
  | cons y r ih =>
    intro x h
    rw [joinTail_cons, List.length_append, List.length_append]
    rcases List.mem_cons.1 h with rfl | h
    · omega
    · have := ih x h; omega
theorem join_mem (sep : Wd) (xs : List Wd) (x : Wd) (h : x ∈ xs) : x.length ≤ (Lib.join xs sep).length := by
  cases xs with
  | nil => simp at h
  | cons y r =>
    rw [Lib.join_cons, List.length_append]
    rcases List.mem_cons.1 h with rfl | h
    · omega
    · have := joinTail_mem sep r x h; omega
theorem joinTail_len (c : UInt8) : ∀ (r : List Wd), r.length ≤ (Lib.joinTail [c] r).length := by
  intro r
  induction r with
  | nil => simp
  | cons y r ih =>
    rw [joinTail_cons, List.length_append, List.length_append]
    simp only [List.length_cons, List.length_nil]
    omega
theorem join_len (c : UInt8) (xs : List Wd) : xs.length ≤ (Lib.join xs [c]).length + 1 := by
  cases xs with
  | nil => simp
  | cons y r =>
    rw [Lib.join_cons, List.length_append]
    have := joinTail_len c r
    simp only [List.length_cons]
    omega
theorem prT_by (q : SQry) : (Lib.join (q.by_.map fdW) [44]).length ≤ (prT q).length ∧ q.by_.length ≤ (prT q).length + 1 := by
  have h1 : (Lib.join (q.by_.map fdW) [44]).length ≤ (prT q).length := by
    by_cases hb : q.by_ = []
    · rw [hb]; exact Nat.zero_le _
    · refine join_mem [32] _ _ ?_
      refine List.mem_append_left _ ?_
      unfold hdP byP
      rw [if_neg hb]
      simp
  have h2 := join_len 44 (q.by_.map fdW)
  rw [List.length_map] at h2
  exact ⟨h1, by omega⟩
theorem Reads.zeroQ (w : World) (B : Nat) (A : Option Addr) : Reads w B 3 A 0 (cndC []) := ⟨rfl, fun h => absurd h (by omega)⟩
theorem RdBy.zero (w : World) (B : Nat) (A : Option Addr) : RdBy w B A [] := fun h => absurd h (by simp)
set_option maxHeartbeats 8000000 in
theorem lawText (s0 : ByteArray) (w : World) (hE : Env w) (hEE : EnvE w) (hs : s0.size ≤ 9223372036854775807) : Calls Tryz.prog 5 #[.string s0] w fun e w' => e = .returned (.bool true) ∧ Below w.heap.size w w' := by
  obtain ⟨l, rfl⟩ : ∃ l : List UInt8, s0 = ⟨l.toArray⟩ := ⟨s0.data.toList, rfl⟩
  have HEB : Hid (∀ w_, Below w.heap.size w w_ → Env w_) := fun w_ h => hE.after h
  have HEEB : Hid (∀ w_, Below w.heap.size w w_ → EnvE w_) := fun w_ h => hEE.below h hE.size
  by_cases hl : l.length ≤ 600
  · have hln : decide ((600 : Int) < (l.length : Int)) = false := by rw [decide_eq_false_iff_not]; omega
    have HL := Lib.hid hl
    cases hq : qryR (piecesL 32 l) with
    | error p =>
      obtain ⟨r, E⟩ := p
      have hE0 : (E != 0) = true := by have := (qryR_suf hq).2; simpa using this
      have HP : Hid (∀ w, Env w → EnvE w → Calls Tryz.prog 12 #[.string ⟨l.toArray⟩] w fun e w' => e = .returned (.tuple #[.agg #[.int .i64 0, .slice none 0 0, .slice none 0 0], .int .i64 (plcR (piecesL 32 l) r l.length : Int), .int .i64 E]) ∧ Below w.heap.size w w') := fun w h1 h2 => (parse_any l w h1 h2 (by omega)).mono fun e w' h => by unfold ParSays at h; rw [hq] at h; exact h
      generalize plcR (piecesL 32 l) r l.length = PL at *
      clear hq
      go_enter Tryz.func5, Tryz.ntmps5
      go_wp2_with fail
      refine (awake_true _ hE hEE).mono ?_
      rintro e w1 ⟨rfl, hb⟩
      have HB1 := Lib.hid hb
      clear hb hE hEE
      go_wp2_with fail
      refine (HP.out _ (HEB.out _ HB1.out) (HEEB.out _ HB1.out)).mono ?_
      rintro e w2 ⟨rfl, hb⟩
      have HB2 := Lib.hid (below_two HB1.out hb)
      have HB3 := Lib.hid (HB2.out.alloc HB2.out.size (.cells (#[.int .i64 0, .slice none 0 0, .slice none 0 0] : Array Value) 26))
      have HFR := Lib.hid (from_any 0 [] none none 0 0 0 0 0 (w2.alloc (.cells (#[.int .i64 0, .slice none 0 0, .slice none 0 0] : Array Value) 26)) (Reads.zeroQ _ _ _) (Nat.zero_le _) (by omega))
      clear hb
      go_wp2_with fail
      refine HFR.out.mono ?_
      rintro e w4 ⟨A', c', rfl, ho, hb⟩
      have HB4 := Lib.hid (below_two HB3.out hb)
      have HSM := Lib.hid (same_yes 0 [] [] none A' none none 0 0 0 c' 0 0 0 w4 (Nat.zero_le _) (RdBy.zero _ _ _) (RdBy.zero _ _ _) (Reads.zeroQ _ _ _) (Reads.zeroQ _ _ _) rfl (by omega) (by omega))
      clear hb ho
      go_wp2_with fail
      refine HSM.out.mono ?_
      rintro e w5 ⟨rfl, hb⟩
      have HB5 := Lib.hid (below_two HB4.out hb)
      clear hb
      go_wp2_with fail
      go_ret
      exact ⟨rfl, HB5.out⟩
    | ok q =>
      obtain ⟨hok, ht⟩ := text_inv hq
      obtain ⟨hj1, hj2⟩ := prT_by q
      rw [ht] at hj1 hj2
      have HP : Hid (∀ w, Env w → EnvE w → Calls Tryz.prog 12 #[.string ⟨l.toArray⟩] w fun e w' => ∃ vb vw, e = .returned (.tuple #[.agg #[.int .i64 q.verb, vb, vw], .int .i64 0, .int .i64 0]) ∧ w'.ownsRow w.heap.size 3 1 vb q.by_.length (q.by_.map intV) ∧ w'.ownsRow w.heap.size 95 3 vw q.wh.length (cndC q.wh) ∧ Below w.heap.size w w') := fun w h1 h2 => (parse_any l w h1 h2 (by omega)).mono fun e w' h => by unfold ParSays at h; rw [hq] at h; exact h
      have HPR : Hid (∀ (Ab Aw : Option Addr) (nb nw cb cw : Nat) (b : Nat) (w1 : World), nb = q.by_.length → nw = q.wh.length → Env w1 → w1.ownsRow b 3 1 (.slice Ab nb cb) nb (q.by_.map intV) → w1.ownsRow b 95 3 (.slice Aw nw cw) nw (cndC q.wh) → Calls Tryz.prog 17 #[.agg #[.int .i64 q.verb, .slice Ab nb cb, .slice Aw nw cw]] w1 fun e w' => e = .returned (.tuple #[.string ⟨l.toArray⟩, .int .i64 0]) ∧ Below w1.heap.size w1 w') := by
        intro Ab Aw nb nw cb cw b w1 e1 e2 h1 h2 h3
        subst e1 e2
        have h := print_yes q Ab Aw _ _ cb cw w1.heap.size w1 h1 hok (RdBy.of_own h2) rfl (own_capQ h2) (Reads.of_own h3) (Nat.le_refl _) (by omega) (by rw [ht]; omega) (by omega)
        rw [ht] at h
        exact h
      obtain ⟨nb, hnb⟩ : ∃ nb, q.by_.length = nb := ⟨_, rfl⟩
      obtain ⟨nw, hnw⟩ : ∃ nw, q.wh.length = nw := ⟨_, rfl⟩
      rw [hnb, hnw] at HP
      have HNB := Lib.hid hnb
      have HNW := Lib.hid hnw
      generalize q.verb = V at *
      generalize q.by_.map intV = LB at *
      generalize cndC q.wh = LW at *
      have q1 : (l == l) = true := by simp
      clear hok ht hj1 hj2 hq hnb hnw
      go_enter Tryz.func5, Tryz.ntmps5
      go_wp2_with fail
      refine (awake_true _ hE hEE).mono ?_
      rintro e w1 ⟨rfl, hb⟩
      have HB1 := Lib.hid hb
      clear hb hE hEE
      go_wp2_with fail
      refine (HP.out _ (HEB.out _ HB1.out) (HEEB.out _ HB1.out)).mono ?_
      rintro e w2 ⟨vb, vw, rfl, ho1, ho2, hb⟩
      obtain ⟨Ab, cb, rfl⟩ := own_slice ho1
      obtain ⟨Aw, cw, rfl⟩ := own_slice ho2
      have hb2 := below_two HB1.out hb
      have hb3 := hb2.alloc hb2.size (.cells (#[.int .i64 V, .slice Ab nb cb, .slice Aw nw cw] : Array Value) 26)
      have HB3 := Lib.hid hb3
      have HPX := Lib.hid (HPR.out Ab Aw nb nw cb cw w1.heap.size _ HNB.out.symm HNW.out.symm (HEB.out _ hb3) (ho1.alloc _) (ho2.alloc _))
      clear hb hb2 hb3 ho1 ho2
      go_wp2_with fail
      refine HPX.out.mono ?_
      rintro e w4 ⟨rfl, hb⟩
      have HB4 := Lib.hid (below_two HB3.out hb)
      clear hb
      go_wp2_with fail
      go_ret
      exact ⟨rfl, HB4.out⟩
  · have hln : decide ((600 : Int) < (l.length : Int)) = true := by rw [decide_eq_true_eq]; omega
    go_enter Tryz.func5, Tryz.ntmps5
    go_wp2_with fail
    refine (awake_true _ hE hEE).mono ?_
    rintro e w1 ⟨rfl, hb1⟩
    have HB1 := Lib.hid hb1
    clear hb1 hE hEE
    go_wp2_with fail
    refine (awake_true _ (HEB.out _ HB1.out) (HEEB.out _ HB1.out)).mono ?_
    rintro e w2 ⟨rfl, hb2⟩
    have HB2 := Lib.hid (below_two HB1.out hb2)
    clear hb2
    go_wp2_with fail
    go_ret
    exact ⟨rfl, HB2.out⟩
end Go.Proofs.YtfnlddloalineaaGreatDoor
