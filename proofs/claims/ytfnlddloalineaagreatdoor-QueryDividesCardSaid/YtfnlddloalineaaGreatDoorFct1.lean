/-
  query.Facts. (printed by wip/tools/gen_fct.py)
-/
import Derived.Test.YtfnlddloalineaaGreatDoorFctPl

namespace Go.Proofs.YtfnlddloalineaaGreatDoor
open Go.RowKit
set_option linter.unusedVariables false
set_option linter.unusedSimpArgs false
set_option maxRecDepth 100000
theorem six_one (a b c d e f : Int) : ∀ u ∈ ([.int .i64 a, .int .i64 b, .int .i64 c, .int .i64 d, .int .i64 e, .int .i64 f] : List Value), u.oneCell' = true := by
  intro u hu
  simp only [List.mem_cons, List.not_mem_nil, or_false] at hu
  rcases hu with rfl | rfl | rfl | rfl | rfl | rfl <;> rfl
/-- what stands while the facts are laid -/
structure FcS (w : World) (T : TypeId) (vi vp : Value) (l : List SFact) (v : Value) (x : World) : Prop where
  below : Below w.heap.size w x
  lt : w.heap.size < x.heap.size
  c1 : x.cell? ⟨w.heap.size, 1, none⟩ = some vi
  c2 : x.cell? ⟨w.heap.size, 2, none⟩ = some vp
  row : x.ownsRow (w.heap.size + 1) T 6 v l.length (fctsC l)
theorem FcS.same {w : World} {T : TypeId} {vi vp : Value} {l : List SFact} {v : Value} {x y : World} (h : FcS w T vi vp l v x) (hb : Below x.heap.size x y) : FcS w T vi vp l v y := by
  have h1 := h.lt
  have h2 := hb.size
  exact ⟨below_two h.below hb, by omega, (hb.cell (by simp only []; omega)).trans h.c1, (hb.cell (by simp only []; omega)).trans h.c2, own_below h.row hb⟩
theorem FcS.push {w : World} {T : TypeId} {vi vp : Value} {l : List SFact} {v v6 : Value} {x y w6 : World} {f : SFact} (h : FcS w T vi vp l v x) (hxy : Below x.heap.size x y) (hg : y.grownBy w6 v.ownBlock) (hown : w6.ownsRow (w.heap.size + 1) T 6 v6 (l.length + 1) (fctsC l ++ fctC f)) : FcS w T vi vp (l ++ [f]) v6 w6 := by
  have hy := h.same hxy
  have h1 := hy.lt
  have hb := own_base hy.row
  have hk : ∀ p : Addr, p.block < w.heap.size + 1 → w6.cell? p = y.cell? p := fun p hp => World.cell?_of_block (hg.block p.block (by omega) (fun e => by have := hb _ e.symm; omega))
  refine ⟨hy.below.grown hg (by omega) (fun r e => by have := hb _ e; omega), by have := hg.size; omega, (hk _ (by simp only []; omega)).trans hy.c1, (hk _ (by simp only []; omega)).trans hy.c2, ?_⟩
  rw [List.length_append, fctsC_app]
  exact hown
theorem poF_len {p : SPost} (h : p.parts.length ≤ 10) : (poF p).length ≤ 10 := by unfold poF; rw [List.length_map]; exact h
theorem pos_len : ∀ (l : List SPost), (∀ x, x ∈ l → x.parts.length ≤ 10) → (l.flatMap poF).length ≤ 10 * l.length := by
  intro l
  induction l with
  | nil => intro _; simp
  | cons p r ih =>
    intro h
    have h1 := poF_len (h p (by simp))
    have h2 := ih (fun x hx => h x (List.mem_cons_of_mem _ hx))
    rw [List.flatMap_cons, List.length_append, List.length_cons]
    omega
theorem facts_len {its : List SItem} {pos : List SPost} (h1 : its.length ≤ 200) (h2 : pos.length ≤ 60) (h3 : ∀ x, x ∈ pos → x.parts.length ≤ 10) : (factsL its pos).length ≤ 800 := by
  have := pos_len pos h3
  unfold factsL
  rw [List.length_append, List.length_map]
  omega
theorem info_qfct : (Tryz.prog.info? 56).map (fun i => (i.zero, i.size, i.bytes)) = some (some (.agg #[.int .i64 0, .int .i64 0, .int .i64 0, .int .i64 0, .int .i64 0, .int .i64 0]), 6, 48) := by kernel_rfl
set_option maxHeartbeats 16000000 in
theorem facts_any (per : Int) (its : List SItem) (pos : List SPost) (Ai Ap At : Option Addr) (ni ci np cp nt ct B : Nat) (w : World) (hi : Reads w B 7 Ai ni (its.flatMap itemC)) (hp : Reads w B 5 Ap np (pos.flatMap postC)) (hq : ∀ x, x ∈ pos → PostIn w B x) (hB : B ≤ w.heap.size) (hli : its.length = ni) (hlp : pos.length = np) (hs1 : ni ≤ 200) (hs2 : np ≤ 60) (hs3 : ∀ x, x ∈ pos → x.parts.length ≤ 10) :
    Calls Tryz.prog 22 #[.agg #[.int .i64 per, .slice Ai ni ci, .slice Ap np cp, .slice At nt ct]] w fun e w' => ∃ A c, e = .returned (.slice A (factsL its pos).length c) ∧ w'.ownsRow w.heap.size 56 6 (.slice A (factsL its pos).length c) (factsL its pos).length (fctsC (factsL its pos)) ∧ Below w.heap.size w w' := by
  obtain ⟨i0, hi0, hz0, hz1, hz2⟩ := info_parts info_qfct
  have h1 := (Below.refl w.heap.size w).alloc (Nat.le_refl _) (.cells (#[.int .i64 per, .slice Ai ni ci, .slice Ap np cp, .slice At nt ct] : Array Value) 43)
  have hk1 := Blk.new w 43 #[.int .i64 per, .slice Ai ni ci, .slice Ap np cp, .slice At nt ct]
  obtain ⟨wz, hwz⟩ : ∃ wz, w.alloc (.cells (#[.int .i64 per, .slice Ai ni ci, .slice Ap np cp, .slice At nt ct] : Array Value) 43) = wz := ⟨_, rfl⟩
  rw [hwz] at h1 hk1
  have HS0 : Hid (FcS w 56 (.slice Ai ni ci) (.slice Ap np cp) [] (.slice none 0 0) wz) := ⟨h1, hk1.lt, hk1.cell 1, hk1.cell 2, World.ownsRow_nil _ _ _ _⟩
  have c1 := HS0.out.c1
  have c2 := HS0.out.c2
  have hlt := HS0.out.lt
  have HI := Lib.hid hi
  have HP := Lib.hid hp
  have HQ := Lib.hid hq
  have HLI := Lib.hid hli
  have HLP := Lib.hid hlp
  have HS3 := Lib.hid hs3
  clear h1 hk1 hi hp hq hli hlp hs3
  go_enter Tryz.func22, Tryz.ntmps22
  go_wp2_with fail
  go_loopw [3, 13] (fun l i x => ∃ k : Nat, k ≤ ni ∧ i = .int .i64 k ∧ FcS w 56 (.slice Ai ni ci) (.slice Ap np cp) ((its.take k).map itF) l x) (fun l i _ => ni - (intOf i).toNat)
  case atStart => exact ⟨0, by omega, rfl, by simpa using HS0.out⟩
  case round =>
    clear c1 c2 hlt hwz
    obtain ⟨k, hk, rfl, hs⟩ := hrel
    obtain ⟨Al, cl, rfl⟩ := own_slice hs.row
    have HS := Lib.hid hs
    have c1 := hs.c1
    have c2 := hs.c2
    have hlt := hs.lt
    by_cases hlk : k < ni
    · have k3 : decide ((k : Int) < (ni : Int)) = true := by rw [decide_eq_true_eq]; omega
      have k4 : (k : Int) < (ni : Int) := by omega
      obtain ⟨ad, rfl, had, hkl, b0, bj⟩ := (HI.out.lowQ hB (Nat.le_refl _) hs.below).row_at itemC (fun _ => rfl) (by decide) hlk
      have b1 := bj 1 (by decide) (by decide)
      have b2 := bj 2 (by decide) (by decide)
      have b3 := bj 3 (by decide) (by decide)
      have b4 := bj 4 (by decide) (by decide)
      have b5 := bj 5 (by decide) (by decide)
      have b6 := bj 6 (by decide) (by decide)
      have hadl : ad.block < wr.heap.size := by omega
      have hll : ((its.take k).map itF).length ≤ 200 := by rw [List.length_map, List.length_take]; omega
      have HST : Hid ((its.take (k + 1)).map itF = (its.take k).map itF ++ [itF (its.getD k default)]) := factsL_items hkl
      clear hs bj
      generalize its.getD k default = it at *
      obtain ⟨re, rl, ent, acc, par, dat, amt⟩ := it
      replace b0 : wr.cell? (ad.add (k * 7)) = some (.int .i64 re) := b0
      replace b1 : wr.cell? ⟨(ad.add (k * 7)).block, (ad.add (k * 7)).off + 1, none⟩ = some (.int .i64 rl) := b1
      replace b2 : wr.cell? ⟨(ad.add (k * 7)).block, (ad.add (k * 7)).off + 2, none⟩ = some (.int .i64 ent) := b2
      replace b3 : wr.cell? ⟨(ad.add (k * 7)).block, (ad.add (k * 7)).off + 3, none⟩ = some (.int .i64 acc) := b3
      replace b4 : wr.cell? ⟨(ad.add (k * 7)).block, (ad.add (k * 7)).off + 4, none⟩ = some (.int .i64 par) := b4
      replace b5 : wr.cell? ⟨(ad.add (k * 7)).block, (ad.add (k * 7)).off + 5, none⟩ = some (.int .i64 dat) := b5
      replace b6 : wr.cell? ⟨(ad.add (k * 7)).block, (ad.add (k * 7)).off + 6, none⟩ = some (.int .i64 amt) := b6
      replace HST : Hid ((its.take (k + 1)).map itF = (its.take k).map itF ++ [⟨acc, ent, par, 0, dat, amt⟩]) := HST
      generalize (its.take k).map itF = L at *
      have HPU : Hid (∀ (v6 : Value) (w6 : World) (o1 o2 : Obj), ((wr.alloc o1).alloc o2).grownBy w6 (Value.slice Al L.length cl).ownBlock → w6.ownsRow (w.heap.size + 1) 56 6 v6 (L.length + 1) (fctsC L ++ [.int .i64 acc, .int .i64 ent, .int .i64 par, .int .i64 0, .int .i64 dat, .int .i64 amt]) → FcS w 56 (.slice (some ad) ni ci) (.slice Ap np cp) (L ++ [⟨acc, ent, par, 0, dat, amt⟩]) v6 w6) := fun v6 w6 o1 o2 hg ho => HS.out.push (((Below.refl _ _).alloc (Nat.le_refl _) o1).alloc (by rw [World.size_alloc]; omega) o2) hg ho
      have HRO : Hid (Reads ((wr.alloc (.cells (#[.int .i64 re, .int .i64 rl, .int .i64 ent, .int .i64 acc, .int .i64 par, .int .i64 dat, .int .i64 amt] : Array Value) 99)).alloc (.cells (#[.int .i64 acc, .int .i64 ent, .int .i64 par, .int .i64 0, .int .i64 dat, .int .i64 amt] : Array Value) 56)) (wr.heap.size + 1 + 1) 6 (some ⟨wr.heap.size + 1, 0, none⟩) 1 [.int .i64 acc, .int .i64 ent, .int .i64 par, .int .i64 0, .int .i64 dat, .int .i64 amt]) := by
        have := reads_one (wr.alloc (.cells (#[.int .i64 re, .int .i64 rl, .int .i64 ent, .int .i64 acc, .int .i64 par, .int .i64 dat, .int .i64 amt] : Array Value) 99)) #[.int .i64 acc, .int .i64 ent, .int .i64 par, .int .i64 0, .int .i64 dat, .int .i64 amt] 56 6 rfl
        rw [World.size_alloc] at this
        exact this
      go_wp2_with (at_builtin; refine wpList_append_any _ rfl (.tmp 17) (.tmp 29) _ rfl (w.heap.size + 1) 56 i0 _ 6 48 Tryz.underlying50 hi0 hz0 hz1 hz2 rfl (by omega) _ L.length (fctsC L) rfl ((HS.out.row.alloc _).alloc _) (wr.heap.size + 1 + 1) (some ⟨wr.heap.size + 1, 0, none⟩) 1 1 [.int .i64 acc, .int .i64 ent, .int .i64 par, .int .i64 0, .int .i64 dat, .int .i64 amt] rfl HRO.out (six_one _ _ _ _ _ _) (by simp only [maxLen]; omega) (by omega) (by simp only [World.size_alloc]; omega) ?_; intro v6 w6 hown6 hg6 hat6; have HF6 := Lib.hid (HPU.out _ _ _ _ hg6 hown6); clear hown6 hg6 hat6)
      go_roundw
      case rel => exact ⟨k + 1, by omega, by go_num, by rw [HST.out]; exact HF6.out⟩
      case measure => simp [intOf]; omega
    · have k3 : decide ((k : Int) < (ni : Int)) = false := by rw [decide_eq_false_iff_not]; omega
      have HLE : Hid ((its.take k).map itF = its.map itF) := by show _ = _; rw [List.take_of_length_le (by have := HLI.out; omega)]
      rw [HLE.out] at HS
      clear hs
      go_wp2_with fail
      go_loopw [3, 35] (fun l i x => ∃ k : Nat, k ≤ np ∧ i = .int .i64 k ∧ FcS w 56 (.slice Ai ni ci) (.slice Ap np cp) (its.map itF ++ (pos.take k).flatMap poF) l x) (fun l i _ => np - (intOf i).toNat)
      case atStart => exact ⟨0, by omega, rfl, by simpa [HLE.out] using HS.out⟩
      case round =>
        clear c1 c2 hlt HS
        obtain ⟨m, hm, rfl, hs⟩ := hrel
        obtain ⟨Al, cl, rfl⟩ := own_slice hs.row
        have HS := Lib.hid hs
        have c1 := hs.c1
        have c2 := hs.c2
        have hlt := hs.lt
        have hlb := hs.below
        by_cases hlm : m < np
        · have k5 : decide ((m : Int) < (np : Int)) = true := by rw [decide_eq_true_eq]; omega
          have k6 : (m : Int) < (np : Int) := by omega
          obtain ⟨ad, rfl, had, hml, b0, bj⟩ := (HP.out.lowQ hB (Nat.le_refl _) hlb).row_at postC (fun _ => rfl) (by decide) hlm
          have b1 := bj 1 (by decide) (by decide)
          have b2 := bj 2 (by decide) (by decide)
          have b3 := bj 3 (by decide) (by decide)
          have b4 := bj 4 (by decide) (by decide)
          have hadl : ad.block < wr.heap.size := by omega
          have hmem : pos.getD m default ∈ pos := by rw [List.getD_eq_getElem?_getD, List.getElem?_eq_getElem hml]; exact List.getElem_mem _
          have hpi := HQ.out _ hmem
          have hp10 := HS3.out _ hmem
          have hll : (its.map itF ++ (pos.take m).flatMap poF).length ≤ 800 := by
            have h1 := pos_len (pos.take m) (fun x hx => HS3.out x (List.mem_of_mem_take hx))
            rw [List.length_take] at h1
            have := HLI.out
            rw [List.length_append, List.length_map]; omega
          have HST : Hid (its.map itF ++ (pos.take (m + 1)).flatMap poF = its.map itF ++ (pos.take m).flatMap poF ++ poF (pos.getD m default)) := by show _ = _; rw [flatMap_take poF hml, List.append_assoc]
          clear hs bj hmem
          generalize pos.getD m default = po at *
          obtain ⟨kind, ent, oth, rule, A, n, c, parts⟩ := po
          replace b0 : wr.cell? (ad.add (m * 5)) = some (.int .i64 kind) := b0
          replace b1 : wr.cell? ⟨(ad.add (m * 5)).block, (ad.add (m * 5)).off + 1, none⟩ = some (.int .i64 ent) := b1
          replace b2 : wr.cell? ⟨(ad.add (m * 5)).block, (ad.add (m * 5)).off + 2, none⟩ = some (.int .i64 oth) := b2
          replace b3 : wr.cell? ⟨(ad.add (m * 5)).block, (ad.add (m * 5)).off + 3, none⟩ = some (.int .i64 rule) := b3
          replace b4 : wr.cell? ⟨(ad.add (m * 5)).block, (ad.add (m * 5)).off + 4, none⟩ = some (.slice A n c) := b4
          obtain ⟨hpr, hpl, _, hnc⟩ := hpi
          simp only [] at hpr hpl hnc hp10
          generalize its.map itF ++ (pos.take m).flatMap poF = L at *
          have HPR := Lib.hid hpr
          have HPL := Lib.hid hpl
          have hn10 : n ≤ 10 := by omega
          have hBW : B ≤ w.heap.size := hB
          obtain ⟨G, hG⟩ : ∃ G, wr.heap.size = G := ⟨_, rfl⟩
          have HPK := Blk.new wr 102 #[.int .i64 kind, .int .i64 ent, .int .i64 oth, .int .i64 rule, .slice A n c]
          have hs2 := HS.out.same ((Below.refl wr.heap.size wr).alloc (Nat.le_refl _) (.cells (#[.int .i64 kind, .int .i64 ent, .int .i64 oth, .int .i64 rule, .slice A n c] : Array Value) 102))
          rw [hG] at HPK
          have HS2 : Hid (FcS w 56 (.slice Ai ni ci) (.slice (some ad) np cp) (L ++ (parts.take 0).map (ptF ⟨kind, ent, oth, rule, A, n, c, parts⟩)) (.slice Al L.length cl) (wr.alloc (.cells (#[.int .i64 kind, .int .i64 ent, .int .i64 oth, .int .i64 rule, .slice A n c] : Array Value) 102)) ∧ Blk (wr.alloc (.cells (#[.int .i64 kind, .int .i64 ent, .int .i64 oth, .int .i64 rule, .slice A n c] : Array Value) 102)) G 102 #[.int .i64 kind, .int .i64 ent, .int .i64 oth, .int .i64 rule, .slice A n c]) := ⟨by simpa using hs2, HPK⟩
          clear hpr hpl hs2 HPK HS
          go_wp2_with fail
          go_loopw [3, 42] (fun l i x => ∃ j : Nat, j ≤ n ∧ i = .int .i64 j ∧ FcS w 56 (.slice Ai ni ci) (.slice (some ad) np cp) (L ++ (parts.take j).map (ptF ⟨kind, ent, oth, rule, A, n, c, parts⟩)) l x ∧ Blk x G 102 #[.int .i64 kind, .int .i64 ent, .int .i64 oth, .int .i64 rule, .slice A n c]) (fun l i _ => n - (intOf i).toNat)
          case atStart => exact ⟨0, by omega, rfl, HS2.out⟩
          case round =>
            clear HS2 b0 b1 b2 b3 b4 c1 c2 hlt hG hadl hlb
            obtain ⟨j, hj, rfl, hs, hkp⟩ := hrel
            obtain ⟨Al, cl, rfl⟩ := own_slice hs.row
            have HS := Lib.hid hs
            have HKP := Lib.hid hkp
            have c1 := hs.c1
            have c2 := hs.c2
            have hlt := hs.lt
            have hlb := hs.below
            have p0 := hkp.cell 0
            have p1 := hkp.cell 1
            have p2 := hkp.cell 2
            have p3 := hkp.cell 3
            have p4 := hkp.cell 4
            have hGl : G < wr.heap.size := hkp.lt
            clear hs hkp
            by_cases hlj : j < n
            · have k7 : decide ((j : Int) < (n : Int)) = true := by rw [decide_eq_true_eq]; omega
              have k8 : (j : Int) < (n : Int) := by omega
              obtain ⟨ap, rfl, hap, hjl, d0, dj⟩ := (HPR.out.lowQ hB (Nat.le_refl _) hlb).row_at partC (fun _ => rfl) (by decide) hlj
              have d1 := dj 1 (by decide) (by decide)
              have hapl : ap.block < wr.heap.size := by omega
              have hll2 : (L ++ (parts.take j).map (ptF ⟨kind, ent, oth, rule, some ap, n, c, parts⟩)).length ≤ 810 := by
                rw [List.length_append, List.length_map, List.length_take]; omega
              have HSU : Hid (L ++ (parts.take (j + 1)).map (ptF ⟨kind, ent, oth, rule, some ap, n, c, parts⟩) = L ++ (parts.take j).map (ptF ⟨kind, ent, oth, rule, some ap, n, c, parts⟩) ++ [ptF ⟨kind, ent, oth, rule, some ap, n, c, parts⟩ (parts.getD j default)]) := by
                show _ = _
                have := poF_take (p := ⟨kind, ent, oth, rule, some ap, n, c, parts⟩) hjl
                rw [this, List.append_assoc]
              clear dj
              generalize parts.getD j default = pt at *
              obtain ⟨acc, amt⟩ := pt
              replace d0 : wr.cell? (ap.add (j * 2)) = some (.int .i64 acc) := d0
              replace d1 : wr.cell? ⟨(ap.add (j * 2)).block, (ap.add (j * 2)).off + 1, none⟩ = some (.int .i64 amt) := d1
              replace HSU : Hid (L ++ (parts.take (j + 1)).map (ptF ⟨kind, ent, oth, rule, some ap, n, c, parts⟩) = L ++ (parts.take j).map (ptF ⟨kind, ent, oth, rule, some ap, n, c, parts⟩) ++ [⟨acc, ent, oth, kind, 0, amt⟩]) := HSU
              generalize L ++ (parts.take j).map (ptF ⟨kind, ent, oth, rule, some ap, n, c, parts⟩) = M at *
              have HPU : Hid (∀ (v6 : Value) (w6 y : World), Below wr.heap.size wr y → y.grownBy w6 (Value.slice Al M.length cl).ownBlock → w6.ownsRow (w.heap.size + 1) 56 6 v6 (M.length + 1) (fctsC M ++ [.int .i64 acc, .int .i64 ent, .int .i64 oth, .int .i64 kind, .int .i64 0, .int .i64 amt]) → FcS w 56 (.slice Ai ni ci) (.slice (some ad) np cp) (M ++ [⟨acc, ent, oth, kind, 0, amt⟩]) v6 w6 ∧ Blk w6 G 102 #[.int .i64 kind, .int .i64 ent, .int .i64 oth, .int .i64 rule, .slice (some ap) n c]) := fun v6 w6 y hy hg ho =>
                ⟨HS.out.push hy hg ho, (HKP.out.below hy HKP.out.lt).grown hg (fun e => own_blk_ne (own_below HS.out.row hy) (HKP.out.below hy HKP.out.lt) (by decide) e.symm)⟩
              have HRO : Hid (Reads ((wr.alloc (.cells (#[.int .i64 acc, .int .i64 amt] : Array Value) 104)).alloc (.cells (#[.int .i64 acc, .int .i64 ent, .int .i64 oth, .int .i64 kind, .int .i64 0, .int .i64 amt] : Array Value) 56)) (wr.heap.size + 1 + 1) 6 (some ⟨wr.heap.size + 1, 0, none⟩) 1 [.int .i64 acc, .int .i64 ent, .int .i64 oth, .int .i64 kind, .int .i64 0, .int .i64 amt]) := by
                have := reads_one (wr.alloc (.cells (#[.int .i64 acc, .int .i64 amt] : Array Value) 104)) #[.int .i64 acc, .int .i64 ent, .int .i64 oth, .int .i64 kind, .int .i64 0, .int .i64 amt] 56 6 rfl
                rw [World.size_alloc] at this
                exact this
              go_wp2_with (at_builtin; refine wpList_append_any _ rfl (.tmp 46) (.tmp 58) _ rfl (w.heap.size + 1) 56 i0 _ 6 48 Tryz.underlying50 hi0 hz0 hz1 hz2 rfl (by omega) _ M.length (fctsC M) rfl ((HS.out.row.alloc _).alloc _) (wr.heap.size + 1 + 1) (some ⟨wr.heap.size + 1, 0, none⟩) 1 1 [.int .i64 acc, .int .i64 ent, .int .i64 oth, .int .i64 kind, .int .i64 0, .int .i64 amt] rfl HRO.out (six_one _ _ _ _ _ _) (by simp only [maxLen]; omega) (by omega) (by simp only [World.size_alloc]; omega) ?_; intro v6 w6 hown6 hg6 hat6; have HF6 := Lib.hid (HPU.out _ _ _ (((Below.refl _ _).alloc (Nat.le_refl _) _).alloc (by rw [World.size_alloc]; omega) _) hg6 hown6); clear hown6 hg6 hat6)
              go_roundw
              case rel => exact ⟨j + 1, by omega, by go_num, by rw [HSU.out]; exact HF6.out⟩
              case measure => simp [intOf]; omega
            · have k7 : decide ((j : Int) < (n : Int)) = false := by rw [decide_eq_false_iff_not]; omega
              have HFE : Hid (L ++ (parts.take j).map (ptF ⟨kind, ent, oth, rule, A, n, c, parts⟩) = its.map itF ++ (pos.take (m + 1)).flatMap poF) := by
                show _ = _
                rw [HST.out, List.take_of_length_le (by have := HPL.out; omega)]
                rfl
              rw [HFE.out] at HS
              go_wp2_with fail
              go_roundw
              case rel => exact ⟨m + 1, by omega, by go_num, by rw [HFE.out]; exact HS.out⟩
              case measure => simp [intOf]; omega
        · have k5 : decide ((m : Int) < (np : Int)) = false := by rw [decide_eq_false_iff_not]; omega
          have HFE : Hid (its.map itF ++ (pos.take m).flatMap poF = factsL its pos) := by
            show _ = _
            rw [List.take_of_length_le (by have := HLP.out; omega)]
            rfl
          rw [HFE.out] at HS
          have HSB := Lib.hid HS.out.below
          have HSR := Lib.hid (own_low HS.out.row (show w.heap.size ≤ w.heap.size + 1 by omega))
          clear hs
          go_wp2_with fail
          go_ret
          exact ⟨Al, cl, by rw [← HFE.out]; rfl, HSR.out, HSB.out⟩
end Go.Proofs.YtfnlddloalineaaGreatDoor
