/-
  The reference's Facts. (printed by wip/tools/gen_fct.py)
-/
import Derived.Test.YtfnlddloalineaaGreatDoorFct1
import Derived.Deep.AppendLies
namespace Go.Proofs.YtfnlddloalineaaGreatDoor
open Go.RowKit
set_option linter.unusedVariables false
set_option linter.unusedSimpArgs false
set_option maxRecDepth 100000
theorem info_rfct : (Tryz.prog.info? 55).map (fun i => (i.zero, i.size, i.bytes)) = some (some (.agg #[.int .i64 0, .int .i64 0, .int .i64 0, .int .i64 0, .int .i64 0, .int .i64 0]), 6, 48) := by kernel_rfl
set_option maxHeartbeats 16000000 in
theorem rfacts_any (per : Int) (its : List SItem) (pos : List SPost) (Ai Ap At : Option Addr) (ni ci np cp nt ct B : Nat) (w : World) (hi : Reads w B 7 Ai ni (its.flatMap itemC)) (hp : Reads w B 5 Ap np (pos.flatMap postC)) (hq : ∀ x, x ∈ pos → PostIn w B x) (hB : B ≤ w.heap.size) (hli : its.length = ni) (hlp : pos.length = np) (hs1 : ni ≤ 200) (hs2 : np ≤ 60) (hs3 : ∀ x, x ∈ pos → x.parts.length ≤ 10) :
    Calls Tryz.prog 23 #[.agg #[.int .i64 per, .slice Ai ni ci, .slice Ap np cp, .slice At nt ct]] w fun e w' => ∃ A c, e = .returned (.slice A (factsL its pos).length c) ∧ w'.ownsRow w.heap.size 55 6 (.slice A (factsL its pos).length c) (factsL its pos).length (fctsC (factsL its pos)) ∧ Below w.heap.size w w' := by
  obtain ⟨i0, hi0, hz0, hz1, hz2⟩ := info_parts info_rfct
  have h1 := (Below.refl w.heap.size w).alloc (Nat.le_refl _) (.cells (#[.int .i64 per, .slice Ai ni ci, .slice Ap np cp, .slice At nt ct] : Array Value) 43)
  have hk1 := Blk.new w 43 #[.int .i64 per, .slice Ai ni ci, .slice Ap np cp, .slice At nt ct]
  obtain ⟨wz, hwz⟩ : ∃ wz, w.alloc (.cells (#[.int .i64 per, .slice Ai ni ci, .slice Ap np cp, .slice At nt ct] : Array Value) 43) = wz := ⟨_, rfl⟩
  rw [hwz] at h1 hk1
  have HS0 : Hid (FcS w 55 (.slice Ai ni ci) (.slice Ap np cp) [] (.slice none 0 0) wz) := ⟨h1, hk1.lt, hk1.cell 1, hk1.cell 2, World.ownsRow_nil _ _ _ _⟩
  have c1 := HS0.out.c1
  have c2 := HS0.out.c2
  have hlt := HS0.out.lt
  have HI := Lib.hid hi
  have HP := Lib.hid hp
  have HQ := Lib.hid hq
  have HLI := Lib.hid hli
  have HLP := Lib.hid hlp
  have HS3 := Lib.hid hs3
  clear h1 hk1 hi hp hq hli hlp hs3
  go_enter Tryz.func23, Tryz.ntmps23
  go_wp2_with fail
  go_loopw [3, 4] (fun l i x => ∃ k : Nat, k ≤ ni ∧ i = .int .i64 k ∧ FcS w 55 (.slice Ai ni ci) (.slice Ap np cp) ((its.take k).map itF) l x) (fun l i _ => ni - (intOf i).toNat)
  case atStart => exact ⟨0, by omega, rfl, by simpa using HS0.out⟩
  case round =>
    clear c1 c2 hlt hwz
    obtain ⟨k, hk, rfl, hs⟩ := hrel
    obtain ⟨Al, cl, rfl⟩ := own_slice hs.row
    have HS := Lib.hid hs
    have c1 := hs.c1
    have c2 := hs.c2
    have hlt := hs.lt
    by_cases hlk : k < ni
    · have k3 : decide ((k : Int) < (ni : Int)) = true := by rw [decide_eq_true_eq]; omega
      have k4 : (k : Int) < (ni : Int) := by omega
      obtain ⟨ad, rfl, had, hkl, b0, bj⟩ := (HI.out.lowQ hB (Nat.le_refl _) hs.below).row_at itemC (fun _ => rfl) (by decide) hlk
      have b1 := bj 1 (by decide) (by decide)
      have b2 := bj 2 (by decide) (by decide)
      have b3 := bj 3 (by decide) (by decide)
      have b4 := bj 4 (by decide) (by decide)
      have b5 := bj 5 (by decide) (by decide)
      have b6 := bj 6 (by decide) (by decide)
      have hadl : ad.block < wr.heap.size := by omega
      have hll : ((its.take k).map itF).length ≤ 200 := by rw [List.length_map, List.length_take]; omega
      have HST : Hid ((its.take (k + 1)).map itF = (its.take k).map itF ++ [itF (its.getD k default)]) := factsL_items hkl
      clear hs bj
      generalize its.getD k default = it at *
      obtain ⟨re, rl, ent, acc, par, dat, amt⟩ := it
      replace b0 : wr.cell? (ad.add (k * 7)) = some (.int .i64 re) := b0
      replace b1 : wr.cell? ⟨(ad.add (k * 7)).block, (ad.add (k * 7)).off + 1, none⟩ = some (.int .i64 rl) := b1
      replace b2 : wr.cell? ⟨(ad.add (k * 7)).block, (ad.add (k * 7)).off + 2, none⟩ = some (.int .i64 ent) := b2
      replace b3 : wr.cell? ⟨(ad.add (k * 7)).block, (ad.add (k * 7)).off + 3, none⟩ = some (.int .i64 acc) := b3
      replace b4 : wr.cell? ⟨(ad.add (k * 7)).block, (ad.add (k * 7)).off + 4, none⟩ = some (.int .i64 par) := b4
      replace b5 : wr.cell? ⟨(ad.add (k * 7)).block, (ad.add (k * 7)).off + 5, none⟩ = some (.int .i64 dat) := b5
      replace b6 : wr.cell? ⟨(ad.add (k * 7)).block, (ad.add (k * 7)).off + 6, none⟩ = some (.int .i64 amt) := b6
      replace HST : Hid ((its.take (k + 1)).map itF = (its.take k).map itF ++ [⟨acc, ent, par, 0, dat, amt⟩]) := HST
      generalize (its.take k).map itF = L at *
      have HPU : Hid (∀ (v6 : Value) (w6 : World) (o1 o2 : Obj), ((wr.alloc o1).alloc o2).grownBy w6 (Value.slice Al L.length cl).ownBlock → w6.ownsRow (w.heap.size + 1) 55 6 v6 (L.length + 1) (fctsC L ++ [.int .i64 acc, .int .i64 ent, .int .i64 par, .int .i64 0, .int .i64 dat, .int .i64 amt]) → FcS w 55 (.slice (some ad) ni ci) (.slice Ap np cp) (L ++ [⟨acc, ent, par, 0, dat, amt⟩]) v6 w6) := fun v6 w6 o1 o2 hg ho => HS.out.push (((Below.refl _ _).alloc (Nat.le_refl _) o1).alloc (by rw [World.size_alloc]; omega) o2) hg ho
      have HRO : Hid (Reads ((wr.alloc (.cells (#[.int .i64 re, .int .i64 rl, .int .i64 ent, .int .i64 acc, .int .i64 par, .int .i64 dat, .int .i64 amt] : Array Value) 99)).alloc (.cells (#[.int .i64 acc, .int .i64 ent, .int .i64 par, .int .i64 0, .int .i64 dat, .int .i64 amt] : Array Value) 55)) (wr.heap.size + 1 + 1) 6 (some ⟨wr.heap.size + 1, 0, none⟩) 1 [.int .i64 acc, .int .i64 ent, .int .i64 par, .int .i64 0, .int .i64 dat, .int .i64 amt]) := by
        have := reads_one (wr.alloc (.cells (#[.int .i64 re, .int .i64 rl, .int .i64 ent, .int .i64 acc, .int .i64 par, .int .i64 dat, .int .i64 amt] : Array Value) 99)) #[.int .i64 acc, .int .i64 ent, .int .i64 par, .int .i64 0, .int .i64 dat, .int .i64 amt] 55 6 rfl
        rw [World.size_alloc] at this
        exact this
      go_wp2_with (at_builtin; refine wpList_append_any _ rfl (.tmp 21) (.tmp 33) _ rfl (w.heap.size + 1) 55 i0 _ 6 48 Tryz.underlying52 hi0 hz0 hz1 hz2 rfl (by omega) _ L.length (fctsC L) rfl ((HS.out.row.alloc _).alloc _) (wr.heap.size + 1 + 1) (some ⟨wr.heap.size + 1, 0, none⟩) 1 1 [.int .i64 acc, .int .i64 ent, .int .i64 par, .int .i64 0, .int .i64 dat, .int .i64 amt] rfl HRO.out (six_one _ _ _ _ _ _) (by simp only [maxLen]; omega) (by omega) (by simp only [World.size_alloc]; omega) ?_; intro v6 w6 hown6 hg6 hat6; have HF6 := Lib.hid (HPU.out _ _ _ _ hg6 hown6); clear hown6 hg6 hat6)
      go_roundw
      case rel => exact ⟨k + 1, by omega, by go_num, by rw [HST.out]; exact HF6.out⟩
      case measure => simp [intOf]; omega
    · have k3 : decide ((k : Int) < (ni : Int)) = false := by rw [decide_eq_false_iff_not]; omega
      have HLE : Hid ((its.take k).map itF = its.map itF) := by show _ = _; rw [List.take_of_length_le (by have := HLI.out; omega)]
      rw [HLE.out] at HS
      clear hs
      go_wp2_with fail
      go_loopw [3, 6] (fun l i x => ∃ k : Nat, k ≤ np ∧ i = .int .i64 k ∧ FcS w 55 (.slice Ai ni ci) (.slice Ap np cp) (its.map itF ++ (pos.take k).flatMap poF) l x) (fun l i _ => np - (intOf i).toNat)
      case atStart => exact ⟨0, by omega, rfl, by simpa [HLE.out] using HS.out⟩
      case round =>
        clear c1 c2 hlt HS
        obtain ⟨m, hm, rfl, hs⟩ := hrel
        obtain ⟨Al, cl, rfl⟩ := own_slice hs.row
        have HS := Lib.hid hs
        have c1 := hs.c1
        have c2 := hs.c2
        have hlt := hs.lt
        have hlb := hs.below
        by_cases hlm : m < np
        · have k5 : decide ((m : Int) < (np : Int)) = true := by rw [decide_eq_true_eq]; omega
          have k6 : (m : Int) < (np : Int) := by omega
          obtain ⟨ad, rfl, had, hml, b0, bj⟩ := (HP.out.lowQ hB (Nat.le_refl _) hlb).row_at postC (fun _ => rfl) (by decide) hlm
          have b1 := bj 1 (by decide) (by decide)
          have b2 := bj 2 (by decide) (by decide)
          have b3 := bj 3 (by decide) (by decide)
          have b4 := bj 4 (by decide) (by decide)
          have hadl : ad.block < wr.heap.size := by omega
          have hmem : pos.getD m default ∈ pos := by rw [List.getD_eq_getElem?_getD, List.getElem?_eq_getElem hml]; exact List.getElem_mem _
          have hpi := HQ.out _ hmem
          have hp10 := HS3.out _ hmem
          have hll : (its.map itF ++ (pos.take m).flatMap poF).length ≤ 800 := by
            have h1 := pos_len (pos.take m) (fun x hx => HS3.out x (List.mem_of_mem_take hx))
            rw [List.length_take] at h1
            have := HLI.out
            rw [List.length_append, List.length_map]; omega
          have HST : Hid (its.map itF ++ (pos.take (m + 1)).flatMap poF = its.map itF ++ (pos.take m).flatMap poF ++ poF (pos.getD m default)) := by show _ = _; rw [flatMap_take poF hml, List.append_assoc]
          clear hs bj hmem
          generalize pos.getD m default = po at *
          obtain ⟨kind, ent, oth, rule, A, n, c, parts⟩ := po
          replace b0 : wr.cell? (ad.add (m * 5)) = some (.int .i64 kind) := b0
          replace b1 : wr.cell? ⟨(ad.add (m * 5)).block, (ad.add (m * 5)).off + 1, none⟩ = some (.int .i64 ent) := b1
          replace b2 : wr.cell? ⟨(ad.add (m * 5)).block, (ad.add (m * 5)).off + 2, none⟩ = some (.int .i64 oth) := b2
          replace b3 : wr.cell? ⟨(ad.add (m * 5)).block, (ad.add (m * 5)).off + 3, none⟩ = some (.int .i64 rule) := b3
          replace b4 : wr.cell? ⟨(ad.add (m * 5)).block, (ad.add (m * 5)).off + 4, none⟩ = some (.slice A n c) := b4
          obtain ⟨hpr, hpl, _, hnc⟩ := hpi
          simp only [] at hpr hpl hnc hp10
          generalize its.map itF ++ (pos.take m).flatMap poF = L at *
          have HPR := Lib.hid hpr
          have HPL := Lib.hid hpl
          have hn10 : n ≤ 10 := by omega
          have hBW : B ≤ w.heap.size := hB
          obtain ⟨G, hG⟩ : ∃ G, wr.heap.size = G := ⟨_, rfl⟩
          have HPK := Blk.new wr 102 #[.int .i64 kind, .int .i64 ent, .int .i64 oth, .int .i64 rule, .slice A n c]
          have hs2 := HS.out.same ((Below.refl wr.heap.size wr).alloc (Nat.le_refl _) (.cells (#[.int .i64 kind, .int .i64 ent, .int .i64 oth, .int .i64 rule, .slice A n c] : Array Value) 102))
          rw [hG] at HPK
          have HS2 : Hid (FcS w 55 (.slice Ai ni ci) (.slice (some ad) np cp) (L ++ (parts.take 0).map (ptF ⟨kind, ent, oth, rule, A, n, c, parts⟩)) (.slice Al L.length cl) (wr.alloc (.cells (#[.int .i64 kind, .int .i64 ent, .int .i64 oth, .int .i64 rule, .slice A n c] : Array Value) 102)) ∧ Blk (wr.alloc (.cells (#[.int .i64 kind, .int .i64 ent, .int .i64 oth, .int .i64 rule, .slice A n c] : Array Value) 102)) G 102 #[.int .i64 kind, .int .i64 ent, .int .i64 oth, .int .i64 rule, .slice A n c]) := ⟨by simpa using hs2, HPK⟩
          clear hpr hpl hs2 HPK HS
          go_wp2_with fail
          go_loopw [3, 8] (fun l i x => ∃ j : Nat, j ≤ n ∧ i = .int .i64 j ∧ FcS w 55 (.slice Ai ni ci) (.slice (some ad) np cp) (L ++ (parts.take j).map (ptF ⟨kind, ent, oth, rule, A, n, c, parts⟩)) l x ∧ Blk x G 102 #[.int .i64 kind, .int .i64 ent, .int .i64 oth, .int .i64 rule, .slice A n c]) (fun l i _ => n - (intOf i).toNat)
          case atStart => exact ⟨0, by omega, rfl, HS2.out⟩
          case round =>
            clear HS2 b0 b1 b2 b3 b4 c1 c2 hlt hG hadl hlb
            obtain ⟨j, hj, rfl, hs, hkp⟩ := hrel
            obtain ⟨Al, cl, rfl⟩ := own_slice hs.row
            have HS := Lib.hid hs
            have HKP := Lib.hid hkp
            have c1 := hs.c1
            have c2 := hs.c2
            have hlt := hs.lt
            have hlb := hs.below
            have p0 := hkp.cell 0
            have p1 := hkp.cell 1
            have p2 := hkp.cell 2
            have p3 := hkp.cell 3
            have p4 := hkp.cell 4
            have hGl : G < wr.heap.size := hkp.lt
            clear hs hkp
            by_cases hlj : j < n
            · have k7 : decide ((j : Int) < (n : Int)) = true := by rw [decide_eq_true_eq]; omega
              have k8 : (j : Int) < (n : Int) := by omega
              obtain ⟨ap, rfl, hap, hjl, d0, dj⟩ := (HPR.out.lowQ hB (Nat.le_refl _) hlb).row_at partC (fun _ => rfl) (by decide) hlj
              have d1 := dj 1 (by decide) (by decide)
              have hapl : ap.block < wr.heap.size := by omega
              have hll2 : (L ++ (parts.take j).map (ptF ⟨kind, ent, oth, rule, some ap, n, c, parts⟩)).length ≤ 810 := by
                rw [List.length_append, List.length_map, List.length_take]; omega
              have HSU : Hid (L ++ (parts.take (j + 1)).map (ptF ⟨kind, ent, oth, rule, some ap, n, c, parts⟩) = L ++ (parts.take j).map (ptF ⟨kind, ent, oth, rule, some ap, n, c, parts⟩) ++ [ptF ⟨kind, ent, oth, rule, some ap, n, c, parts⟩ (parts.getD j default)]) := by
                show _ = _
                have := poF_take (p := ⟨kind, ent, oth, rule, some ap, n, c, parts⟩) hjl
                rw [this, List.append_assoc]
              clear dj
              generalize parts.getD j default = pt at *
              obtain ⟨acc, amt⟩ := pt
              replace d0 : wr.cell? (ap.add (j * 2)) = some (.int .i64 acc) := d0
              replace d1 : wr.cell? ⟨(ap.add (j * 2)).block, (ap.add (j * 2)).off + 1, none⟩ = some (.int .i64 amt) := d1
              replace HSU : Hid (L ++ (parts.take (j + 1)).map (ptF ⟨kind, ent, oth, rule, some ap, n, c, parts⟩) = L ++ (parts.take j).map (ptF ⟨kind, ent, oth, rule, some ap, n, c, parts⟩) ++ [⟨acc, ent, oth, kind, 0, amt⟩]) := HSU
              generalize L ++ (parts.take j).map (ptF ⟨kind, ent, oth, rule, some ap, n, c, parts⟩) = M at *
              have HPU : Hid (∀ (v6 : Value) (w6 y : World), Below wr.heap.size wr y → y.grownBy w6 (Value.slice Al M.length cl).ownBlock → w6.ownsRow (w.heap.size + 1) 55 6 v6 (M.length + 1) (fctsC M ++ [.int .i64 acc, .int .i64 ent, .int .i64 oth, .int .i64 kind, .int .i64 0, .int .i64 amt]) → FcS w 55 (.slice Ai ni ci) (.slice (some ad) np cp) (M ++ [⟨acc, ent, oth, kind, 0, amt⟩]) v6 w6 ∧ Blk w6 G 102 #[.int .i64 kind, .int .i64 ent, .int .i64 oth, .int .i64 rule, .slice (some ap) n c]) := fun v6 w6 y hy hg ho =>
                ⟨HS.out.push hy hg ho, (HKP.out.below hy HKP.out.lt).grown hg (fun e => own_blk_ne (own_below HS.out.row hy) (HKP.out.below hy HKP.out.lt) (by decide) e.symm)⟩
              go_upto_region 14 with fail
              have HSS : Hid (∀ y : World, Below wr.heap.size wr y → (fun w' : World => wr.heap.size ≤ w'.heap.size ∧ w'.cell? ⟨G, 0, none⟩ = some (.int .i64 kind) ∧ w'.cell? ⟨G, 1, none⟩ = some (.int .i64 ent) ∧ w'.cell? ⟨G, 2, none⟩ = some (.int .i64 oth) ∧ w'.cell? ⟨G, 4, none⟩ = some (.slice (some ap) n c) ∧ w'.cell? (ap.add (j * 2)) = some (.int .i64 acc) ∧ w'.cell? ⟨(ap.add (j * 2)).block, (ap.add (j * 2)).off + 1, none⟩ = some (.int .i64 amt)) y) := fun y hb => ⟨hb.size, (hb.cell hGl).trans p0, (hb.cell hGl).trans p1, (hb.cell hGl).trans p2, (hb.cell hGl).trans p4, (hb.cell (by rw [block_of_add]; exact hapl)).trans d0, (hb.cell (by simp only [block_of_add]; exact hapl)).trans d1⟩
              have HSW : Hid (∀ (w6 : World) (v6 : Value), (wr.drew.alloc (.cells (#[.int .i64 acc, .int .i64 ent, .int .i64 oth, .int .i64 kind, .int .i64 0, .int .i64 amt] : Array Value) 55)).grownBy w6 (Value.slice Al M.length cl).ownBlock → w6.ownsRow (w.heap.size + 1) 55 6 v6 (M.length + 1) (fctsC M ++ [.int .i64 acc, .int .i64 ent, .int .i64 oth, .int .i64 kind, .int .i64 0, .int .i64 amt]) → (fun w' : World => wr.heap.size ≤ w'.heap.size ∧ w'.cell? ⟨G, 0, none⟩ = some (.int .i64 kind) ∧ w'.cell? ⟨G, 1, none⟩ = some (.int .i64 ent) ∧ w'.cell? ⟨G, 2, none⟩ = some (.int .i64 oth) ∧ w'.cell? ⟨G, 4, none⟩ = some (.slice (some ap) n c) ∧ w'.cell? (ap.add (j * 2)) = some (.int .i64 acc) ∧ w'.cell? ⟨(ap.add (j * 2)).block, (ap.add (j * 2)).off + 1, none⟩ = some (.int .i64 amt)) w6) := fun w6 v6 hg ho => by
                have hbk := (HPU.out v6 w6 _ ((Below.refl wr.heap.size wr).drew.alloc (by simp only [World.size_drew]; omega) (.cells (#[.int .i64 acc, .int .i64 ent, .int .i64 oth, .int .i64 kind, .int .i64 0, .int .i64 amt] : Array Value) 55)) hg ho)
                have hlow := hbk.1.below
                refine ⟨by have := hg.size; simp only [World.size_alloc, World.size_drew] at this; omega, hbk.2.cell 0, hbk.2.cell 1, hbk.2.cell 2, hbk.2.cell 4, ?_, ?_⟩
                · exact ((hlow.cell (by rw [block_of_add]; omega)).trans (hlb.cell (by rw [block_of_add]; omega)).symm).trans d0
                · exact ((hlow.cell (by simp only [block_of_add]; omega)).trans (hlb.cell (by simp only [block_of_add]; omega)).symm).trans d1
              refine wp_region_held_drew (S := fun w' => wr.heap.size ≤ w'.heap.size ∧ w'.cell? ⟨G, 0, none⟩ = some (.int .i64 kind) ∧ w'.cell? ⟨G, 1, none⟩ = some (.int .i64 ent) ∧ w'.cell? ⟨G, 2, none⟩ = some (.int .i64 oth) ∧ w'.cell? ⟨G, 4, none⟩ = some (.slice (some ap) n c) ∧ w'.cell? (ap.add (j * 2)) = some (.int .i64 acc) ∧ w'.cell? ⟨(ap.add (j * 2)).block, (ap.add (j * 2)).off + 1, none⟩ = some (.int .i64 amt)) (by kernel_rfl) (HSS.out _ (Below.refl _ _).drew) (fun hHeld => ?_)
              refine wpAnyH_take (i := 0) (v := ?vp0) rfl (by kernel_rfl) (by kernel_rfl) (by kernel_rfl) (fun _ _ _ h => h) (Or.inl ⟨by rfl, ?hyp0⟩) (by assumption) ?restp0
              case hyp0 => (intro w_ hSw; (try dsimp only at hSw); obtain ⟨s_, d0_, d1_, d2_, d4_, d5_, d6_⟩ := hSw; go_simp; (try with_reducible rfl))
              (try simp only [Act.put, List.setIfInBounds_toArray, List.set_cons_zero, List.set_cons_succ, List.getElem_toArray, List.getElem_cons_zero, List.getElem_cons_succ])
              refine wpAnyH_take (i := 1) (v := ?vp1) rfl (by kernel_rfl) (by kernel_rfl) (by kernel_rfl) (fun _ _ _ h => h) (Or.inl ⟨by rfl, ?hyp1⟩) (by assumption) ?restp1
              case hyp1 => (intro w_ hSw; (try dsimp only at hSw); obtain ⟨s_, d0_, d1_, d2_, d4_, d5_, d6_⟩ := hSw; go_simp; (try with_reducible rfl))
              (try simp only [Act.put, List.setIfInBounds_toArray, List.set_cons_zero, List.set_cons_succ, List.getElem_toArray, List.getElem_cons_zero, List.getElem_cons_succ])
              refine wpAnyH_take (i := 2) (v := ?vp2) rfl (by kernel_rfl) (by kernel_rfl) (by kernel_rfl) (fun _ _ _ h => h) (Or.inl ⟨by rfl, ?hyp2⟩) (by assumption) ?restp2
              case hyp2 => (intro w_ hSw; (try dsimp only at hSw); obtain ⟨s_, d0_, d1_, d2_, d4_, d5_, d6_⟩ := hSw; go_simp; (try with_reducible rfl))
              (try simp only [Act.put, List.setIfInBounds_toArray, List.set_cons_zero, List.set_cons_succ, List.getElem_toArray, List.getElem_cons_zero, List.getElem_cons_succ])
              refine wpAnyH_take (i := 3) (v := ?vp3) rfl (by kernel_rfl) (by kernel_rfl) (by kernel_rfl) (fun _ _ _ h => h) (Or.inl ⟨by rfl, ?hyp3⟩) (by assumption) ?restp3
              case hyp3 => (intro w_ hSw; (try dsimp only at hSw); obtain ⟨s_, d0_, d1_, d2_, d4_, d5_, d6_⟩ := hSw; go_simp; (try with_reducible rfl))
              (try simp only [Act.put, List.setIfInBounds_toArray, List.set_cons_zero, List.set_cons_succ, List.getElem_toArray, List.getElem_cons_zero, List.getElem_cons_succ])
              refine wpAnyH_take (i := 4) (v := ?vp4) rfl (by kernel_rfl) (by kernel_rfl) (by kernel_rfl) (fun _ _ _ h => h) (Or.inl ⟨by rfl, ?hyp4⟩) (by assumption) ?restp4
              case hyp4 => (intro w_ hSw; (try dsimp only at hSw); obtain ⟨s_, d0_, d1_, d2_, d4_, d5_, d6_⟩ := hSw; go_simp; (try with_reducible rfl))
              (try simp only [Act.put, List.setIfInBounds_toArray, List.set_cons_zero, List.set_cons_succ, List.getElem_toArray, List.getElem_cons_zero, List.getElem_cons_succ])
              refine wpAnyH_take (i := 5) (v := ?vp5) rfl (by kernel_rfl) (by kernel_rfl) (by kernel_rfl) (fun _ _ _ h => h) (Or.inl ⟨by rfl, ?hyp5⟩) (by assumption) ?restp5
              case hyp5 => (intro w_ hSw; (try dsimp only at hSw); obtain ⟨s_, d0_, d1_, d2_, d4_, d5_, d6_⟩ := hSw; go_simp; (try with_reducible rfl))
              (try simp only [Act.put, List.setIfInBounds_toArray, List.set_cons_zero, List.set_cons_succ, List.getElem_toArray, List.getElem_cons_zero, List.getElem_cons_succ])
              refine wpAnyH_take (i := 6) (v := ?vp6) rfl (by kernel_rfl) (by kernel_rfl) (by kernel_rfl) (fun _ _ _ h => h) (Or.inl ⟨by rfl, ?hyp6⟩) (by assumption) ?restp6
              case hyp6 => (intro w_ hSw; (try dsimp only at hSw); obtain ⟨s_, d0_, d1_, d2_, d4_, d5_, d6_⟩ := hSw; go_simp; (try with_reducible rfl))
              (try simp only [Act.put, List.setIfInBounds_toArray, List.set_cons_zero, List.set_cons_succ, List.getElem_toArray, List.getElem_cons_zero, List.getElem_cons_succ])
              refine wpAnyH_take (i := 7) (v := ?vp7) rfl (by kernel_rfl) (by kernel_rfl) (by kernel_rfl) (fun _ _ _ h => h) (Or.inl ⟨by rfl, ?hyp7⟩) (by assumption) ?restp7
              case hyp7 => (intro w_ hSw; (try dsimp only at hSw); obtain ⟨s_, d0_, d1_, d2_, d4_, d5_, d6_⟩ := hSw; go_simp; (try with_reducible rfl))
              (try simp only [Act.put, List.setIfInBounds_toArray, List.set_cons_zero, List.set_cons_succ, List.getElem_toArray, List.getElem_cons_zero, List.getElem_cons_succ])
              refine wpAnyH_take (i := 8) (v := ?vp8) rfl (by kernel_rfl) (by kernel_rfl) (by kernel_rfl) (fun _ _ _ h => h) (Or.inl ⟨by rfl, ?hyp8⟩) (by assumption) ?restp8
              case hyp8 => (intro w_ hSw; (try dsimp only at hSw); obtain ⟨s_, d0_, d1_, d2_, d4_, d5_, d6_⟩ := hSw; go_simp; (try with_reducible rfl))
              (try simp only [Act.put, List.setIfInBounds_toArray, List.set_cons_zero, List.set_cons_succ, List.getElem_toArray, List.getElem_cons_zero, List.getElem_cons_succ])
              refine wpAnyH_take (i := 9) (v := ?vp9) rfl (by kernel_rfl) (by kernel_rfl) (by kernel_rfl) (fun _ _ _ h => h) (Or.inl ⟨by rfl, ?hyp9⟩) (by assumption) ?restp9
              case hyp9 => (intro w_ hSw; (try dsimp only at hSw); obtain ⟨s_, d0_, d1_, d2_, d4_, d5_, d6_⟩ := hSw; go_simp; (try with_reducible rfl))
              (try simp only [Act.put, List.setIfInBounds_toArray, List.set_cons_zero, List.set_cons_succ, List.getElem_toArray, List.getElem_cons_zero, List.getElem_cons_succ])
              refine wpAnyH_take (i := 10) (v := ?vp10) rfl (by kernel_rfl) (by kernel_rfl) (by kernel_rfl) (fun _ _ _ h => h) (Or.inl ⟨by rfl, ?hyp10⟩) (by assumption) ?restp10
              case hyp10 => (intro w_ hSw; (try dsimp only at hSw); obtain ⟨s_, d0_, d1_, d2_, d4_, d5_, d6_⟩ := hSw; go_simp; (try with_reducible rfl))
              (try simp only [Act.put, List.setIfInBounds_toArray, List.set_cons_zero, List.set_cons_succ, List.getElem_toArray, List.getElem_cons_zero, List.getElem_cons_succ])
              refine wpAnyH_take (i := 11) (v := ?vp11) rfl (by kernel_rfl) (by kernel_rfl) (by kernel_rfl) (fun _ _ _ h => h) (Or.inl ⟨by rfl, ?hyp11⟩) (by assumption) ?restp11
              case hyp11 => (intro w_ hSw; (try dsimp only at hSw); obtain ⟨s_, d0_, d1_, d2_, d4_, d5_, d6_⟩ := hSw; go_simp; (try with_reducible rfl))
              (try simp only [Act.put, List.setIfInBounds_toArray, List.set_cons_zero, List.set_cons_succ, List.getElem_toArray, List.getElem_cons_zero, List.getElem_cons_succ])
              refine wpAnyH_take (i := 12) (v := ?vp12) rfl (by kernel_rfl) (by kernel_rfl) (by kernel_rfl) (fun _ _ _ h => h) (Or.inl ⟨by rfl, ?hyp12⟩) (by assumption) ?restp12
              case hyp12 => (intro w_ hSw; (try dsimp only at hSw); obtain ⟨s_, d0_, d1_, d2_, d4_, d5_, d6_⟩ := hSw; go_simp; (try with_reducible rfl))
              (try simp only [Act.put, List.setIfInBounds_toArray, List.set_cons_zero, List.set_cons_succ, List.getElem_toArray, List.getElem_cons_zero, List.getElem_cons_succ])
              refine wpAnyH_take (i := 13) (v := ?vp13) rfl (by kernel_rfl) (by kernel_rfl) (by kernel_rfl) (fun _ _ _ h => h) (Or.inl ⟨by rfl, ?hyp13⟩) (by assumption) ?restp13
              case hyp13 => (intro w_ hSw; (try dsimp only at hSw); obtain ⟨s_, d0_, d1_, d2_, d4_, d5_, d6_⟩ := hSw; go_simp; (try with_reducible rfl))
              (try simp only [Act.put, List.setIfInBounds_toArray, List.set_cons_zero, List.set_cons_succ, List.getElem_toArray, List.getElem_cons_zero, List.getElem_cons_succ])
              refine wpAnyH_take (i := 14) (v := ?vp14) rfl (by kernel_rfl) (by kernel_rfl) (by kernel_rfl) (fun _ _ _ h => h) (Or.inl ⟨by rfl, ?hyp14⟩) (by assumption) ?restp14
              case hyp14 => (intro w_ hSw; (try dsimp only at hSw); obtain ⟨s_, d0_, d1_, d2_, d4_, d5_, d6_⟩ := hSw; go_simp; (try with_reducible rfl))
              (try simp only [Act.put, List.setIfInBounds_toArray, List.set_cons_zero, List.set_cons_succ, List.getElem_toArray, List.getElem_cons_zero, List.getElem_cons_succ])
              refine wpAnyH_take (i := 15) (v := ?vp15) rfl (by kernel_rfl) (by kernel_rfl) (by kernel_rfl) (fun _ _ _ h => h) (Or.inl ⟨by rfl, ?hyp15⟩) (by assumption) ?restp15
              case hyp15 => (intro w_ hSw; (try dsimp only at hSw); obtain ⟨s_, d0_, d1_, d2_, d4_, d5_, d6_⟩ := hSw; go_simp; (try with_reducible rfl))
              (try simp only [Act.put, List.setIfInBounds_toArray, List.set_cons_zero, List.set_cons_succ, List.getElem_toArray, List.getElem_cons_zero, List.getElem_cons_succ])
              refine wpAnyH_take (i := 16) (v := ?vp16) rfl (by kernel_rfl) (by kernel_rfl) (by kernel_rfl) (fun _ _ _ h => h) (Or.inl ⟨by rfl, ?hyp16⟩) (by assumption) ?restp16
              case hyp16 => (intro w_ hSw; (try dsimp only at hSw); obtain ⟨s_, d0_, d1_, d2_, d4_, d5_, d6_⟩ := hSw; go_simp; (try with_reducible rfl))
              (try simp only [Act.put, List.setIfInBounds_toArray, List.set_cons_zero, List.set_cons_succ, List.getElem_toArray, List.getElem_cons_zero, List.getElem_cons_succ])
              refine wpAnyH_take (i := 17) (v := ?vp17) rfl (by kernel_rfl) (by kernel_rfl) (by kernel_rfl) (fun _ _ _ h => h) (Or.inl ⟨by rfl, ?hyp17⟩) (by assumption) ?restp17
              case hyp17 => (intro w_ hSw; (try dsimp only at hSw); obtain ⟨s_, d0_, d1_, d2_, d4_, d5_, d6_⟩ := hSw; go_simp; (try with_reducible rfl))
              (try simp only [Act.put, List.setIfInBounds_toArray, List.set_cons_zero, List.set_cons_succ, List.getElem_toArray, List.getElem_cons_zero, List.getElem_cons_succ])
              refine wpAnyH_take (i := 18) (v := ?vp18) rfl (by kernel_rfl) (by kernel_rfl) (by kernel_rfl) (fun _ _ _ h => h) (Or.inl ⟨by rfl, ?hyp18⟩) (by assumption) ?restp18
              case hyp18 => (intro w_ hSw; (try dsimp only at hSw); obtain ⟨s_, d0_, d1_, d2_, d4_, d5_, d6_⟩ := hSw; go_simp; (try with_reducible rfl))
              (try simp only [Act.put, List.setIfInBounds_toArray, List.set_cons_zero, List.set_cons_succ, List.getElem_toArray, List.getElem_cons_zero, List.getElem_cons_succ])
              refine wpAnyH_take (i := 19) (v := ?vp19) rfl (by kernel_rfl) (by kernel_rfl) (by kernel_rfl) (fun _ _ _ h => h) (Or.inl ⟨by rfl, ?hyp19⟩) (by assumption) ?restp19
              case hyp19 => (intro w_ hSw; (try dsimp only at hSw); obtain ⟨s_, d0_, d1_, d2_, d4_, d5_, d6_⟩ := hSw; go_simp; (try with_reducible rfl))
              (try simp only [Act.put, List.setIfInBounds_toArray, List.set_cons_zero, List.set_cons_succ, List.getElem_toArray, List.getElem_cons_zero, List.getElem_cons_succ])
              refine wpAnyH_ready (rs := [20]) (by kernel_rfl) (by simp) ?_
              refine AllReadyH.cons rfl (fun K hK => ?_) AllReadyH.nil
              go_simp
              refine hK.out _ _ ?hSp20 (fun hHeldp20 => ?_)
              case hSp20 => exact HSS.out _ ((Below.refl _ _).drew.alloc (by simp only [World.size_drew]; omega) _)
              clear hK K
              (try simp only [Act.put, List.setIfInBounds_toArray, List.set_cons_zero, List.set_cons_succ, List.getElem_toArray, List.getElem_cons_zero, List.getElem_cons_succ])
              refine wpAnyH_ready (rs := [21]) (by kernel_rfl) (by simp) ?_
              refine AllReadyH.cons rfl (fun K hK => ?_) AllReadyH.nil
              (refine step_append_any _ rfl (.tmp 54) (.tmp 74) _ rfl (w.heap.size + 1) 55 i0 _ 6 48 Tryz.underlying52 hi0 hz0 hz1 hz2 rfl (by omega) _ M.length (fctsC M) (by simp [Act.eval]) ((own_below HS.out.row (Below.refl _ _).drew).alloc _) (wr.heap.size + 1) (some ⟨wr.heap.size, 0, none⟩) 1 1 [.int .i64 acc, .int .i64 ent, .int .i64 oth, .int .i64 kind, .int .i64 0, .int .i64 amt] (by simp [Act.eval]) (reads_one wr.drew #[.int .i64 acc, .int .i64 ent, .int .i64 oth, .int .i64 kind, .int .i64 0, .int .i64 amt] 55 6 rfl) (six_one _ _ _ _ _ _) (by simp only [maxLen]; omega) (by omega) (by simp only [World.size_alloc, World.size_drew]; omega) ?_; intro v6 w6 hown6 hg6 hat6)
              refine hK.out _ _ ?hSp21 (fun hHeldp21 => ?_)
              case hSp21 => exact HSW.out w6 v6 hg6 hown6
              clear hK K
              (try simp only [Act.put, List.setIfInBounds_toArray, List.set_cons_zero, List.set_cons_succ, List.getElem_toArray, List.getElem_cons_zero, List.getElem_cons_succ])
              have HF6 := Lib.hid (HPU.out v6 w6 _ ((Below.refl wr.heap.size wr).drew.alloc (by simp only [World.size_drew]; omega) (.cells (#[.int .i64 acc, .int .i64 ent, .int .i64 oth, .int .i64 kind, .int .i64 0, .int .i64 amt] : Array Value) 55)) hg6 hown6)
              clear hown6 hg6 hat6
              refine wpAnyH_take (i := 22) (v := ?vp22) rfl (by kernel_rfl) (by kernel_rfl) (by kernel_rfl) (fun _ _ _ h => h) (Or.inl ⟨by rfl, ?hyp22⟩) (by assumption) ?restp22
              case hyp22 => (intro w_ hSw; (try dsimp only at hSw); obtain ⟨s_, d0_, d1_, d2_, d4_, d5_, d6_⟩ := hSw; go_simp; (try with_reducible rfl))
              (try simp only [Act.put, List.setIfInBounds_toArray, List.set_cons_zero, List.set_cons_succ, List.getElem_toArray, List.getElem_cons_zero, List.getElem_cons_succ])
              refine wpAnyH_done (by kernel_rfl) ?_ _
              go_wp2_with fail
              go_roundw
              case rel => exact ⟨j + 1, by omega, by go_num, by rw [HSU.out]; exact HF6.out⟩
              case measure => simp [intOf]; omega
            · have k7 : decide ((j : Int) < (n : Int)) = false := by rw [decide_eq_false_iff_not]; omega
              have HFE : Hid (L ++ (parts.take j).map (ptF ⟨kind, ent, oth, rule, A, n, c, parts⟩) = its.map itF ++ (pos.take (m + 1)).flatMap poF) := by
                show _ = _
                rw [HST.out, List.take_of_length_le (by have := HPL.out; omega)]
                rfl
              rw [HFE.out] at HS
              go_wp2_with fail
              go_roundw
              case rel => exact ⟨m + 1, by omega, by go_num, by rw [HFE.out]; exact HS.out⟩
              case measure => simp [intOf]; omega
        · have k5 : decide ((m : Int) < (np : Int)) = false := by rw [decide_eq_false_iff_not]; omega
          have HFE : Hid (its.map itF ++ (pos.take m).flatMap poF = factsL its pos) := by
            show _ = _
            rw [List.take_of_length_le (by have := HLP.out; omega)]
            rfl
          rw [HFE.out] at HS
          have HSB := Lib.hid HS.out.below
          have HSR := Lib.hid (own_low HS.out.row (show w.heap.size ≤ w.heap.size + 1 by omega))
          clear hs
          go_wp2_with fail
          go_ret
          exact ⟨Al, cl, by rw [← HFE.out]; rfl, HSR.out, HSB.out⟩
end Go.Proofs.YtfnlddloalineaaGreatDoor
