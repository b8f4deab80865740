/-
  Conditions made functions: closure, filter. (printed by wip/tools/gen_hld2.py)
-/
import Derived.Test.YtfnlddloalineaaGreatDoorHld1
import Derived.Deep.AppendLies
namespace Go.Proofs.YtfnlddloalineaaGreatDoor
open Go.RowKit
set_option linter.unusedVariables false
set_option linter.unusedSimpArgs false
set_option maxRecDepth 100000
theorem run_f6 (G : Nat) : (∀ w, (Instr.index 170 (.agg #[(.func (.func 112) #[] #[.pointer (some ⟨G, 0, none⟩)]), (.func (.func 113) #[] #[.pointer (some ⟨G, 0, none⟩)]), (.func (.func 114) #[] #[.pointer (some ⟨G, 0, none⟩)]), (.func (.func 115) #[] #[.pointer (some ⟨G, 0, none⟩)]), (.func (.func 116) #[] #[.pointer (some ⟨G, 0, none⟩)]), (.func (.func 117) #[] #[.pointer (some ⟨G, 0, none⟩)])]) (.int .i64 0)).run Tryz.prog w = .ok (.func (.func 112) #[] #[.pointer (some ⟨G, 0, none⟩)]) w) ∧ (∀ w, (Instr.index 170 (.agg #[(.func (.func 112) #[] #[.pointer (some ⟨G, 0, none⟩)]), (.func (.func 113) #[] #[.pointer (some ⟨G, 0, none⟩)]), (.func (.func 114) #[] #[.pointer (some ⟨G, 0, none⟩)]), (.func (.func 115) #[] #[.pointer (some ⟨G, 0, none⟩)]), (.func (.func 116) #[] #[.pointer (some ⟨G, 0, none⟩)]), (.func (.func 117) #[] #[.pointer (some ⟨G, 0, none⟩)])]) (.int .i64 1)).run Tryz.prog w = .ok (.func (.func 113) #[] #[.pointer (some ⟨G, 0, none⟩)]) w) ∧ (∀ w, (Instr.index 170 (.agg #[(.func (.func 112) #[] #[.pointer (some ⟨G, 0, none⟩)]), (.func (.func 113) #[] #[.pointer (some ⟨G, 0, none⟩)]), (.func (.func 114) #[] #[.pointer (some ⟨G, 0, none⟩)]), (.func (.func 115) #[] #[.pointer (some ⟨G, 0, none⟩)]), (.func (.func 116) #[] #[.pointer (some ⟨G, 0, none⟩)]), (.func (.func 117) #[] #[.pointer (some ⟨G, 0, none⟩)])]) (.int .i64 2)).run Tryz.prog w = .ok (.func (.func 114) #[] #[.pointer (some ⟨G, 0, none⟩)]) w) ∧ (∀ w, (Instr.index 170 (.agg #[(.func (.func 112) #[] #[.pointer (some ⟨G, 0, none⟩)]), (.func (.func 113) #[] #[.pointer (some ⟨G, 0, none⟩)]), (.func (.func 114) #[] #[.pointer (some ⟨G, 0, none⟩)]), (.func (.func 115) #[] #[.pointer (some ⟨G, 0, none⟩)]), (.func (.func 116) #[] #[.pointer (some ⟨G, 0, none⟩)]), (.func (.func 117) #[] #[.pointer (some ⟨G, 0, none⟩)])]) (.int .i64 3)).run Tryz.prog w = .ok (.func (.func 115) #[] #[.pointer (some ⟨G, 0, none⟩)]) w) ∧ (∀ w, (Instr.index 170 (.agg #[(.func (.func 112) #[] #[.pointer (some ⟨G, 0, none⟩)]), (.func (.func 113) #[] #[.pointer (some ⟨G, 0, none⟩)]), (.func (.func 114) #[] #[.pointer (some ⟨G, 0, none⟩)]), (.func (.func 115) #[] #[.pointer (some ⟨G, 0, none⟩)]), (.func (.func 116) #[] #[.pointer (some ⟨G, 0, none⟩)]), (.func (.func 117) #[] #[.pointer (some ⟨G, 0, none⟩)])]) (.int .i64 4)).run Tryz.prog w = .ok (.func (.func 116) #[] #[.pointer (some ⟨G, 0, none⟩)]) w) ∧ (∀ w, (Instr.index 170 (.agg #[(.func (.func 112) #[] #[.pointer (some ⟨G, 0, none⟩)]), (.func (.func 113) #[] #[.pointer (some ⟨G, 0, none⟩)]), (.func (.func 114) #[] #[.pointer (some ⟨G, 0, none⟩)]), (.func (.func 115) #[] #[.pointer (some ⟨G, 0, none⟩)]), (.func (.func 116) #[] #[.pointer (some ⟨G, 0, none⟩)]), (.func (.func 117) #[] #[.pointer (some ⟨G, 0, none⟩)])]) (.int .i64 5)).run Tryz.prog w = .ok (.func (.func 117) #[] #[.pointer (some ⟨G, 0, none⟩)]) w) := ⟨fun w => by kernel_rfl, fun w => by kernel_rfl, fun w => by kernel_rfl, fun w => by kernel_rfl, fun w => by kernel_rfl, fun w => by kernel_rfl⟩
set_option maxHeartbeats 4000000 in
theorem closure_any (f o v : Int) (k : Nat) (w : World) (hk : k < 6) (ho : o = (k : Int)) : Calls Tryz.prog 89 #[.agg #[.int .i64 f, .int .i64 o, .int .i64 v]] w fun e w' => e = .returned (cloV (w.heap.size + 1) w.heap.size) ∧ Blk w' w.heap.size 95 #[.int .i64 f, .int .i64 o, .int .i64 v] ∧ Blk w' (w.heap.size + 1) 126 #[cmpV k w.heap.size] ∧ Below w.heap.size w w' := by
  have hb := (Below.refl w.heap.size w).alloc (Nat.le_refl _) (.cells (#[.int .i64 f, .int .i64 o, .int .i64 v] : Array Value) 95)
  have hk0 := Blk.new w 95 #[.int .i64 f, .int .i64 o, .int .i64 v]
  obtain ⟨wz, hwz⟩ : ∃ wz, w.alloc (.cells (#[.int .i64 f, .int .i64 o, .int .i64 v] : Array Value) 95) = wz := ⟨_, rfl⟩
  have HSZ : Hid (wz.heap.size = w.heap.size + 1) := by show _ = _; rw [← hwz, World.size_alloc]
  rw [hwz] at hb hk0
  have hk1 := Blk.new wz 126 #[cmpV k w.heap.size]
  have HF : Hid (Blk (wz.alloc (.cells (#[cmpV k w.heap.size] : Array Value) 126)) w.heap.size 95 #[.int .i64 f, .int .i64 o, .int .i64 v] ∧ Blk (wz.alloc (.cells (#[cmpV k w.heap.size] : Array Value) 126)) wz.heap.size 126 #[cmpV k w.heap.size] ∧ Below w.heap.size w (wz.alloc (.cells (#[cmpV k w.heap.size] : Array Value) 126))) := ⟨hk0.alloc _, hk1, hb.alloc hb.size _⟩
  obtain ⟨c0, c1, c2⟩ := rd_cells hk0
  have hlt0 : w.heap.size < wz.heap.size := hk0.lt
  rw [← HSZ.out]
  clear hb hk0 hk1
  have ri := run_f6 w.heap.size
  obtain ⟨r0, r1, r2, r3, r4, r5⟩ := ri
  have rsf : ∀ (F : FuncId) (a : Addr) (y : World), (store a (.func (.func F) #[] #[.pointer (some ⟨w.heap.size, 0, none⟩)])).run Tryz.prog y = stored Tryz.prog y a (.func (.func F) #[] #[.pointer (some ⟨w.heap.size, 0, none⟩)]) .plain := fun F a y => run_store _ _ _ _ _ rfl
  rcases nat_six hk with rfl | rfl | rfl | rfl | rfl | rfl
  · obtain rfl : o = 0 := by omega
    clear hk ho
    go_enter Tryz.func89, Tryz.ntmps89
    go_wp2_with fail
    go_ret
    exact ⟨rfl, HF.out⟩
  · obtain rfl : o = 1 := by omega
    clear hk ho
    go_enter Tryz.func89, Tryz.ntmps89
    go_wp2_with fail
    go_ret
    exact ⟨rfl, HF.out⟩
  · obtain rfl : o = 2 := by omega
    clear hk ho
    go_enter Tryz.func89, Tryz.ntmps89
    go_wp2_with fail
    go_ret
    exact ⟨rfl, HF.out⟩
  · obtain rfl : o = 3 := by omega
    clear hk ho
    go_enter Tryz.func89, Tryz.ntmps89
    go_wp2_with fail
    go_ret
    exact ⟨rfl, HF.out⟩
  · obtain rfl : o = 4 := by omega
    clear hk ho
    go_enter Tryz.func89, Tryz.ntmps89
    go_wp2_with fail
    go_ret
    exact ⟨rfl, HF.out⟩
  · obtain rfl : o = 5 := by omega
    clear hk ho
    go_enter Tryz.func89, Tryz.ntmps89
    go_wp2_with fail
    go_ret
    exact ⟨rfl, HF.out⟩
/-- a function that stands for a condition -/
def CloOk (w : World) (B : Nat) (u : Value) (c : SCond) : Prop := ∃ C G, u = cloV C G ∧ B ≤ C ∧ B ≤ G ∧ Blk w C 126 #[cmpV c.o.toNat G] ∧ Blk w G 95 #[.int .i64 c.f, .int .i64 c.o, .int .i64 c.v]
/-- the functions that have been laid -/
structure FlS (w : World) (cs : List SCond) (vl : Value) (cl : List Value) (x : World) : Prop where
  below : Below w.heap.size w x
  lblk : Blk x (w.heap.size + 1) 151 #[vl]
  row : x.ownsRow (w.heap.size + 1 + 1) 112 1 vl cl.length cl
  clo : ∀ i, i < cl.length → CloOk x (w.heap.size + 1 + 1) (cl.getD i undef) (cs.getD i default)
theorem CloOk.keep {w w' : World} {B : Nat} {u : Value} {c : SCond} (h : CloOk w B u c) (hk : ∀ (g : Nat) (t : TypeId) (a : Array Value), Blk w g t a → B ≤ g → (t = 126 ∨ t = 95) → Blk w' g t a) : CloOk w' B u c := by
  obtain ⟨C, G, e, h1, h2, h3, h4⟩ := h
  exact ⟨C, G, e, h1, h2, hk _ _ _ h3 h1 (.inl rfl), hk _ _ _ h4 h2 (.inr rfl)⟩
theorem FlS.step {w x w3 w5 : World} {cs : List SCond} {vl v6 : Value} {cl : List Value} {o : Obj} {G C k : Nat} {f v : Int} (h : FlS w cs vl cl x) (hb : Below x.heap.size x w3) (hG : Blk w3 G 95 #[.int .i64 f, .int .i64 (k : Int), .int .i64 v]) (hC : Blk w3 C 126 #[cmpV k G]) (hgx : x.heap.size ≤ G) (hcx : x.heap.size ≤ C)
    (hc : cs.getD cl.length default = ⟨f, (k : Int), v⟩) (hg : (w3.alloc o).grownBy w5 vl.ownBlock) (hown : w5.ownsRow (w.heap.size + 1 + 1) 112 1 v6 (cl.length + 1) (cl ++ [cloV C G])) :
    FlS w cs v6 (cl ++ [cloV C G]) (w5.setCell ⟨w.heap.size + 1, 0, none⟩ v6) ∧ w5.cell? ⟨w.heap.size + 1, 0, none⟩ = some vl ∧ w5.frozen? ⟨w.heap.size + 1, 0, none⟩ = false := by
  have hL := h.lblk.lt
  have hr3 := own_below h.row hb
  have hb5 : ∀ b, vl.ownBlock = some b → w.heap.size + 1 + 1 ≤ b := own_base h.row
  have hL3 := h.lblk.below hb hL
  have k5 : ∀ (g : Nat) (t : TypeId) (a : Array Value), Blk w3 g t a → t ≠ 112 → Blk w5 g t a := fun g t a hk hne => (hk.alloc o).grown hg (fun e => own_blk_ne (hr3.alloc o) (hk.alloc o) (fun e => hne e.symm) e.symm)
  have hL5 := k5 _ _ _ hL3 (by decide)
  have kf : ∀ (g : Nat) (t : TypeId) (a : Array Value), Blk w5 g t a → w.heap.size + 1 + 1 ≤ g → Blk (w5.setCell ⟨w.heap.size + 1, 0, none⟩ v6) g t a := fun g t a hk hge => hk.far (by simp only []; omega) _
  refine ⟨⟨?_, by have := hL5.set_ 0 v6; simpa using this, ?_, fun i hi => ?_⟩, hL5.cell 0, hL5.frozen 0⟩
  · have hs := h.below.size
    have h3 := below_two h.below hb
    exact ((h3.alloc h3.size o).grown hg (by have := h3.size; rw [World.size_alloc]; omega) (fun r e => by have := hb5 _ e; omega)).setCell (p := ⟨w.heap.size + 1, 0, none⟩) (by simp only []; omega) _
  · rw [List.length_append]
    exact ownsRow_setCell_other hown (a := ⟨w.heap.size + 1, 0, none⟩) (own_blk_ne hown hL5 (by decide)) v6
  · rw [List.length_append] at hi
    by_cases e : i = cl.length
    · subst e
      rw [hc]
      have e2 : (cl ++ [cloV C G]).getD cl.length undef = cloV C G := by simp
      rw [e2]
      exact ⟨C, G, rfl, by omega, by omega, kf _ _ _ (k5 _ _ _ hC (by decide)) (by omega), kf _ _ _ (k5 _ _ _ hG (by decide)) (by omega)⟩
    · have hi2 : i < cl.length := by simp only [List.length_cons, List.length_nil] at hi; omega
      have e2 : (cl ++ [cloV C G]).getD i undef = cl.getD i undef := by
        rw [List.getD_eq_getElem?_getD, List.getD_eq_getElem?_getD, List.getElem?_append_left hi2]
      rw [e2]
      refine (h.clo i hi2).keep fun g t a hk hge ht => ?_
      have hne : t ≠ 112 := by rcases ht with rfl | rfl <;> decide
      exact kf _ _ _ (k5 _ _ _ (hk.below hb hk.lt) hne) hge
theorem info_fnQ : (Tryz.prog.info? 112).map (fun i => (i.zero, i.size, i.bytes)) = some (some .nilFunc, 1, 8) := by kernel_rfl
set_option maxHeartbeats 16000000 in
theorem filter_any (verb : Int) (wh : List SCond) (Ab Aw : Option Addr) (nb nw cb cw B : Nat) (w : World) (hok : ∀ c, c ∈ wh → okCnd c) (hw : Reads w B 3 Aw nw (cndC wh)) (hB : B ≤ w.heap.size) (hn : nw ≤ 1000) :
    Calls Tryz.prog 57 #[.agg #[.int .i64 verb, .slice Ab nb cb, .slice Aw nw cw]] w fun e w' => ∃ vl cl, cl.length = nw ∧ e = .returned (.func (.func 90) #[] #[.pointer (some ⟨w.heap.size + 1, 0, none⟩)]) ∧ FlS w wh vl cl w' := by
  obtain ⟨i0, hi0, hz0, hz1, hz2⟩ := info_parts info_fnQ
  have hnw : wh.length = nw := by have := hw.1; rw [cndC_len] at this; omega
  have h1 := (Below.refl w.heap.size w).alloc (Nat.le_refl _) (.cells (#[.int .i64 verb, .slice Ab nb cb, .slice Aw nw cw] : Array Value) 26)
  have hk1 := Blk.new w 26 #[.int .i64 verb, .slice Ab nb cb, .slice Aw nw cw]
  obtain ⟨wz, hwz⟩ : ∃ wz, w.alloc (.cells (#[.int .i64 verb, .slice Ab nb cb, .slice Aw nw cw] : Array Value) 26) = wz := ⟨_, rfl⟩
  have hsz : wz.heap.size = w.heap.size + 1 := by rw [← hwz, World.size_alloc]
  rw [hwz] at h1 hk1
  obtain ⟨c0, c1, c2⟩ := rd_cells hk1
  have hlt0 : w.heap.size < wz.heap.size := by omega
  have HLB := Blk.new wz 151 #[.slice none 0 0]
  rw [hsz] at HLB
  have HS0 : Hid (FlS w wh (.slice none 0 0) [] (wz.alloc (.cells (#[.slice none 0 0] : Array Value) 151))) := ⟨h1.alloc h1.size _, HLB, World.ownsRow_nil _ _ _ _, fun i h => absurd h (by simp)⟩
  have HWH := Lib.hid hw
  have HOK := Lib.hid hok
  have HNW := Lib.hid hnw
  clear h1 hk1 HLB hw hok hnw
  go_enter Tryz.func57, Tryz.ntmps57
  go_wp2_with fail
  go_loopw [9] (fun i x => ∃ (k : Nat) (vl : Value) (cl : List Value), k ≤ nw ∧ i = .int .i64 k ∧ cl.length = k ∧ FlS w wh vl cl x) (fun i _ => nw - (intOf i).toNat)
  case atStart => exact ⟨0, _, [], by omega, rfl, rfl, HS0.out⟩
  case round =>
    clear HS0 c0 c1 c2 hwz hlt0 hsz
    obtain ⟨k, vl, cl, hk, rfl, hcl, hs⟩ := hrel
    subst hcl
    have HS := Lib.hid hs
    have hlL : w.heap.size + 1 < wr.heap.size := hs.lblk.lt
    have l0 : wr.cell? ⟨w.heap.size + 1, 0, none⟩ = some vl := hs.lblk.cell 0
    have hbl := hs.below
    clear hs
    by_cases hlk : cl.length < nw
    · have k3 : decide ((cl.length : Int) < (nw : Int)) = true := by rw [decide_eq_true_eq]; omega
      have k4 : (cl.length : Int) < (nw : Int) := by omega
      obtain ⟨ad, rfl, had, b0, b1, b2⟩ := (HWH.out.lowQ hB (Nat.le_refl _) hbl).cnd_at hlk
      have hadl : ad.block < wr.heap.size := by have := hbl.size; omega
      have hkl : cl.length < wh.length := by have := HNW.out; omega
      have hokc := HOK.out (wh.getD cl.length default) (by rw [List.getD_eq_getElem?_getD, List.getElem?_eq_getElem hkl]; exact List.getElem_mem _)
      obtain ⟨cc, hcc⟩ : ∃ cc, wh.getD cl.length default = cc := ⟨_, rfl⟩
      rw [hcc] at hokc b0 b1 b2
      obtain ⟨f, op, v⟩ := cc
      obtain ⟨_, _, o0, o5, _⟩ := hokc
      simp only [] at b0 b1 b2 o0 o5
      obtain ⟨ok, rfl⟩ : ∃ ok : Nat, op = (ok : Int) := ⟨op.toNat, by omega⟩
      have hok6 : ok < 6 := by omega
      have HCC := Lib.hid hcc
      clear hcc
      have HCL : Hid (∀ w, Calls Tryz.prog 89 #[.agg #[.int .i64 f, .int .i64 (ok : Int), .int .i64 v]] w fun e w' => e = .returned (.func (.func 118) #[] #[.pointer (some ⟨w.heap.size + 1, 0, none⟩), .pointer (some ⟨w.heap.size, 0, none⟩)]) ∧ Blk w' w.heap.size 95 #[.int .i64 f, .int .i64 (ok : Int), .int .i64 v] ∧ Blk w' (w.heap.size + 1) 126 #[cmpV ok w.heap.size] ∧ Below w.heap.size w w') := fun w => closure_any f _ v ok w hok6 rfl
      obtain ⟨A0, c0, rfl⟩ := own_slice HS.out.row
      go_upto_region 5 with fail
      have HBX := Blk.new wr 95 #[.int .i64 f, .int .i64 (ok : Int), .int .i64 v]
      obtain ⟨G0, hG0⟩ : ∃ G0, wr.heap.size = G0 := ⟨_, rfl⟩
      have hby := (Below.refl wr.heap.size wr).alloc (Nat.le_refl _) (.cells (#[.int .i64 f, .int .i64 (ok : Int), .int .i64 v] : Array Value) 95)
      obtain ⟨wy, hwy⟩ : ∃ wy, wr.alloc (.cells (#[.int .i64 f, .int .i64 (ok : Int), .int .i64 v] : Array Value) 95) = wy := ⟨_, rfl⟩
      have hsy : wy.heap.size = wr.heap.size + 1 := by rw [← hwy, World.size_alloc]
      rw [hwy] at HBX hby ⊢
      rw [hG0] at HBX
      try rw [hG0]
      obtain ⟨z0, z1, z2⟩ := rd_cells HBX
      have HBY := Lib.hid hby
      have HGI : Hid (wy.drew.heap.size = G0 + 1) := by show _ = _; rw [World.size_drew]; omega
      have HOL := Lib.hid (own_lt HS.out.row)
      have HSTAY : Hid (∀ (y w6 : World), (y.cell? ⟨G0, 0, none⟩ = some (.int .i64 f) ∧ y.cell? ⟨G0, 1, none⟩ = some (.int .i64 (ok : Int)) ∧ y.cell? ⟨G0, 2, none⟩ = some (.int .i64 v)) → y.grownBy w6 (Value.slice A0 cl.length c0).ownBlock → (w6.cell? ⟨G0, 0, none⟩ = some (.int .i64 f) ∧ w6.cell? ⟨G0, 1, none⟩ = some (.int .i64 (ok : Int)) ∧ w6.cell? ⟨G0, 2, none⟩ = some (.int .i64 v))) := fun y w6 h hg => by
        have hb : w6.heap[G0]? = y.heap[G0]? := hg.block G0 (World.block_lt_of_cell? _ _ h.1) (fun e => by have := HOL.out _ e.symm; omega)
        exact ⟨(World.cell?_of_block hb).trans h.1, (World.cell?_of_block hb).trans h.2.1, (World.cell?_of_block hb).trans h.2.2⟩
      have l1 : wy.cell? ⟨w.heap.size + 1, 0, none⟩ = some (.slice A0 cl.length c0) := (hby.cell hlL).trans l0
      clear hby HBX b0 b1 b2 l0 hwy
      refine wp_region_held_drew (S := fun w' => w'.cell? ⟨G0, 0, none⟩ = some (.int .i64 f) ∧ w'.cell? ⟨G0, 1, none⟩ = some (.int .i64 (ok : Int)) ∧ w'.cell? ⟨G0, 2, none⟩ = some (.int .i64 v)) (by kernel_rfl) ⟨z0, z1, z2⟩ (fun hHeld => ?_)
      refine wpAnyH_take (i := 1) (v := ?vf1) rfl (by kernel_rfl) (by kernel_rfl) (by kernel_rfl) (fun _ _ _ h => h) (Or.inl ⟨by rfl, ?hyf1⟩) (by assumption) ?restf1
      case hyf1 => (intro w_ hSw; (try dsimp only at hSw); obtain ⟨d0_, d1_, d2_⟩ := hSw; go_simp; (try with_reducible rfl))
      (try simp only [Act.put, List.setIfInBounds_toArray, List.set_cons_zero, List.set_cons_succ, List.getElem_toArray, List.getElem_cons_zero, List.getElem_cons_succ])
      refine wpAnyH_ready (rs := [0, 2]) (by kernel_rfl) (by simp) ?_
      refine AllReadyH.cons rfl (fun K hK => ?_) (AllReadyH.cons rfl (fun K hK => ?_) AllReadyH.nil)
      · -- the load ahead of the call
        go_simp
        refine hK.out _ _ ?hSa0 (fun hHelda0 => ?_)
        case hSa0 => exact hHeld
        clear hK K
        (try simp only [Act.put, List.setIfInBounds_toArray, List.set_cons_zero, List.set_cons_succ, List.getElem_toArray, List.getElem_cons_zero, List.getElem_cons_succ])
        refine wpAnyH_ready (rs := [2]) (by kernel_rfl) (by simp) ?_
        refine AllReadyH.cons rfl (fun K hK => ?_) AllReadyH.nil
        go_simp
        go_wp2_with (go_at_call 89; refine (HCL.out _).mono ?_; rintro e w3 ⟨rfl, hG3, hC3, hb3⟩)
        have HB3 := Lib.hid (HBY.out.trans ((below_two ((Below.refl wy.heap.size wy).drew) hb3).mono (show wr.heap.size ≤ wy.heap.size by omega)))
        have HR3 := Lib.hid (own_below HS.out.row HB3.out)
        have l3 : w3.cell? ⟨w.heap.size + 1, 0, none⟩ = some (.slice A0 cl.length c0) := (hb3.cell (World.block_lt_of_cell? _ _ l1)).trans l1
        have l4 := fun o => (World.cell?_alloc_lt w3 o ⟨w.heap.size + 1, 0, none⟩ (World.block_lt_of_cell? _ _ l3)).trans l3
        refine hK.out _ _ ?hSa2 (fun hHelda2 => ?_)
        case hSa2 => exact ⟨(hb3.cell (World.block_lt_of_cell? _ _ hHelda0.1)).trans hHelda0.1, (hb3.cell (World.block_lt_of_cell? _ _ hHelda0.2.1)).trans hHelda0.2.1, (hb3.cell (World.block_lt_of_cell? _ _ hHelda0.2.2)).trans hHelda0.2.2⟩
        clear hK K
        (try simp only [Act.put, List.setIfInBounds_toArray, List.set_cons_zero, List.set_cons_succ, List.getElem_toArray, List.getElem_cons_zero, List.getElem_cons_succ])
        refine wpAnyH_ready (rs := [3]) (by kernel_rfl) (by simp) ?_
        refine AllReadyH.cons rfl (fun K hK => ?_) AllReadyH.nil
        go_simp
        refine hK.out _ _ ?hSa3 (fun hHelda3 => ?_)
        case hSa3 => exact ⟨(World.cell?_alloc_lt _ _ _ (World.block_lt_of_cell? _ _ hHelda2.1)).trans hHelda2.1, (World.cell?_alloc_lt _ _ _ (World.block_lt_of_cell? _ _ hHelda2.2.1)).trans hHelda2.2.1, (World.cell?_alloc_lt _ _ _ (World.block_lt_of_cell? _ _ hHelda2.2.2)).trans hHelda2.2.2⟩
        clear hK K
        (try simp only [Act.put, List.setIfInBounds_toArray, List.set_cons_zero, List.set_cons_succ, List.getElem_toArray, List.getElem_cons_zero, List.getElem_cons_succ])
        refine wpAnyH_ready (rs := [4]) (by kernel_rfl) (by simp) ?_
        refine AllReadyH.cons rfl (fun K hK => ?_) AllReadyH.nil
        have hone : ∀ u ∈ ([(.func (.func 118) #[] #[.pointer (some ⟨G0 + 1 + 1, 0, none⟩), .pointer (some ⟨G0 + 1, 0, none⟩)])] : List Value), u.oneCell' = true := by intro u hu; rw [List.mem_singleton] at hu; rw [hu]; rfl
        (refine step_append_any _ rfl (.tmp 13) (.tmp 16) _ rfl (w.heap.size + 1 + 1) 112 i0 _ 1 8 Tryz.underlying151 hi0 hz0 hz1 hz2 rfl (by omega) _ cl.length cl (by simp [Act.eval]) (HR3.out.alloc _) (w3.heap.size + 1) (some ⟨w3.heap.size, 0, none⟩) 1 1 [(.func (.func 118) #[] #[.pointer (some ⟨G0 + 1 + 1, 0, none⟩), .pointer (some ⟨G0 + 1, 0, none⟩)])] (by simp [Act.eval]) (reads_lit w3 #[(.func (.func 118) #[] #[.pointer (some ⟨G0 + 1 + 1, 0, none⟩), .pointer (some ⟨G0 + 1, 0, none⟩)])] 112) hone (by simp only [maxLen]; omega) (by omega) (by simp only [World.size_alloc]; have := HB3.out.size; omega) ?_; intro v6 w6 hown6 hg6 hat6)
        obtain ⟨A6, c6, rfl⟩ := own_slice (n := cl.length + 1) hown6
        have hstp := HS.out.step (k := ok) (f := f) (v := v) HB3.out (show Blk w3 (G0 + 1) _ _ by have := hG3; rw [HGI.out] at this; exact this) (show Blk w3 (G0 + 1 + 1) _ _ by have := hC3; rw [HGI.out] at this; exact this) (by omega) (by omega) HCC.out hg6 hown6
        refine hK.out _ _ ?hSa4 (fun hHelda4 => ?_)
        case hSa4 => exact HSTAY.out _ w6 hHelda3 hg6
        clear hK K
        (try simp only [Act.put, List.setIfInBounds_toArray, List.set_cons_zero, List.set_cons_succ, List.getElem_toArray, List.getElem_cons_zero, List.getElem_cons_succ])
        refine wpAnyH_ready (rs := [5]) (by kernel_rfl) (by simp) ?_
        refine AllReadyH.cons rfl (fun K hK => ?_) AllReadyH.nil
        obtain ⟨hF6, hc6, hf6⟩ := hstp
        go_simp
        refine hK.out _ _ ?hSa5 (fun hHelda5 => ?_)
        case hSa5 => exact ⟨(World.cell?_setCell_far _ _ _ _ (by simp only []; omega)).trans hHelda4.1, (World.cell?_setCell_far _ _ _ _ (by simp only []; omega)).trans hHelda4.2.1, (World.cell?_setCell_far _ _ _ _ (by simp only []; omega)).trans hHelda4.2.2⟩
        clear hK K
        (try simp only [Act.put, List.setIfInBounds_toArray, List.set_cons_zero, List.set_cons_succ, List.getElem_toArray, List.getElem_cons_zero, List.getElem_cons_succ])
        refine wpAnyH_done (by kernel_rfl) ?_ _
        have HFF := Lib.hid hF6
        clear hF6 hc6 hf6 hown6 hg6 hat6 hG3 hC3 hb3 l3 l4 l1 z0 z1 z2
        go_wp2_with fail
        go_roundw
        case rel => exact ⟨cl.length + 1, _, _, by omega, by go_num, by simp, HFF.out⟩
        case measure => simp [intOf]; omega
      · -- the load behind the call
        go_simp
        go_wp2_with (go_at_call 89; refine (HCL.out _).mono ?_; rintro e w3 ⟨rfl, hG3, hC3, hb3⟩)
        have HB3 := Lib.hid (HBY.out.trans ((below_two ((Below.refl wy.heap.size wy).drew) hb3).mono (show wr.heap.size ≤ wy.heap.size by omega)))
        have HR3 := Lib.hid (own_below HS.out.row HB3.out)
        have l3 : w3.cell? ⟨w.heap.size + 1, 0, none⟩ = some (.slice A0 cl.length c0) := (hb3.cell (World.block_lt_of_cell? _ _ l1)).trans l1
        have l4 := fun o => (World.cell?_alloc_lt w3 o ⟨w.heap.size + 1, 0, none⟩ (World.block_lt_of_cell? _ _ l3)).trans l3
        refine hK.out _ _ ?hSb2 (fun hHeldb2 => ?_)
        case hSb2 => exact ⟨(hb3.cell (World.block_lt_of_cell? _ _ hHeld.1)).trans hHeld.1, (hb3.cell (World.block_lt_of_cell? _ _ hHeld.2.1)).trans hHeld.2.1, (hb3.cell (World.block_lt_of_cell? _ _ hHeld.2.2)).trans hHeld.2.2⟩
        clear hK K
        (try simp only [Act.put, List.setIfInBounds_toArray, List.set_cons_zero, List.set_cons_succ, List.getElem_toArray, List.getElem_cons_zero, List.getElem_cons_succ])
        refine wpAnyH_ready (rs := [0, 3]) (by kernel_rfl) (by simp) ?_
        refine AllReadyH.cons rfl (fun K hK => ?_) (AllReadyH.cons rfl (fun K hK => ?_) AllReadyH.nil)
        · -- at once
          go_simp
          refine hK.out _ _ ?hSc0 (fun hHeldc0 => ?_)
          case hSc0 => exact hHeldb2
          clear hK K
          (try simp only [Act.put, List.setIfInBounds_toArray, List.set_cons_zero, List.set_cons_succ, List.getElem_toArray, List.getElem_cons_zero, List.getElem_cons_succ])
          refine wpAnyH_ready (rs := [3]) (by kernel_rfl) (by simp) ?_
          refine AllReadyH.cons rfl (fun K hK => ?_) AllReadyH.nil
          go_simp
          refine hK.out _ _ ?hSc3 (fun hHeldc3 => ?_)
          case hSc3 => exact ⟨(World.cell?_alloc_lt _ _ _ (World.block_lt_of_cell? _ _ hHeldc0.1)).trans hHeldc0.1, (World.cell?_alloc_lt _ _ _ (World.block_lt_of_cell? _ _ hHeldc0.2.1)).trans hHeldc0.2.1, (World.cell?_alloc_lt _ _ _ (World.block_lt_of_cell? _ _ hHeldc0.2.2)).trans hHeldc0.2.2⟩
          clear hK K
          (try simp only [Act.put, List.setIfInBounds_toArray, List.set_cons_zero, List.set_cons_succ, List.getElem_toArray, List.getElem_cons_zero, List.getElem_cons_succ])
          refine wpAnyH_ready (rs := [4]) (by kernel_rfl) (by simp) ?_
          refine AllReadyH.cons rfl (fun K hK => ?_) AllReadyH.nil
          have hone : ∀ u ∈ ([(.func (.func 118) #[] #[.pointer (some ⟨G0 + 1 + 1, 0, none⟩), .pointer (some ⟨G0 + 1, 0, none⟩)])] : List Value), u.oneCell' = true := by intro u hu; rw [List.mem_singleton] at hu; rw [hu]; rfl
          (refine step_append_any _ rfl (.tmp 13) (.tmp 16) _ rfl (w.heap.size + 1 + 1) 112 i0 _ 1 8 Tryz.underlying151 hi0 hz0 hz1 hz2 rfl (by omega) _ cl.length cl (by simp [Act.eval]) (HR3.out.alloc _) (w3.heap.size + 1) (some ⟨w3.heap.size, 0, none⟩) 1 1 [(.func (.func 118) #[] #[.pointer (some ⟨G0 + 1 + 1, 0, none⟩), .pointer (some ⟨G0 + 1, 0, none⟩)])] (by simp [Act.eval]) (reads_lit w3 #[(.func (.func 118) #[] #[.pointer (some ⟨G0 + 1 + 1, 0, none⟩), .pointer (some ⟨G0 + 1, 0, none⟩)])] 112) hone (by simp only [maxLen]; omega) (by omega) (by simp only [World.size_alloc]; have := HB3.out.size; omega) ?_; intro v6 w6 hown6 hg6 hat6)
          obtain ⟨A6, c6, rfl⟩ := own_slice (n := cl.length + 1) hown6
          have hstp := HS.out.step (k := ok) (f := f) (v := v) HB3.out (show Blk w3 (G0 + 1) _ _ by have := hG3; rw [HGI.out] at this; exact this) (show Blk w3 (G0 + 1 + 1) _ _ by have := hC3; rw [HGI.out] at this; exact this) (by omega) (by omega) HCC.out hg6 hown6
          refine hK.out _ _ ?hSc4 (fun hHeldc4 => ?_)
          case hSc4 => exact HSTAY.out _ w6 hHeldc3 hg6
          clear hK K
          (try simp only [Act.put, List.setIfInBounds_toArray, List.set_cons_zero, List.set_cons_succ, List.getElem_toArray, List.getElem_cons_zero, List.getElem_cons_succ])
          refine wpAnyH_ready (rs := [5]) (by kernel_rfl) (by simp) ?_
          refine AllReadyH.cons rfl (fun K hK => ?_) AllReadyH.nil
          obtain ⟨hF6, hc6, hf6⟩ := hstp
          go_simp
          refine hK.out _ _ ?hSc5 (fun hHeldc5 => ?_)
          case hSc5 => exact ⟨(World.cell?_setCell_far _ _ _ _ (by simp only []; omega)).trans hHeldc4.1, (World.cell?_setCell_far _ _ _ _ (by simp only []; omega)).trans hHeldc4.2.1, (World.cell?_setCell_far _ _ _ _ (by simp only []; omega)).trans hHeldc4.2.2⟩
          clear hK K
          (try simp only [Act.put, List.setIfInBounds_toArray, List.set_cons_zero, List.set_cons_succ, List.getElem_toArray, List.getElem_cons_zero, List.getElem_cons_succ])
          refine wpAnyH_done (by kernel_rfl) ?_ _
          have HFF := Lib.hid hF6
          clear hF6 hc6 hf6 hown6 hg6 hat6 hG3 hC3 hb3 l3 l4 l1 z0 z1 z2
          go_wp2_with fail
          go_roundw
          case rel => exact ⟨cl.length + 1, _, _, by omega, by go_num, by simp, HFF.out⟩
          case measure => simp [intOf]; omega
        · -- behind the list of one
          go_simp
          refine hK.out _ _ ?hSd3 (fun hHeldd3 => ?_)
          case hSd3 => exact ⟨(World.cell?_alloc_lt _ _ _ (World.block_lt_of_cell? _ _ hHeldb2.1)).trans hHeldb2.1, (World.cell?_alloc_lt _ _ _ (World.block_lt_of_cell? _ _ hHeldb2.2.1)).trans hHeldb2.2.1, (World.cell?_alloc_lt _ _ _ (World.block_lt_of_cell? _ _ hHeldb2.2.2)).trans hHeldb2.2.2⟩
          clear hK K
          (try simp only [Act.put, List.setIfInBounds_toArray, List.set_cons_zero, List.set_cons_succ, List.getElem_toArray, List.getElem_cons_zero, List.getElem_cons_succ])
          refine wpAnyH_ready (rs := [0]) (by kernel_rfl) (by simp) ?_
          refine AllReadyH.cons rfl (fun K hK => ?_) AllReadyH.nil
          go_simp
          refine hK.out _ _ ?hSd0 (fun hHeldd0 => ?_)
          case hSd0 => exact hHeldd3
          clear hK K
          (try simp only [Act.put, List.setIfInBounds_toArray, List.set_cons_zero, List.set_cons_succ, List.getElem_toArray, List.getElem_cons_zero, List.getElem_cons_succ])
          refine wpAnyH_ready (rs := [4]) (by kernel_rfl) (by simp) ?_
          refine AllReadyH.cons rfl (fun K hK => ?_) AllReadyH.nil
          have hone : ∀ u ∈ ([(.func (.func 118) #[] #[.pointer (some ⟨G0 + 1 + 1, 0, none⟩), .pointer (some ⟨G0 + 1, 0, none⟩)])] : List Value), u.oneCell' = true := by intro u hu; rw [List.mem_singleton] at hu; rw [hu]; rfl
          (refine step_append_any _ rfl (.tmp 13) (.tmp 16) _ rfl (w.heap.size + 1 + 1) 112 i0 _ 1 8 Tryz.underlying151 hi0 hz0 hz1 hz2 rfl (by omega) _ cl.length cl (by simp [Act.eval]) (HR3.out.alloc _) (w3.heap.size + 1) (some ⟨w3.heap.size, 0, none⟩) 1 1 [(.func (.func 118) #[] #[.pointer (some ⟨G0 + 1 + 1, 0, none⟩), .pointer (some ⟨G0 + 1, 0, none⟩)])] (by simp [Act.eval]) (reads_lit w3 #[(.func (.func 118) #[] #[.pointer (some ⟨G0 + 1 + 1, 0, none⟩), .pointer (some ⟨G0 + 1, 0, none⟩)])] 112) hone (by simp only [maxLen]; omega) (by omega) (by simp only [World.size_alloc]; have := HB3.out.size; omega) ?_; intro v6 w6 hown6 hg6 hat6)
          obtain ⟨A6, c6, rfl⟩ := own_slice (n := cl.length + 1) hown6
          have hstp := HS.out.step (k := ok) (f := f) (v := v) HB3.out (show Blk w3 (G0 + 1) _ _ by have := hG3; rw [HGI.out] at this; exact this) (show Blk w3 (G0 + 1 + 1) _ _ by have := hC3; rw [HGI.out] at this; exact this) (by omega) (by omega) HCC.out hg6 hown6
          refine hK.out _ _ ?hSd4 (fun hHeldd4 => ?_)
          case hSd4 => exact HSTAY.out _ w6 hHeldd0 hg6
          clear hK K
          (try simp only [Act.put, List.setIfInBounds_toArray, List.set_cons_zero, List.set_cons_succ, List.getElem_toArray, List.getElem_cons_zero, List.getElem_cons_succ])
          refine wpAnyH_ready (rs := [5]) (by kernel_rfl) (by simp) ?_
          refine AllReadyH.cons rfl (fun K hK => ?_) AllReadyH.nil
          obtain ⟨hF6, hc6, hf6⟩ := hstp
          go_simp
          refine hK.out _ _ ?hSd5 (fun hHeldd5 => ?_)
          case hSd5 => exact ⟨(World.cell?_setCell_far _ _ _ _ (by simp only []; omega)).trans hHeldd4.1, (World.cell?_setCell_far _ _ _ _ (by simp only []; omega)).trans hHeldd4.2.1, (World.cell?_setCell_far _ _ _ _ (by simp only []; omega)).trans hHeldd4.2.2⟩
          clear hK K
          (try simp only [Act.put, List.setIfInBounds_toArray, List.set_cons_zero, List.set_cons_succ, List.getElem_toArray, List.getElem_cons_zero, List.getElem_cons_succ])
          refine wpAnyH_done (by kernel_rfl) ?_ _
          have HFF := Lib.hid hF6
          clear hF6 hc6 hf6 hown6 hg6 hat6 hG3 hC3 hb3 l3 l4 l1 z0 z1 z2
          go_wp2_with fail
          go_roundw
          case rel => exact ⟨cl.length + 1, _, _, by omega, by go_num, by simp, HFF.out⟩
          case measure => simp [intOf]; omega
    · have k3 : decide ((cl.length : Int) < (nw : Int)) = false := by rw [decide_eq_false_iff_not]; omega
      go_wp2_with fail
      go_ret
      exact ⟨vl, cl, by omega, rfl, HS.out⟩
end Go.Proofs.YtfnlddloalineaaGreatDoor
